-- Written by a program of this session (wip/tools/myprint.sh)
import Derived.Test.YtjnphebgbdjohaaDoorOpen
import Derived.Test.YtjnphebgbdjohaaDoorRows
import Derived.Test.YtjnphebgbdjohaaDoorCards
import Derived.Test.YtjnphebgbdjohaaDoorTie
import Derived.Test.YtjnphebgbdjohaaDoorPQuirksTellx5
import Derived.Test.YtjnphebgbdjohaaDoorPureQuirksTell
import Derived.WalkKit
import Derived.ProofKit
import Derived.OpenShut
import Derived.ShutString
import Derived.ChangeOld
import Derived.Below
import Derived.SizedLaws
import Derived.Lay
import Derived.LaidMore
import Derived.Handed
import Derived.SevenTiedAt
import Derived.Stop.Joined
import Derived.Test.YtjnphebgbdjohaaDoorWSized
namespace Go.Proofs.YtjnphebgbdjohaaDoor.quirksTell
open Go.Proofs.YtjnphebgbdjohaaDoor Go.Proofs.YtjnphebgbdjohaaDoor.PQuirksTell Go.Proofs.YtjnphebgbdjohaaDoorW.PrintWords Go.ChangeShapes Go.WideShapes Go.ChangeAt Go.RowKit
open Go.ChangeMaps (open_string shut_string)
set_option linter.unusedVariables false
theorem own : ownKnob Tryd.prog.godebug = none := by kernel_rfl
theorem laidOut : laidOutB Tryd.prog = true := by kernel_rfl
def IsRow (k : IntKind) (w : World) (a : Option Addr) (len cap : Nat) (zs : List Int) : Prop :=
  (a = none ∧ len = 0 ∧ cap = 0 ∧ zs = []) ∨
  ∃ x, a = some x ∧ len ≤ cap ∧ cap ≤ maxLen ∧ zs.length = cap ∧ (∀ i, i < zs.length → w.cell? (x.add i) = some (.int k (zs.getD i 0))) ∧ ∀ n ∈ zs, (Lit.int k n).wf = true
set_option maxRecDepth 100000 in
theorem lifted (os : Os) (started : os.Started) (H : Type) (enc : TypeId × Value → H) :
    ReturnsInHanded {} Tryd.checked os 3 .any (fun w args => (Rows.quirksTellSpec.pre enc Tryd.prog Tryd.f3 Rows.quirksTellRow.domain false w args ∧ laidMetH Tryd.prog Rows.quirksTellRow.laid w) ∧ sizedMet enc Tryd.prog Tryd.f3 (OpenSpec.ofChange Rows.quirksTellSpec) false w args) (Rows.quirksTellSpec.post enc Tryd.prog Tryd.f3 false true false false) := by
  refine returnsInHanded_of_change_and (C := Tryd.checked) (X := fun w _ => laidMetH Tryd.prog Rows.quirksTellRow.laid w) (fun _ _ _ hh h => h.of_heap hh) own started (by kernel_rfl) Tryd.func3
    (ChangeSpec.witness_shaped (enc := enc) (C := Tryd.checked) (os := os) (X := fun w _ => laidMetH Tryd.prog Rows.quirksTellRow.laid w) false (World.laidAll Tryd.prog os Rows.quirksTellRow.laid) #[.int .u32 0, .int .u8 0, .int .i64 0, .slice none 0 0, .string ByteArray.empty, .agg #[.int .i64 0, .int .i64 0, .int .i64 0, .int .i64 0, .int .i64 0, .int .i64 0, .int .i64 0, .int .i64 0, .bool false, .bool false]] 8 (World.laidAll_os _ _ _)
      (World.shaped_of_ZipB (by kernel_rfl) (by kernel_rfl)) (by kernel_rfl) (by kernel_rfl) (by kernel_rfl)
      (by rw [MakeChecks.laidMetH_plain _ _ _ (by kernel_rfl)]; exact laidMet_laidAll _ (by kernel_rfl) (by kernel_rfl))) ?_
  intro W base args ds gs before hval0 hW hcnd hsz0 hL _
  have hsz : (DataW.weightsEach Tryd.prog (Tryd.f3.params.toList ++ Rows.quirksTellSpec.plain.varTypes Tryd.prog) (ds ++ gs)).all (· ≤ reachBytes) = true := hsz0
  have hval : ∀ (j : Nat) t v, Tryd.f3.params[j]? = some t → args[j]? = some v → Value.okWide Tryd.prog W .any base t v := hval0
  have hW' := hW
  obtain ⟨p, q, hA0, hV, rfl, hfz, hnd⟩ := hW
  have hA : DataW.TrodAll enc Tryd.prog W 0 (fun _ => true) true Tryd.f3.params.toList args.toList ds p := hA0
  rw [Tryd.params3] at hA hval hsz
  obtain ⟨v0, vs0, d0, ds0, p0, q0, hargs, rfl, rfl, h0, r0⟩ := trodAll_cons hA
  obtain ⟨v1, vs1, d1, ds1, p1, q1, rfl, rfl, rfl, h1, r1⟩ := trodAll_cons r0
  obtain ⟨v2, vs2, d2, ds2, p2, q2, rfl, rfl, rfl, h2, r2⟩ := trodAll_cons r1
  obtain ⟨v3, vs3, d3, ds3, p3, q3, rfl, rfl, rfl, h3, r3⟩ := trodAll_cons r2
  obtain ⟨v4, vs4, d4, ds4, p4, q4, rfl, rfl, rfl, h4, r4⟩ := trodAll_cons r3
  obtain ⟨v5, vs5, d5, ds5, p5, q5, rfl, rfl, rfl, h5, r5⟩ := trodAll_cons r4
  obtain ⟨rfl, rfl, rfl⟩ := trodAll_nil r5
  obtain rfl : args = #[v0, v1, v2, v3, v4, v5] := by cases args; simp_all
  obtain ⟨rfl, rfl⟩ := trodVars_none hV
  obtain ⟨a0, rfl, rfl, rfl, w0⟩ := open_int Tryd.underlying22 (hval 0 22 v0 rfl rfl) h0
  obtain ⟨a1, rfl, rfl, rfl, w1⟩ := open_int Tryd.underlying5 (hval 1 5 v1 rfl rfl) h1
  obtain ⟨a2, rfl, rfl, rfl, w2⟩ := open_int Tryd.underlying3 (hval 2 3 v2 rfl rfl) h2
  obtain ⟨a3, len3, cap3, rfl⟩ := okWide_slice Tryd.underlying23 (hval 3 23 v3 rfl rfl)
  have k3 := h3
  have lt3 : ∀ x ∈ p3, x.block < W.heap.size := by obtain ⟨m, hm⟩ := k3; exact DataW.trod_lt m _ _ _ hm
  obtain ⟨z3, w3⟩ : ∃ zs, IsRow .i64 W a3 len3 cap3 zs := by
    obtain ⟨fuel, hf⟩ := h3
    rcases open_ints Tryd.underlying23 Tryd.underlying3 (by kernel_rfl) hf with ⟨hcs, _⟩ | ⟨x, l, c, zs, hcs, _, hl, hm, hz, _, hcell, hwz⟩
    · simp [Value.cells] at hcs
      obtain ⟨rfl, rfl, rfl⟩ := hcs
      exact ⟨[], .inl ⟨rfl, rfl, rfl, rfl⟩⟩
    · simp [Value.cells] at hcs
      obtain ⟨rfl, rfl, rfl⟩ := hcs
      exact ⟨zs, .inr ⟨_, rfl, hl, hm, by simpa using hz, hcell, hwz⟩⟩
  have y3 : len3 * 8 ≤ 140737488351232 := Go.Proofs.YtjnphebgbdjohaaDoorW.PrintWords.sized_ints hsz (j := 3) (t := 23) rfl rfl Tryd.underlying23 Tryd.underlying3 (by kernel_rfl) (by kernel_rfl) h3
  obtain ⟨a4, rfl, rfl, rfl, y4⟩ := open_string Tryd.underlying9 (hval 4 9 v4 rfl rfl) h4
  have w4 : a4.size ≤ 140737488351232 := by
    have z := sized_string hsz (j := 4) (t := 9) rfl rfl
    rw [Array.length_toList] at z
    exact z
  obtain ⟨cs5, rfl, _⟩ := okWide_struct Tryd.underlying25 (hval 5 25 v5 rfl rfl)
  have k5 := h5
  have lt5 : ∀ x ∈ p5, x.block < W.heap.size := by obtain ⟨m, hm⟩ := k5; exact DataW.trod_lt m _ _ _ hm
  obtain ⟨a5, hK5, w5⟩ := (show ∃ a, k25.K W a (Value.agg cs5).cells.toList ∧ ((Lit.int .i64 a.f0).wf = true ∧ (Lit.int .i64 a.f1).wf = true ∧ (Lit.int .i64 a.f2).wf = true ∧ (Lit.int .i64 a.f3).wf = true ∧ (Lit.int .i64 a.f4).wf = true ∧ (Lit.int .i64 a.f5).wf = true ∧ (Lit.int .i64 a.f6).wf = true ∧ (Lit.int .i64 a.f7).wf = true ∧ True ∧ True) from by obtain ⟨fuel, hf⟩ := h5; exact (Open.iso (fun x : S25 => (x.f0, x.f1, x.f2, x.f3, x.f4, x.f5, x.f6, x.f7, x.f8, x.f9)) (fun p => ⟨p.1, p.2.1, p.2.2.1, p.2.2.2.1, p.2.2.2.2.1, p.2.2.2.2.2.1, p.2.2.2.2.2.2.1, p.2.2.2.2.2.2.2.1, p.2.2.2.2.2.2.2.2.1, p.2.2.2.2.2.2.2.2.2⟩) (fun _ => rfl) (Open.struct Tryd.underlying25 (by kernel_rfl) (Open.more rfl (by kernel_rfl) (Open.int Tryd.underlying3) (Open.more rfl (by kernel_rfl) (Open.int Tryd.underlying3) (Open.more rfl (by kernel_rfl) (Open.int Tryd.underlying3) (Open.more rfl (by kernel_rfl) (Open.int Tryd.underlying3) (Open.more rfl (by kernel_rfl) (Open.int Tryd.underlying3) (Open.more rfl (by kernel_rfl) (Open.int Tryd.underlying3) (Open.more rfl (by kernel_rfl) (Open.int Tryd.underlying3) (Open.more rfl (by kernel_rfl) (Open.int Tryd.underlying3) (Open.more rfl (by kernel_rfl) (Open.bool Tryd.underlying4) (Open.one rfl (by kernel_rfl) (Open.bool Tryd.underlying4))))))))))))) _ _ _ _ _ fuel _ _ hf (fun n_ hn_ => by have := List.all_eq_true.1 hsz n_ (DataW.weights_mem_each (j := 5) rfl rfl n_ hn_); simpa using this))
  have hk5 := k25_open hK5
  obtain rfl : cs5 = #[.int .i64 a5.f0, .int .i64 a5.f1, .int .i64 a5.f2, .int .i64 a5.f3, .int .i64 a5.f4, .int .i64 a5.f5, .int .i64 a5.f6, .int .i64 a5.f7, .bool a5.f8, .bool a5.f9] := by obtain ⟨l_⟩ := cs5; simp only [Value.cells] at hk5; subst hk5; rfl
  obtain ⟨l3, rfl, hr3, hm3, hw3, hc3⟩ := Go.Proofs.YtjnphebgbdjohaaDoorW.PrintWords.ReadsInt.ofRowC w3
  clear hA0 hval0 hsz0 hsz
  obtain ⟨k, h⟩ := Pure.QuirksTell a0 a1 a2 l3 a4 a5.f0 a5.f1 a5.f2 a5.f3 a5.f4 a5.f5 a5.f6 a5.f7 a5.f8 a5.f9 w0 w1 w2 hm3 y3 hw3 w4 w5
  refine (PQuirksTell.parallaxlaw5_QuirksTell.calls k a0 a1 a2 _ _ l3 a4 a5.f0 a5.f1 a5.f2 a5.f3 a5.f4 a5.f5 a5.f6 a5.f7 a5.f8 a5.f9 true W (Go.Proofs.YtjnphebgbdjohaaDoorW.PrintWords.Kd.C_of_reads (d := (0 : Int)) (h1 := fun _ => rfl) hr3) hc3 w0 w1 w2 rfl (Laid.of_met (by kernel_rfl) hL) h).mono fun e W' ⟨he, bel⟩ => ?_
  subst he
  exact ⟨_, rfl, _, _, _, [], _, [], hW', trodAll_mk1 (shut_bool Tryd.underlying4 _), (trodAll_cons_mk (shut_int Tryd.underlying22 w0) (trodAll_cons_mk (shut_int Tryd.underlying5 w1) (trodAll_cons_mk (shut_int Tryd.underlying3 w2) (trodAll_cons_mk (Below.trod laidOut (by kernel_rfl) (of_decide_eq_true (by kernel_rfl)) k3 bel lt3) (trodAll_cons_mk (shut_string Tryd.underlying9 y4) (trodAll_cons_mk (Below.trod laidOut (by kernel_rfl) (of_decide_eq_true (by kernel_rfl)) k5 bel lt5) trodAll_mk0)))))), rfl, bel.frame _, fun h => by cases h⟩
theorem over : Rows.quirksTellRow.holds Tryd.pinned (OpenSpec.ofChange Rows.quirksTellSpec) :=
  OpenClaim.holds_of_wide 3 Tryd.f3 rfl rfl rfl rfl rfl rfl rfl ⟨rfl, rfl, rfl, rfl, rfl⟩ rfl rfl rfl rfl rfl (by kernel_rfl) Tryd.func3 (by kernel_rfl)
    (of_decide_eq_true (by kernel_rfl)) (by unfold Func.isWrapper; first | (rw [if_pos (by decide +kernel)]; kernel_rfl) | (rw [if_neg (by decide +kernel)]; exact ⟨rfl, rfl⟩))
    (fun os started H enc _ => lifted os started H enc)
theorem proved : Rows.QuirksTellCardSaid :=
  Claim7.holds_tied_plain_at .later [] [.listed, .data] true (true, "f5673e8d8de4a852055e0d151f65857bb67771ab1c11b44169d062ce7080eeaf") false
    over (fun _ h => by cases h) (by kernel_rfl) (fun _ h => by cases h) quirksTell_row_tie rfl ⟨rfl, rfl⟩ (by kernel_rfl) rfl
    (fun f fn hf hfn => by
      obtain rfl : f = 3 := Option.some.inj ((show Tryd.prog.funcNamed "parallax/parallaxlaw5.QuirksTell" = some 3 by kernel_rfl).symm.trans hf) |>.symm
      obtain rfl : fn = Tryd.f3 := (Option.some.inj (Tryd.func3.symm.trans hfn)).symm
      exact ⟨by kernel_rfl, fun j t ht => by
        rw [Tryd.params3] at ht
        have hm : t ∈ [22, 5, 3, 23, 9, 25] := by simpa using Array.mem_of_getElem? ht
        have hall : ([22, 5, 3, 23, 9, 25].all fun u => !Tryd.prog.wantsStandIn u) = true := by kernel_rfl
        exact (show Tryd.prog.wantsStandIn t = false by simpa using List.all_eq_true.1 hall t hm)⟩)
    (by kernel_rfl)
#print axioms proved
end Go.Proofs.YtjnphebgbdjohaaDoor.quirksTell
namespace Go.Proofs.YtjnphebgbdjohaaDoor
/-- The row, under a short name, for the claim. -/
theorem quirksTell_holds : Rows.QuirksTellCardSaid := quirksTell.proved
end Go.Proofs.YtjnphebgbdjohaaDoor
