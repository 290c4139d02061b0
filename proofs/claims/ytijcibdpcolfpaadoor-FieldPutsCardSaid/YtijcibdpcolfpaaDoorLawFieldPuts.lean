-- Written by a program of this session (wip/tools/myprint.sh)
import Derived.Test.YtijcibdpcolfpaaDoorOpen
import Derived.Test.YtijcibdpcolfpaaDoorRows
import Derived.Test.YtijcibdpcolfpaaDoorCards
import Derived.Test.YtijcibdpcolfpaaDoorTie
import Derived.Test.YtijcibdpcolfpaaDoorPFieldPutsx5
import Derived.Test.YtijcibdpcolfpaaDoorPureFieldPuts
import Derived.WalkKit
import Derived.ProofKit
import Derived.OpenShut
import Derived.ShutString
import Derived.ChangeOld
import Derived.Below
import Derived.SizedLaws
import Derived.Lay
import Derived.LaidMore
import Derived.Handed
import Derived.SevenTiedAt
import Derived.Stop.Joined
import Derived.Test.YtijcibdpcolfpaaDoorWSized
namespace Go.Proofs.YtijcibdpcolfpaaDoor.fieldPuts
open Go.Proofs.YtijcibdpcolfpaaDoor Go.Proofs.YtijcibdpcolfpaaDoor.PFieldPuts Go.Proofs.YtijcibdpcolfpaaDoorW.PrintWords Go.ChangeShapes Go.WideShapes Go.ChangeAt Go.RowKit
open Go.ChangeMaps (open_string shut_string)
set_option linter.unusedVariables false
theorem own : ownKnob Tryd.prog.godebug = none := by kernel_rfl
theorem laidOut : laidOutB Tryd.prog = true := by kernel_rfl
def IsRow (k : IntKind) (w : World) (a : Option Addr) (len cap : Nat) (zs : List Int) : Prop :=
  (a = none ∧ len = 0 ∧ cap = 0 ∧ zs = []) ∨
  ∃ x, a = some x ∧ len ≤ cap ∧ cap ≤ maxLen ∧ zs.length = cap ∧ (∀ i, i < zs.length → w.cell? (x.add i) = some (.int k (zs.getD i 0))) ∧ ∀ n ∈ zs, (Lit.int k n).wf = true
set_option maxRecDepth 100000 in
theorem lifted (os : Os) (started : os.Started) (H : Type) (enc : TypeId × Value → H) :
    ReturnsInHanded {} Tryd.checked os 6 .any (fun w args => (Rows.fieldPutsSpec.pre enc Tryd.prog Tryd.f6 Rows.fieldPutsRow.domain false w args ∧ laidMetH Tryd.prog Rows.fieldPutsRow.laid w) ∧ sizedMet enc Tryd.prog Tryd.f6 (OpenSpec.ofChange Rows.fieldPutsSpec) false w args) (Rows.fieldPutsSpec.post enc Tryd.prog Tryd.f6 false true false false) := by
  refine returnsInHanded_of_change_and (C := Tryd.checked) (X := fun w _ => laidMetH Tryd.prog Rows.fieldPutsRow.laid w) (fun _ _ _ hh h => h.of_heap hh) own started (by kernel_rfl) Tryd.func6
    (ChangeSpec.witness_shaped (enc := enc) (C := Tryd.checked) (os := os) (X := fun w _ => laidMetH Tryd.prog Rows.fieldPutsRow.laid w) false (World.laidAll Tryd.prog os Rows.fieldPutsRow.laid) #[.slice none 0 0, .slice none 0 0] 8 (World.laidAll_os _ _ _)
      (World.shaped_of_ZipB (by kernel_rfl) (by kernel_rfl)) (by kernel_rfl) (by kernel_rfl) (by kernel_rfl)
      (by rw [MakeChecks.laidMetH_plain _ _ _ (by kernel_rfl)]; exact laidMet_laidAll _ (by kernel_rfl) (by kernel_rfl))) ?_
  intro W base args ds gs before hval0 hW hcnd hsz0 hL _
  have hsz : (DataW.weightsEach Tryd.prog (Tryd.f6.params.toList ++ Rows.fieldPutsSpec.plain.varTypes Tryd.prog) (ds ++ gs)).all (· ≤ reachBytes) = true := hsz0
  have hval : ∀ (j : Nat) t v, Tryd.f6.params[j]? = some t → args[j]? = some v → Value.okWide Tryd.prog W .any base t v := hval0
  have hW' := hW
  obtain ⟨p, q, hA0, hV, rfl, hfz, hnd⟩ := hW
  have hA : DataW.TrodAll enc Tryd.prog W 0 (fun _ => true) true Tryd.f6.params.toList args.toList ds p := hA0
  rw [Tryd.params6] at hA hval hsz
  obtain ⟨v0, vs0, d0, ds0, p0, q0, hargs, rfl, rfl, h0, r0⟩ := trodAll_cons hA
  obtain ⟨v1, vs1, d1, ds1, p1, q1, rfl, rfl, rfl, h1, r1⟩ := trodAll_cons r0
  obtain ⟨rfl, rfl, rfl⟩ := trodAll_nil r1
  obtain rfl : args = #[v0, v1] := by cases args; simp_all
  obtain ⟨rfl, rfl⟩ := trodVars_none hV
  obtain ⟨a0, len0, cap0, rfl⟩ := okWide_slice Tryd.underlying50 (hval 0 50 v0 rfl rfl)
  have k0 := h0
  have lt0 : ∀ x ∈ p0, x.block < W.heap.size := by obtain ⟨m, hm⟩ := k0; exact DataW.trod_lt m _ _ _ hm
  obtain ⟨l0, ⟨A0, c0, hcs0, hle0, hC0⟩, w0⟩ := (show ∃ a, (Kd.slice 51 k51).K W a (Value.slice a0 len0 cap0).cells.toList ∧ (a.length ≤ 9223372036854775807 ∧ ∀ x0_ ∈ a, ((Lit.int .u8 x0_.f0).wf = true ∧ (Lit.int .u8 x0_.f1).wf = true)) from by obtain ⟨fuel, hf⟩ := h0; exact (Open.slice Tryd.underlying50 (by kernel_rfl) (Open.iso (fun x : S51 => (x.f0, x.f1)) (fun p => ⟨p.1, p.2⟩) (fun _ => rfl) (Open.array2 Tryd.underlying51 (by kernel_rfl) (by kernel_rfl) (Open.int Tryd.underlying5)))) _ _ _ _ _ fuel _ _ hf (fun n_ hn_ => by have := List.all_eq_true.1 hsz n_ (DataW.weights_mem_each (j := 0) rfl rfl n_ hn_); simpa using this))
  simp only [Value.cells, List.cons.injEq, Value.slice.injEq, and_true] at hcs0
  obtain ⟨rfl, rfl, rfl⟩ := hcs0
  obtain ⟨a1, len1, cap1, rfl⟩ := okWide_slice Tryd.underlying33 (hval 1 33 v1 rfl rfl)
  have k1 := h1
  have lt1 : ∀ x ∈ p1, x.block < W.heap.size := by obtain ⟨m, hm⟩ := k1; exact DataW.trod_lt m _ _ _ hm
  obtain ⟨l1, ⟨A1, c1, hcs1, hle1, hC1⟩, w1⟩ := (show ∃ a, (Kd.slice 9 Kd.string).K W a (Value.slice a1 len1 cap1).cells.toList ∧ (a.length ≤ 9223372036854775807 ∧ ∀ x0_ ∈ a, x0_.size ≤ 140737488351232) from by obtain ⟨fuel, hf⟩ := h1; exact (Open.slice Tryd.underlying33 (by kernel_rfl) (Open.string Tryd.underlying9)) _ _ _ _ _ fuel _ _ hf (fun n_ hn_ => by have := List.all_eq_true.1 hsz n_ (DataW.weights_mem_each (j := 1) rfl rfl n_ hn_); simpa using this))
  simp only [Value.cells, List.cons.injEq, Value.slice.injEq, and_true] at hcs1
  obtain ⟨rfl, rfl, rfl⟩ := hcs1
  clear hA0 hval0 hsz0 hsz
  obtain ⟨k, h⟩ := Pure.FieldPuts l0 l1 w0 w1
  refine (PFieldPuts.parallaxlaw9_FieldPuts.calls k _ _ l0 _ _ l1 true W hC0 hle0 hC1 hle1 rfl h).mono fun e W' ⟨he, bel⟩ => ?_
  subst he
  exact ⟨_, rfl, _, _, _, [], _, [], hW', trodAll_mk1 (shut_bool Tryd.underlying4 _), (trodAll_cons_mk (Below.trod laidOut (by kernel_rfl) (of_decide_eq_true (by kernel_rfl)) k0 bel lt0) (trodAll_cons_mk (Below.trod laidOut (by kernel_rfl) (of_decide_eq_true (by kernel_rfl)) k1 bel lt1) trodAll_mk0)), rfl, bel.frame _, fun h => by cases h⟩
theorem over : Rows.fieldPutsRow.holds Tryd.pinned (OpenSpec.ofChange Rows.fieldPutsSpec) :=
  OpenClaim.holds_of_wide 6 Tryd.f6 rfl rfl rfl rfl rfl rfl rfl ⟨rfl, rfl, rfl, rfl, rfl⟩ rfl rfl rfl rfl rfl (by kernel_rfl) Tryd.func6 (by kernel_rfl)
    (of_decide_eq_true (by kernel_rfl)) (by unfold Func.isWrapper; first | (rw [if_pos (by decide +kernel)]; kernel_rfl) | (rw [if_neg (by decide +kernel)]; exact ⟨rfl, rfl⟩))
    (fun os started H enc _ => lifted os started H enc)
theorem proved : Rows.FieldPutsCardSaid :=
  Claim7.holds_tied_plain_at .later [] [.data, .pinned] true (true, "c97920813f4f6a538a6333b359eb0a57e880afbb50f7c1ea0e72a3313363a81b") false
    over (fun _ h => by cases h) (by kernel_rfl) (fun _ h => by cases h) fieldPuts_row_tie rfl ⟨rfl, rfl⟩ (by kernel_rfl) rfl
    (fun f fn hf hfn => by
      obtain rfl : f = 6 := Option.some.inj ((show Tryd.prog.funcNamed "parallax/parallaxlaw9.FieldPuts" = some 6 by kernel_rfl).symm.trans hf) |>.symm
      obtain rfl : fn = Tryd.f6 := (Option.some.inj (Tryd.func6.symm.trans hfn)).symm
      exact ⟨by kernel_rfl, fun j t ht => by
        rw [Tryd.params6] at ht
        have hm : t ∈ [50, 33] := by simpa using Array.mem_of_getElem? ht
        have hall : ([50, 33].all fun u => !Tryd.prog.wantsStandIn u) = true := by kernel_rfl
        exact (show Tryd.prog.wantsStandIn t = false by simpa using List.all_eq_true.1 hall t hm)⟩)
    (by kernel_rfl)
#print axioms proved
end Go.Proofs.YtijcibdpcolfpaaDoor.fieldPuts
namespace Go.Proofs.YtijcibdpcolfpaaDoor
/-- The row, under a short name, for the claim. -/
theorem fieldPuts_holds : Rows.FieldPutsCardSaid := fieldPuts.proved
end Go.Proofs.YtijcibdpcolfpaaDoor
