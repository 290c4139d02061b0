-- Written by a program of this session (wip/tools/myprint.sh)
import Derived.Test.YtijcibdpcolfpaaDoorPFieldExtendsx0
import Derived.Test.YtijcibdpcolfpaaDoorPFieldExtendsx1
import Derived.Test.YtijcibdpcolfpaaDoorPFieldExtendsx3
import Derived.Test.YtijcibdpcolfpaaDoorPFieldExtendsx4
namespace Go.Proofs.YtijcibdpcolfpaaDoor.PFieldExtends
open Go.RowKit Go.Proofs.YtijcibdpcolfpaaDoorW.PrintWords Go.Proofs.YtijcibdpcolfpaaDoorW.PrintLast Go.Proofs.YtijcibdpcolfpaaDoorW.PrintMore
attribute [local go_sem] max2_int min2_int max_two min_two max_three min_three max_four min_four   -- for this text's walks alone
set_option linter.unusedVariables false
set_option linter.unusedSimpArgs false

attribute [local go_sem high] eqA25
/-! ### parallaxlaw9_FieldExtends: function 4 -/
def parallaxlaw9_FieldExtends.l0 : Nat → ByteArray → Int → List ByteArray → Int → Int → Option (Bool)
  | 0, _, _, _, _, _ => none
  | k + 1, x0, x2, x39, x40, x41 => if x41 < x40 then (if 0 ≤ x41 then (if x41 < (x39.length : Int) then ((field_Parse.f k (rdOf ByteArray.empty x39 x41) 0).bind fun bt212 => (if bt212.2.2.2 = 0 then ((field_Parse.f k (rdOf ByteArray.empty x39 x41) (Go.bits .and .u32 x2 1073741823)).bind fun bt217 => ((field_Put.f (([(⟨bt212.1, bt212.2.1⟩ : S25)] : List (S25)))).bind fun t225 => (if bt212.2.2.1 = true then ((field_Right.f k bt212.1 bt212.2.1).bind fun t226 => (if t226 = true then (if bt217.2.2.1 = true then (if bt217.2.2.2 = 0 then (if (!(bt217.1.toList == bt212.1.toList) || (!(bt217.2.1.toList == bt212.2.1.toList))) = true then (some false) else (if (t225.size : Int) < 2 then (some false) else (if 0 ≤ (wrap64 ((t225.size : Int) - 2)) then (if (wrap64 ((t225.size : Int) - 2)) ≤ (t225.size : Int) then ((field_Parse.f k (t225.extract 0 ((wrap64 ((t225.size : Int) - 2)) : Int).toNat) 0).bind fun bt227 => (if bt227.2.2.1 = true then (if bt227.2.2.2 = 0 then (if (!(bt227.1.toList == bt212.1.toList) || (!(bt227.2.1.toList == bt212.2.1.toList))) = true then (some false) else (parallaxlaw9_FieldExtends.l0 k x0 x2 x39 x40 (wrap64 (x41 + 1)))) else (some false)) else (some false))) else (none)) else (none)))) else (some false)) else (some false)) else (some false))) else (some false)))) else (parallaxlaw9_FieldExtends.l0 k x0 x2 x39 x40 (wrap64 (x41 + 1))))) else (none)) else (none)) else ((parallaxref1_Trim.f k x0).bind fun t232 => (if 1 + x0.size ≤ 9223372036854775807 then ((parallaxref1_Trim.f k ((⟨#[32]⟩ : ByteArray) ++ x0)).bind fun t233 => (some (t232.toList == t233.toList))) else (none)))
def parallaxlaw9_FieldExtends.f (k : Nat) (a0 : ByteArray) (l1 : List Int) (a2 : Int) (a3 : Int) (a4 : Int) : Option (Bool) := (parallaxlaw9_known.f k).bind fun t205 => (if t205 = true then (if (a0.size : Int) > 80 then (some true) else (if (l1.length : Int) > 12 then (some true) else ((parallaxlaw9_some.f k l1).bind fun t206 => ((parallaxseat_Field.f a3 a4).bind fun t207 => ((some (([a0, t206, t207] : List ByteArray) : List ByteArray)).bind fun y208 => (parallaxlaw9_FieldExtends.l0 k a0 a2 y208 (y208.length : Int) 0)))))) else (some false))
theorem parallaxlaw9_FieldExtends.mono_l : ∀ k, (∀ y0 y1 y2 y3 y4, LeO (parallaxlaw9_FieldExtends.l0 k y0 y1 y2 y3 y4) (parallaxlaw9_FieldExtends.l0 (k + 1) y0 y1 y2 y3 y4))
  | 0 => fun _ _ _ _ _ r h => by simp [parallaxlaw9_FieldExtends.l0] at h
  | k + 1 => by
    have ih0 := parallaxlaw9_FieldExtends.mono_l k
    · intro y0 y1 y2 y3 y4
      unfold parallaxlaw9_FieldExtends.l0
      repeat' first
      | (with_reducible exact ih0 _ _ _ _ _)
      | (with_reducible exact field_Parse.mono _ _ _)
      | (with_reducible exact field_Right.mono _ _ _)
      | (with_reducible exact parallaxlaw9_known.mono _)
      | (with_reducible exact parallaxlaw9_some.mono _ _)
      | (with_reducible exact parallaxref1_Trim.mono _ _)
      | (with_reducible exact LeO.refl _)
      | (with_reducible exact LeO.none _)
      | (with_reducible refine LeO.ite ?_ ?_)
      | (with_reducible refine LeO.bind ?_ (fun _ => ?_))
      | exact ih0 _ _ _ _ _
      | exact field_Parse.mono _ _ _
      | exact field_Right.mono _ _ _
      | exact parallaxlaw9_known.mono _
      | exact parallaxlaw9_some.mono _ _
      | exact parallaxref1_Trim.mono _ _
      | exact LeO.none _
      | refine LeO.ite ?_ ?_
      | refine LeO.bind ?_ (fun _ => ?_)
theorem parallaxlaw9_FieldExtends.mono : ∀ a0 a1 a2 a3 a4 k, LeO (parallaxlaw9_FieldExtends.f k a0 a1 a2 a3 a4) (parallaxlaw9_FieldExtends.f (k + 1) a0 a1 a2 a3 a4) := by
  intro a0 a1 a2 a3 a4 k
  have ih0 := parallaxlaw9_FieldExtends.mono_l k
  unfold parallaxlaw9_FieldExtends.f
  repeat' first
      | (with_reducible exact ih0 _ _ _ _ _)
      | (with_reducible exact field_Parse.mono _ _ _)
      | (with_reducible exact field_Right.mono _ _ _)
      | (with_reducible exact parallaxlaw9_known.mono _)
      | (with_reducible exact parallaxlaw9_some.mono _ _)
      | (with_reducible exact parallaxref1_Trim.mono _ _)
      | (with_reducible exact LeO.refl _)
      | (with_reducible exact LeO.none _)
      | (with_reducible refine LeO.ite ?_ ?_)
      | (with_reducible refine LeO.bind ?_ (fun _ => ?_))
      | exact ih0 _ _ _ _ _
      | exact field_Parse.mono _ _ _
      | exact field_Right.mono _ _ _
      | exact parallaxlaw9_known.mono _
      | exact parallaxlaw9_some.mono _ _
      | exact parallaxref1_Trim.mono _ _
      | exact LeO.none _
      | refine LeO.ite ?_ ?_
      | refine LeO.bind ?_ (fun _ => ?_)
set_option maxHeartbeats 8000000 in
set_option maxRecDepth 100000 in
theorem parallaxlaw9_FieldExtends.calls (k : Nat) (a0 : ByteArray) (A1 : Option Addr) (c1 : Nat) (l1 : List Int) (a2 : Int) (a3 : Int) (a4 : Int) (r : Bool) (w : World) (hr1 : Kd.C (Kd.int .u8) w A1 l1.length l1) (hc1 : l1.length ≤ c1) (hq2 : (Lit.int .u32 a2).wf = true) (hq3 : (Lit.int .u8 a3).wf = true) (hq4 : (Lit.int .u8 a4).wf = true) (hT : r = true) (h : parallaxlaw9_FieldExtends.f k a0 l1 a2 a3 a4 = some r) :
    Calls Tryd.prog 4 #[.string a0, .slice A1 l1.length c1, .int .u32 a2, .int .u8 a3, .int .u8 a4] w fun e w' => e = .returned (.bool r) ∧ Below w.heap.size w w' := by
  have hu25 := Tryd.underlying25
  have HQ2 := Aside0.mk hq2
  clear hq2
  have HQ3 := Aside0.mk hq3
  clear hq3
  have HQ4 := Aside0.mk hq4
  clear hq4
  have HT := Aside0.mk hT
  clear hT
  have HR1 := Aside0.mk hr1
  have HC1 := Aside0.mk hc1
  clear hr1 hc1
  have HB := Aside0.mk (Below.refl w.heap.size w)
  have H : ((parallaxlaw9_known.f k).bind fun t205 => (if t205 = true then (if (a0.size : Int) > 80 then (some true) else (if (l1.length : Int) > 12 then (some true) else ((parallaxlaw9_some.f k l1).bind fun t206 => ((parallaxseat_Field.f a3 a4).bind fun t207 => ((some (([a0, t206, t207] : List ByteArray) : List ByteArray)).bind fun y208 => (parallaxlaw9_FieldExtends.l0 k a0 a2 y208 (y208.length : Int) 0)))))) else (some false))) = some r := h
  clear h
  replace H := Option.bind_eq_some_iff.mp H
  obtain ⟨t205, A60, H⟩ := H
  (try dsimp only at H)
  have A6 := Aside0.mk A60
  clear A60
  by_cases c7 : t205 = true
  · subst c7
    rw [if_pos rfl] at H
    by_cases c8 : (a0.size : Int) > 80
    · rw [if_pos c8] at H
      have c8b0 : decide (80 < (a0.size : Int)) = true := decide_eq_true c8
      have c8b1 : decide (80 < a0.size) = true := decide_eq_true (by omega)
      clear c8
      obtain rfl := Option.some.inj H
      go_enter Tryd.func4, Tryd.ntmps4
      go_wp2_with (first | ((with_reducible refine gate_callee (f := 7) rfl ?_); refine goesL_ (some 23) rfl rfl Tryd.func7 (by kernel_rfl) rfl #[] rfl (by (try simp only [List.map_toArray, List.map_cons, List.map_nil]); first | done | rfl | (simp only [List.length_drop, List.length_take]; rfl)) ?_; (with_reducible refine (parallaxlaw9_known.calls k  true _ rfl A6.out).mono ?_); rintro e w9 ⟨rfl, hb⟩; refine ⟨_, rfl, ?_⟩; have n0_ := Aside0.mk (below_step (by repeat (first | (with_reducible first | exact HB.out | apply below_alloc | apply pw_below_drewN | apply below_drew1) | exact HB.out)) hb); clear HB; have HB := n0_; clear n0_; (try clear hb); (try clear hb2); (try clear hk); (try clear hi)) | (go_at_call 7; (with_reducible refine (parallaxlaw9_known.calls k  true _ rfl A6.out).mono ?_); rintro e w9 ⟨rfl, hb⟩; have n0_ := Aside0.mk (below_step (by repeat (first | (with_reducible first | exact HB.out | apply below_alloc | apply pw_below_drewN | apply below_drew1) | exact HB.out)) hb); clear HB; have HB := n0_; clear n0_; (try clear hb); (try clear hb2); (try clear hk); (try clear hi)))
      (try any_goals (exfalso; have h_ := ‹some undef = some (Value.bool _)›; revert h_; simp [undef]; done))
      go_ret
      exact ⟨by first | rfl | (simp [errW_none, errW_some] <;> rfl) | (simp [*, errW_none, errW_some] <;> rfl), by repeat (first | (with_reducible first | exact HB.out | apply below_alloc | apply pw_below_drewN | apply below_drew1) | exact HB.out)⟩
    · rw [if_neg c8] at H
      have c8b0 : decide (80 < (a0.size : Int)) = false := decide_eq_false c8
      have c8b1 : decide (80 < a0.size) = false := decide_eq_false (by omega)
      clear c8
      by_cases c10 : (l1.length : Int) > 12
      · rw [if_pos c10] at H
        have c10b0 : decide (12 < (l1.length : Int)) = true := decide_eq_true c10
        have c10b1 : decide (12 < l1.length) = true := decide_eq_true (by omega)
        clear c10
        obtain rfl := Option.some.inj H
        go_enter Tryd.func4, Tryd.ntmps4
        go_wp2_with (first | ((with_reducible refine gate_callee (f := 7) rfl ?_); refine goesL_ (some 23) rfl rfl Tryd.func7 (by kernel_rfl) rfl #[] rfl (by (try simp only [List.map_toArray, List.map_cons, List.map_nil]); first | done | rfl | (simp only [List.length_drop, List.length_take]; rfl)) ?_; (with_reducible refine (parallaxlaw9_known.calls k  true _ rfl A6.out).mono ?_); rintro e w11 ⟨rfl, hb⟩; refine ⟨_, rfl, ?_⟩; have n0_ := Aside0.mk (below_step (by repeat (first | (with_reducible first | exact HB.out | apply below_alloc | apply pw_below_drewN | apply below_drew1) | exact HB.out)) hb); clear HB; have HB := n0_; clear n0_; (try clear hb); (try clear hb2); (try clear hk); (try clear hi)) | (go_at_call 7; (with_reducible refine (parallaxlaw9_known.calls k  true _ rfl A6.out).mono ?_); rintro e w11 ⟨rfl, hb⟩; have n0_ := Aside0.mk (below_step (by repeat (first | (with_reducible first | exact HB.out | apply below_alloc | apply pw_below_drewN | apply below_drew1) | exact HB.out)) hb); clear HB; have HB := n0_; clear n0_; (try clear hb); (try clear hb2); (try clear hk); (try clear hi)))
        (try any_goals (exfalso; have h_ := ‹some undef = some (Value.bool _)›; revert h_; simp [undef]; done))
        go_ret
        exact ⟨by first | rfl | (simp [errW_none, errW_some] <;> rfl) | (simp [*, errW_none, errW_some] <;> rfl), by repeat (first | (with_reducible first | exact HB.out | apply below_alloc | apply pw_below_drewN | apply below_drew1) | exact HB.out)⟩
      · rw [if_neg c10] at H
        have c10b0 : decide (12 < (l1.length : Int)) = false := decide_eq_false c10
        have c10b1 : decide (12 < l1.length) = false := decide_eq_false (by omega)
        clear c10
        replace H := Option.bind_eq_some_iff.mp H
        obtain ⟨t206, A120, H⟩ := H
        (try dsimp only at H)
        have A12 := Aside0.mk A120
        clear A120
        replace H := Option.bind_eq_some_iff.mp H
        obtain ⟨t207, A130, H⟩ := H
        (try dsimp only at H)
        have A13 := Aside0.mk A130
        clear A130
        obtain ⟨y208, hy208⟩ : ∃ y_ : List ByteArray, y_ = (([a0, t206, t207] : List ByteArray)) := ⟨_, rfl⟩
        replace H : (parallaxlaw9_FieldExtends.l0 k a0 a2 y208 (y208.length : Int) 0) = some r := by first | (rw [hy208]; with_reducible exact H) | (have H2_ := (Option.bind_some _ _).symm.trans H; rw [hy208]; with_reducible exact H2_) | (have H2_ := (Option.bind_some _ _).symm.trans H; with_reducible exact H2_) | with_reducible exact H | (rw [hy208]; exact H) | exact H
        have Ny208 := Aside0.mk hy208
        clear hy208
        have H' := Aside0.mk H
        clear H
        go_enter Tryd.func4, Tryd.ntmps4
        go_wp2_with (first | ((with_reducible refine gate_callee (f := 7) rfl ?_); refine goesL_ (some 23) rfl rfl Tryd.func7 (by kernel_rfl) rfl #[] rfl (by (try simp only [List.map_toArray, List.map_cons, List.map_nil]); first | done | rfl | (simp only [List.length_drop, List.length_take]; rfl)) ?_; (with_reducible refine (parallaxlaw9_known.calls k  true _ rfl A6.out).mono ?_); rintro e w14 ⟨rfl, hb⟩; refine ⟨_, rfl, ?_⟩; have n0_ := Aside0.mk (below_step (by repeat (first | (with_reducible first | exact HB.out | apply below_alloc | apply pw_below_drewN | apply below_drew1) | exact HB.out)) hb); clear HB; have HB := n0_; clear n0_; (try clear hb); (try clear hb2); (try clear hk); (try clear hi)) | ((with_reducible refine gate_callee (f := 10) rfl ?_); refine goesL_ (some 35) rfl rfl Tryd.func10 (by kernel_rfl) rfl #[.slice A1 l1.length c1] rfl (by (try simp only [List.map_toArray, List.map_cons, List.map_nil]); first | done | rfl | (simp only [List.length_drop, List.length_take]; rfl)) ?_; (with_reducible refine (parallaxlaw9_some.calls k _ _ l1 t206 _ ?side1 ?side2 A12.out).mono ?_); (case side1 => repeat (first | exact (Kd.C_below HR1.out HB.out) | (with_reducible refine Kd.C_alloc ?_ _) | (with_reducible refine Kd.C_drewN ?_ _) | (with_reducible refine Kd.C_drew ?_))); (case side2 => exact HC1.out); rintro e w15 ⟨rfl, hb⟩; refine ⟨_, rfl, ?_⟩; have n0_ := Aside0.mk (below_step (by repeat (first | (with_reducible first | exact HB.out | apply below_alloc | apply pw_below_drewN | apply below_drew1) | exact HB.out)) hb); clear HB; have HB := n0_; clear n0_; (try clear hb); (try clear hb2); (try clear hk); (try clear hi)) | ((with_reducible refine gate_callee (f := 11) rfl ?_); refine goesL_ (some 38) rfl rfl Tryd.func11 (by kernel_rfl) rfl #[.int .u8 a3, .int .u8 a4] rfl (by (try simp only [List.map_toArray, List.map_cons, List.map_nil]); first | done | rfl | (simp only [List.length_drop, List.length_take]; rfl)) ?_; (with_reducible refine (parallaxseat_Field.calls a3 a4 t207 _ A13.out).mono ?_); rintro e w16 ⟨rfl, hb⟩; refine ⟨_, rfl, ?_⟩; have n0_ := Aside0.mk (below_step (by repeat (first | (with_reducible first | exact HB.out | apply below_alloc | apply pw_below_drewN | apply below_drew1) | exact HB.out)) hb); clear HB; have HB := n0_; clear n0_; (try clear hb); (try clear hb2); (try clear hk); (try clear hi)) | ((with_reducible refine gate_dst (N := 39) rfl ?_); (try (refine gate_guard (by rfl) ?_; dsimp only)); refine Kd.R_lit Kd.string _ 9 ?hg (N := 39) ?hd (xs := ([a0, t206, t207] : List ByteArray)) (inner := [.string a0, .string t206, .string t207]) (ok := fun _ => True) (okp := fun _ => True) ?hr ?hp (fun _ hk => hk) trivial (Below.refl _ _) (Nat.le_refl _) (by simp) ?_; (case hd => rfl); (case hg => rfl); (case hr => first | (go_simp; done) | (go_simp; rfl)); (case hp => exact (Reps.one (show Kd.M Kd.string _ _ _ a0 [.string a0] from rfl) (Reps.one (show Kd.M Kd.string _ _ _ t206 [.string t206] from rfl) (Reps.one (show Kd.M Kd.string _ _ _ t207 [.string t207] from rfl) (Reps.none _ _))))); intro v209 w17 ho18 hb hg_ hnew_; clear hg_ hnew_; (first | rw [← Ny208.out] at ho18 | (simp only [Int.reduceToNat] at ho18; rw [← Ny208.out] at ho18)); have n0_ := Aside0.mk (Kd.R_lower ho18 (below_size (by repeat (first | (with_reducible first | exact HB.out | apply below_alloc | apply pw_below_drewN | apply below_drew1) | exact HB.out)))); have n1_ := Aside0.mk (below_step (by repeat (first | (with_reducible first | exact HB.out | apply below_alloc | apply pw_below_drewN | apply below_drew1) | exact HB.out)) hb); clear HB; have HO210 := n0_; have HB := n1_; clear n0_ n1_; clear hb ho18; obtain ⟨Ao19, co19, eo19⟩ := Kd.R_slice HO210.out; subst eo19) | (go_at_call 7; (with_reducible refine (parallaxlaw9_known.calls k  true _ rfl A6.out).mono ?_); rintro e w14 ⟨rfl, hb⟩; have n0_ := Aside0.mk (below_step (by repeat (first | (with_reducible first | exact HB.out | apply below_alloc | apply pw_below_drewN | apply below_drew1) | exact HB.out)) hb); clear HB; have HB := n0_; clear n0_; (try clear hb); (try clear hb2); (try clear hk); (try clear hi)) | (go_at_call 10; (with_reducible refine (parallaxlaw9_some.calls k _ _ l1 t206 _ ?side1 ?side2 A12.out).mono ?_); (case side1 => repeat (first | exact (Kd.C_below HR1.out HB.out) | (with_reducible refine Kd.C_alloc ?_ _) | (with_reducible refine Kd.C_drewN ?_ _) | (with_reducible refine Kd.C_drew ?_))); (case side2 => exact HC1.out); rintro e w15 ⟨rfl, hb⟩; have n0_ := Aside0.mk (below_step (by repeat (first | (with_reducible first | exact HB.out | apply below_alloc | apply pw_below_drewN | apply below_drew1) | exact HB.out)) hb); clear HB; have HB := n0_; clear n0_; (try clear hb); (try clear hb2); (try clear hk); (try clear hi)) | (go_at_call 11; (with_reducible refine (parallaxseat_Field.calls a3 a4 t207 _ A13.out).mono ?_); rintro e w16 ⟨rfl, hb⟩; have n0_ := Aside0.mk (below_step (by repeat (first | (with_reducible first | exact HB.out | apply below_alloc | apply pw_below_drewN | apply below_drew1) | exact HB.out)) hb); clear HB; have HB := n0_; clear n0_; (try clear hb); (try clear hb2); (try clear hk); (try clear hi)))
        (try any_goals (exfalso; have h_ := ‹some undef = some (Value.bool _)›; revert h_; simp [undef]; done))
        go_loopg [41] k (fun kq v41 w' => ∃ (x41_1 : Int), v41 = .int .i64 x41_1 ∧ Aside0 (parallaxlaw9_FieldExtends.l0 kq a0 a2 y208 (y208.length : Int) x41_1 = some r) ∧ Aside0 (kq ≤ k) ∧ Aside0 (Kd.R Kd.string 9 w' w.heap.size (fun _ => True) (.slice Ao19 y208.length co19) y208) ∧ Aside0 (Below w.heap.size w w'))
        case atStart => exact ⟨(0), (by first | rfl | (simp; done) | (simp [*]; done)), H', ⟨Nat.le_refl _⟩, ⟨by (with_reducible repeat (first | apply Kd.R_alloc | apply Kd.R_drewN | apply Kd.R_drew)); exact HO210.out⟩, ⟨by repeat (first | (with_reducible first | exact HB.out | apply below_alloc | apply pw_below_drewN | apply below_drew1) | exact HB.out)⟩⟩
        case round =>
          clear H'
          try clear c1
          try clear p2
          try clear q2
          try clear q3
          try clear c4
          try clear q4
          try clear c7
          try clear c8
          try clear c8b0
          try clear c8b1
          try clear c10
          try clear c10b0
          try clear c10b1
          try clear c11
          obtain ⟨x41_1, rfl, HA, HK1, HO_39, HB⟩ := hrel
          cases gk with
          | zero => exact absurd HA.out (by simp [parallaxlaw9_FieldExtends.l0])
          | succ k1 =>
            have H := HA.out
            clear HA
            simp only [parallaxlaw9_FieldExtends.l0] at H
            by_cases c20 : x41_1 < (y208.length : Int)
            · rw [if_pos c20] at H
              have c20b0 : decide (x41_1 < (y208.length : Int)) = true := decide_eq_true c20
              clear c20
              by_cases c21 : 0 ≤ x41_1
              · rw [if_pos c21] at H
                have c21b0 : decide (0 ≤ x41_1) = true := decide_eq_true c21
                clear c21
                by_cases c22 : x41_1 < (y208.length : Int)
                · rw [if_pos c22] at H
                  have c22b0 : decide (x41_1 < (y208.length : Int)) = true := decide_eq_true c22
                  clear c22
                  replace H := Option.bind_eq_some_iff.mp H
                  obtain ⟨⟨t212, t213, t214, t215⟩, A230, H⟩ := H
                  (try dsimp only at H)
                  have A23 := Aside0.mk A230
                  clear A230
                  by_cases c24 : t215 = 0
                  · rw [if_pos c24] at H
                    have c24b0 : (t215 == 0) = true := beq_iff_eq.mpr c24
                    have c24b1 : (t215 != 0) = false := bne_eq_false_iff_eq.mpr c24
                    clear c24
                    replace H := Option.bind_eq_some_iff.mp H
                    obtain ⟨⟨t217, t218, t219, t220⟩, A250, H⟩ := H
                    (try dsimp only at H)
                    have A25 := Aside0.mk A250
                    clear A250
                    obtain ⟨y222, hy222⟩ : ∃ y_ : List (S25), y_ = (([(⟨t212, t213⟩ : S25)] : List (S25))) := ⟨_, rfl⟩
                    replace H : ((field_Put.f y222).bind fun t225 => (if t214 = true then ((field_Right.f k1 t212 t213).bind fun t226 => (if t226 = true then (if t219 = true then (if t220 = 0 then (if (!(t217.toList == t212.toList) || (!(t218.toList == t213.toList))) = true then (some false) else (if (t225.size : Int) < 2 then (some false) else (if 0 ≤ (wrap64 ((t225.size : Int) - 2)) then (if (wrap64 ((t225.size : Int) - 2)) ≤ (t225.size : Int) then ((field_Parse.f k1 (t225.extract 0 ((wrap64 ((t225.size : Int) - 2)) : Int).toNat) 0).bind fun bt227 => (if bt227.2.2.1 = true then (if bt227.2.2.2 = 0 then (if (!(bt227.1.toList == t212.toList) || (!(bt227.2.1.toList == t213.toList))) = true then (some false) else (parallaxlaw9_FieldExtends.l0 k1 a0 a2 y208 (y208.length : Int) (wrap64 (x41_1 + 1)))) else (some false)) else (some false))) else (none)) else (none)))) else (some false)) else (some false)) else (some false))) else (some false))) = some r := by first | (rw [hy222]; with_reducible exact H) | (have H2_ := (Option.bind_some _ _).symm.trans H; rw [hy222]; with_reducible exact H2_) | (have H2_ := (Option.bind_some _ _).symm.trans H; with_reducible exact H2_) | with_reducible exact H | (rw [hy222]; exact H) | exact H
                    have Ny222 := Aside0.mk hy222
                    clear hy222
                    replace H := Option.bind_eq_some_iff.mp H
                    obtain ⟨t225, A260, H⟩ := H
                    (try dsimp only at H)
                    have A26 := Aside0.mk A260
                    clear A260
                    by_cases c27 : t214 = true
                    · subst c27
                      rw [if_pos rfl] at H
                      replace H := Option.bind_eq_some_iff.mp H
                      obtain ⟨t226, A280, H⟩ := H
                      (try dsimp only at H)
                      have A28 := Aside0.mk A280
                      clear A280
                      by_cases c29 : t226 = true
                      · subst c29
                        rw [if_pos rfl] at H
                        by_cases c30 : t219 = true
                        · subst c30
                          rw [if_pos rfl] at H
                          by_cases c31 : t220 = 0
                          · rw [if_pos c31] at H
                            have c31b0 : (t220 == 0) = true := beq_iff_eq.mpr c31
                            have c31b1 : (t220 != 0) = false := bne_eq_false_iff_eq.mpr c31
                            clear c31
                            by_cases c32 : (!(t217.toList == t212.toList) || (!(t218.toList == t213.toList))) = true
                            · rw [if_pos c32] at H
                              have c32b0 : (!(t217.toList == t212.toList) || (!(t218.toList == t213.toList))) = true := c32
                              clear c32
                              exact absurd ((Option.some.inj H).trans HT.out) (by decide)
                            · rw [if_neg c32] at H
                              have c32b0 : (!(t217.toList == t212.toList) || (!(t218.toList == t213.toList))) = false := by simpa using c32
                              clear c32
                              by_cases c33 : (t225.size : Int) < 2
                              · rw [if_pos c33] at H
                                have c33b0 : decide ((t225.size : Int) < 2) = true := decide_eq_true c33
                                have c33b1 : decide (t225.size < 2) = true := decide_eq_true (by omega)
                                clear c33
                                exact absurd ((Option.some.inj H).trans HT.out) (by decide)
                              · rw [if_neg c33] at H
                                have c33b0 : decide ((t225.size : Int) < 2) = false := decide_eq_false c33
                                have c33b1 : decide (t225.size < 2) = false := decide_eq_false (by omega)
                                clear c33
                                obtain ⟨ji34, hji34⟩ : ∃ j_ : Int, (wrap64 ((t225.size : Int) - 2)) = j_ := ⟨_, rfl⟩
                                replace H : (if 0 ≤ (ji34) then (if (ji34) ≤ (t225.size : Int) then ((field_Parse.f k1 (t225.extract 0 ((ji34) : Int).toNat) 0).bind fun bt227 => (if bt227.2.2.1 = true then (if bt227.2.2.2 = 0 then (if (!(bt227.1.toList == t212.toList) || (!(bt227.2.1.toList == t213.toList))) = true then (some false) else (parallaxlaw9_FieldExtends.l0 k1 a0 a2 y208 (y208.length : Int) (wrap64 (x41_1 + 1)))) else (some false)) else (some false))) else (none)) else (none)) = some r := by first | (rw [hji34] at H; exact H) | (simp only [hji34] at H ⊢; exact H)
                                (try rw [hji34] at A23)
                                (try rw [hji34] at A25)
                                (try rw [hji34] at A26)
                                (try rw [hji34] at A28)
                                have hji34w : (IntKind.i64.wrap ((t225.size : Int) - 2)) = ji34 := (i64_w _).trans hji34
                                by_cases c35 : 0 ≤ (ji34)
                                · rw [if_pos c35] at H
                                  have c35b0 := eq_true c35
                                  have c35b1 : decide (0 ≤ (ji34)) = true := decide_eq_true c35
                                  clear c35
                                  by_cases c36 : (ji34) ≤ (t225.size : Int)
                                  · rw [if_pos c36] at H
                                    have c36b0 := eq_true c36
                                    have c36b1 : decide ((ji34) ≤ (t225.size : Int)) = true := decide_eq_true c36
                                    clear c36
                                    replace H := Option.bind_eq_some_iff.mp H
                                    obtain ⟨⟨t227, t228, t229, t230⟩, A370, H⟩ := H
                                    (try dsimp only at H)
                                    have A37 := Aside0.mk A370
                                    clear A370
                                    by_cases c38 : t229 = true
                                    · subst c38
                                      rw [if_pos rfl] at H
                                      by_cases c39 : t230 = 0
                                      · rw [if_pos c39] at H
                                        have c39b0 : (t230 == 0) = true := beq_iff_eq.mpr c39
                                        have c39b1 : (t230 != 0) = false := bne_eq_false_iff_eq.mpr c39
                                        clear c39
                                        by_cases c40 : (!(t227.toList == t212.toList) || (!(t228.toList == t213.toList))) = true
                                        · rw [if_pos c40] at H
                                          have c40b0 : (!(t227.toList == t212.toList) || (!(t228.toList == t213.toList))) = true := c40
                                          clear c40
                                          exact absurd ((Option.some.inj H).trans HT.out) (by decide)
                                        · rw [if_neg c40] at H
                                          have c40b0 : (!(t227.toList == t212.toList) || (!(t228.toList == t213.toList))) = false := by simpa using c40
                                          clear c40
                                          have H' := Aside0.mk H
                                          clear H
                                          have p211 : 0 ≤ (x41_1 : Int) := of_decide_eq_true (by first | (with_reducible assumption) | assumption)
                                          have q211 : x41_1 < (y208.length : Int) := of_decide_eq_true (by first | (with_reducible assumption) | assumption)
                                          obtain ⟨ad211, e211, hx211_0⟩ := Kd.at_string (Kd.R_reads' HO_39.out).2.2 x41_1 p211 q211
                                          cases e211
                                          replace p211 := eq_true p211
                                          replace q211 := eq_true q211
                                          go_wp2_with (first | ((with_reducible refine gate_callee (f := 13) rfl ?_); refine goesL_ (some 47) rfl rfl Tryd.func13 (by kernel_rfl) rfl #[.string (rdOf ByteArray.empty y208 x41_1), .int .u32 0] rfl (by (try simp only [List.map_toArray, List.map_cons, List.map_nil]); first | done | rfl | (simp only [List.length_drop, List.length_take]; rfl) | (simp only [ByteArray.size_extract, Nat.min_self]; rfl)) ?_; (with_reducible refine (field_Parse.calls k1 (rdOf ByteArray.empty y208 x41_1) 0 t212 t213 true t215 _ A23.out).mono ?_); rintro e w41 ⟨rfl, hb⟩; refine ⟨_, rfl, ?_⟩; have n0_ := Aside0.mk (Kd.R_below (by (with_reducible repeat (first | apply Kd.R_alloc | apply Kd.R_drewN | apply Kd.R_drew)); exact HO_39.out) hb); have n1_ := Aside0.mk (below_step (by repeat (first | (with_reducible first | exact HB.out | apply below_alloc | apply pw_below_drewN | apply below_drew1) | exact HB.out)) hb); clear HO_39; clear HB; have HO_39 := n0_; have HB := n1_; clear n0_ n1_; (try clear hb); (try clear hb2); (try clear hk); (try clear hi)) | ((with_reducible refine gate_dst (N := 13) rfl ?_); (try (refine gate_guard (by rfl) ?_; dsimp only)); refine box_event ?hg (N := 13) ?hd (cs := #[.string (⟨#[]⟩ : ByteArray), .string (⟨#[]⟩ : ByteArray)]) (t := 25) ?hr ?_; (case hd => rfl); (case hg => rfl); (case hr => first | (go_simp; done) | (go_simp; rfl)); intro gb216 hg w42 hbox hb; have n0_ := Aside0.mk (Kd.R_below (by (with_reducible repeat (first | apply Kd.R_alloc | apply Kd.R_drewN | apply Kd.R_drew)); exact HO_39.out) hb); have n1_ := Aside0.mk (below_step (by repeat (first | (with_reducible first | exact HB.out | apply below_alloc | apply pw_below_drewN | apply below_drew1) | exact HB.out)) hb); have n2_ := Aside0.mk (hbox); have n3_ := Aside0.mk ((by rw [hg]; exact (below_size (by repeat (first | (with_reducible first | exact HB.out | apply below_alloc | apply pw_below_drewN | apply below_drew1) | exact HB.out))) : w.heap.size ≤ gb216)); have n4_ := Aside0.mk ((by rw [hg]; exact (below_size (by repeat (first | (with_reducible first | exact HB.out | apply below_alloc | apply pw_below_drewN | apply below_drew1) | exact HB.out))) : w.heap.size ≤ gb216)); clear HO_39; clear HB; have HO_39 := n0_; have HB := n1_; have BK216 := n2_; have GW216 := n3_; have GE216 := n4_; clear n0_ n1_ n2_ n3_ n4_; clear hb hbox hg; have hcz43_0 : w42.cell? ⟨gb216, 0, none⟩ = some (.string (⟨#[]⟩ : ByteArray)) := (blk_cell BK216.out 0).trans rfl; have hcz43_1 : w42.cell? ⟨gb216, 1, none⟩ = some (.string (⟨#[]⟩ : ByteArray)) := (blk_cell BK216.out 1).trans rfl; have hfz43_0 := blk_frozen BK216.out 0; have hfz43_1 := blk_frozen BK216.out 1) | ((with_reducible refine gate_callee (f := 13) rfl ?_); refine goesL_ (some 57) rfl rfl Tryd.func13 (by kernel_rfl) rfl #[.string (rdOf ByteArray.empty y208 x41_1), .int .u32 (Go.bits .and .u32 a2 1073741823)] rfl (by (try simp only [List.map_toArray, List.map_cons, List.map_nil]); first | done | rfl | (simp only [List.length_drop, List.length_take]; rfl) | (simp only [ByteArray.size_extract, Nat.min_self]; rfl)) ?_; (with_reducible refine (field_Parse.calls k1 (rdOf ByteArray.empty y208 x41_1) (Go.bits .and .u32 a2 1073741823) t217 t218 true t220 _ A25.out).mono ?_); rintro e w44 ⟨rfl, hb⟩; refine ⟨_, rfl, ?_⟩; have n0_ := Aside0.mk (Kd.R_below (by (with_reducible repeat (first | apply Kd.R_alloc | apply Kd.R_drewN | apply Kd.R_drew)); exact (Kd.R_mono (Kd.R_far (p := ⟨gb216, 1, none⟩) (Kd.R_far (p := ⟨gb216, 0, none⟩) (Kd.R_types HO_39.out BK216.out (by decide)) (fun _ hk => (by first | exact hk.2 | exact True.intro)) (.string t212)) (fun _ hk => (by first | exact hk.2 | exact True.intro)) (.string t213)) (fun _ h_ => h_.1))) hb); have n1_ := Aside0.mk (blk_below (g := gb216) (o := .cells #[.string t212, .string t213] 25 (0, 0)) (by (with_reducible repeat (first | refine blk_drewN ?_ _ | refine blk_drew ?_ | refine blk_alloc ?_ _)); refine blk_put (cs := #[.string t212, .string (⟨#[]⟩ : ByteArray)]) ?_ 1 _ rfl; (with_reducible repeat (first | refine blk_drewN ?_ _ | refine blk_drew ?_ | refine blk_alloc ?_ _)); refine blk_put (cs := #[.string (⟨#[]⟩ : ByteArray), .string (⟨#[]⟩ : ByteArray)]) ?_ 0 _ rfl; (with_reducible repeat (first | refine blk_drewN ?_ _ | refine blk_drew ?_ | refine blk_alloc ?_ _)); exact BK216.out) hb); have n2_ := Aside0.mk (below_step (by repeat (first | (with_reducible first | exact HB.out | apply below_alloc | apply pw_below_drewN | apply below_drew1 | refine below_set ?_ GE216.out) | exact HB.out)) hb); clear HO_39; clear BK216; clear HB; have HO_39 := n0_; have BK216 := n1_; have HB := n2_; clear n0_ n1_ n2_; (try clear hb); (try clear hb2); (try clear hk); (try clear hi)) | ((with_reducible refine gate_dst (N := 16) rfl ?_); (try (refine gate_guard (by rfl) ?_; dsimp only)); refine box_event ?hg (N := 16) ?hd (cs := #[.string (⟨#[]⟩ : ByteArray), .string (⟨#[]⟩ : ByteArray)]) (t := 25) ?hr ?_; (case hd => rfl); (case hg => rfl); (case hr => first | (go_simp; done) | (go_simp; rfl)); intro gb221 hg w45 hbox hb; have n0_ := Aside0.mk (Kd.R_below (by (with_reducible repeat (first | apply Kd.R_alloc | apply Kd.R_drewN | apply Kd.R_drew)); exact HO_39.out) hb); have n1_ := Aside0.mk (blk_below (g := gb216) (o := .cells #[.string t212, .string t213] 25 (0, 0)) (by (with_reducible repeat (first | refine blk_drewN ?_ _ | refine blk_drew ?_ | refine blk_alloc ?_ _)); exact BK216.out) hb); have n2_ := Aside0.mk (below_step (by repeat (first | (with_reducible first | exact HB.out | apply below_alloc | apply pw_below_drewN | apply below_drew1 | refine below_set ?_ GE216.out) | exact HB.out)) hb); have n3_ := Aside0.mk (hbox); have n4_ := Aside0.mk ((by rw [hg]; exact (below_size (by repeat (first | (with_reducible first | exact HB.out | apply below_alloc | apply pw_below_drewN | apply below_drew1 | refine below_set ?_ GE216.out) | exact HB.out))) : w.heap.size ≤ gb221)); have n5_ := Aside0.mk ((by rw [hg]; exact (below_size (by repeat (first | (with_reducible first | exact HB.out | apply below_alloc | apply pw_below_drewN | apply below_drew1 | refine below_set ?_ GE216.out) | exact HB.out))) : w.heap.size ≤ gb221)); have n6_ := Aside0.mk ((by rw [hg]; exact Nat.ne_of_lt (blk_lt (g := gb216) (o := .cells #[.string t212, .string t213] 25 (0, 0)) (by (with_reducible repeat (first | refine blk_drewN ?_ _ | refine blk_drew ?_ | refine blk_alloc ?_ _)); exact BK216.out)) : gb216 ≠ gb221)); have n7_ := Aside0.mk ((by rw [hg]; exact Nat.ne_of_gt (blk_lt (g := gb216) (o := .cells #[.string t212, .string t213] 25 (0, 0)) (by (with_reducible repeat (first | refine blk_drewN ?_ _ | refine blk_drew ?_ | refine blk_alloc ?_ _)); exact BK216.out)) : gb221 ≠ gb216)); clear HO_39; clear BK216; clear HB; have HO_39 := n0_; have BK216 := n1_; have HB := n2_; have BK221 := n3_; have GW221 := n4_; have GE221 := n5_; have NB216_221 := n6_; have NB221_216 := n7_; clear n0_ n1_ n2_ n3_ n4_ n5_ n6_ n7_; clear hb hbox hg; have hnb46 := NB221_216.out; have hnc46 := NB216_221.out; have hcz47_0 : w45.cell? ⟨gb221, 0, none⟩ = some (.string (⟨#[]⟩ : ByteArray)) := (blk_cell BK221.out 0).trans rfl; have hcz47_1 : w45.cell? ⟨gb221, 1, none⟩ = some (.string (⟨#[]⟩ : ByteArray)) := (blk_cell BK221.out 1).trans rfl; have hfz47_0 := blk_frozen BK221.out 0; have hfz47_1 := blk_frozen BK221.out 1; have hcz48_0 : w45.cell? ⟨gb216, 0, none⟩ = some (.string t212) := (blk_cell BK216.out 0).trans rfl; have hcz48_1 : w45.cell? ⟨gb216, 1, none⟩ = some (.string t213) := (blk_cell BK216.out 1).trans rfl; have hfz48_0 := blk_frozen BK216.out 0; have hfz48_1 := blk_frozen BK216.out 1) | ((with_reducible refine gate_dst (N := 62) rfl ?_); (try (refine gate_guard (by rfl) ?_; dsimp only)); refine Kd.R_lit k25 _ 25 ?hg (N := 62) ?hd (xs := ([(⟨t212, t213⟩ : S25)] : List (S25))) (inner := [.string t212, .string t213]) (ok := fun _ => True) (okp := fun _ => True) ?hr ?hp (fun _ hk => hk) trivial (Below.refl _ _) (Nat.le_refl _) (by simp) ?_; (case hd => rfl); (case hg => rfl); (case hr => first | (go_simp; done) | (go_simp; rfl)); (case hp => exact (Reps.c2 (show Kd.M k25 _ _ _ (⟨t212, t213⟩ : S25) [.string t212, .string t213] from (k25_mkM _ _ _ (⟨t212, t213⟩ : S25) )) (Reps.none _ _))); intro v223 w49 ho50 hb hg_ hnew_; clear hg_ hnew_; (first | rw [← Ny222.out] at ho50 | (simp only [Int.reduceToNat] at ho50; rw [← Ny222.out] at ho50)); have n0_ := Aside0.mk (Kd.R_below (by (with_reducible repeat (first | apply Kd.R_alloc | apply Kd.R_drewN | apply Kd.R_drew)); exact (Kd.R_mono (Kd.R_far (p := ⟨gb221, 1, none⟩) (Kd.R_far (p := ⟨gb221, 0, none⟩) (Kd.R_types HO_39.out BK221.out (by decide)) (fun _ hk => (by first | exact hk.2 | exact True.intro)) (.string t217)) (fun _ hk => (by first | exact hk.2 | exact True.intro)) (.string t218)) (fun _ h_ => h_.1))) hb); have n1_ := Aside0.mk (Kd.R_lower (Kd.R_newB (Kd.R_newB ho50 (g := gb216) (o := .cells #[.string t212, .string t213] 25 (0, 0)) (by (with_reducible repeat (first | refine blk_drewN ?_ _ | refine blk_drew ?_ | refine blk_alloc ?_ _)); refine blk_far ?_ NB216_221.out _; (with_reducible repeat (first | refine blk_drewN ?_ _ | refine blk_drew ?_ | refine blk_alloc ?_ _)); refine blk_far ?_ NB216_221.out _; (with_reducible repeat (first | refine blk_drewN ?_ _ | refine blk_drew ?_ | refine blk_alloc ?_ _)); exact BK216.out)) (g := gb221) (o := .cells #[.string t217, .string t218] 25 (0, 0)) (by (with_reducible repeat (first | refine blk_drewN ?_ _ | refine blk_drew ?_ | refine blk_alloc ?_ _)); refine blk_put (cs := #[.string t217, .string (⟨#[]⟩ : ByteArray)]) ?_ 1 _ rfl; (with_reducible repeat (first | refine blk_drewN ?_ _ | refine blk_drew ?_ | refine blk_alloc ?_ _)); refine blk_put (cs := #[.string (⟨#[]⟩ : ByteArray), .string (⟨#[]⟩ : ByteArray)]) ?_ 0 _ rfl; (with_reducible repeat (first | refine blk_drewN ?_ _ | refine blk_drew ?_ | refine blk_alloc ?_ _)); exact BK221.out)) (below_size (by repeat (first | (with_reducible first | exact HB.out | apply below_alloc | apply pw_below_drewN | apply below_drew1 | refine below_set ?_ GE216.out | refine below_set ?_ GE221.out) | exact HB.out)))); have n2_ := Aside0.mk (blk_below (g := gb216) (o := .cells #[.string t212, .string t213] 25 (0, 0)) (by (with_reducible repeat (first | refine blk_drewN ?_ _ | refine blk_drew ?_ | refine blk_alloc ?_ _)); refine blk_far ?_ NB216_221.out _; (with_reducible repeat (first | refine blk_drewN ?_ _ | refine blk_drew ?_ | refine blk_alloc ?_ _)); refine blk_far ?_ NB216_221.out _; (with_reducible repeat (first | refine blk_drewN ?_ _ | refine blk_drew ?_ | refine blk_alloc ?_ _)); exact BK216.out) hb); have n3_ := Aside0.mk (blk_below (g := gb221) (o := .cells #[.string t217, .string t218] 25 (0, 0)) (by (with_reducible repeat (first | refine blk_drewN ?_ _ | refine blk_drew ?_ | refine blk_alloc ?_ _)); refine blk_put (cs := #[.string t217, .string (⟨#[]⟩ : ByteArray)]) ?_ 1 _ rfl; (with_reducible repeat (first | refine blk_drewN ?_ _ | refine blk_drew ?_ | refine blk_alloc ?_ _)); refine blk_put (cs := #[.string (⟨#[]⟩ : ByteArray), .string (⟨#[]⟩ : ByteArray)]) ?_ 0 _ rfl; (with_reducible repeat (first | refine blk_drewN ?_ _ | refine blk_drew ?_ | refine blk_alloc ?_ _)); exact BK221.out) hb); have n4_ := Aside0.mk (below_step (by repeat (first | (with_reducible first | exact HB.out | apply below_alloc | apply pw_below_drewN | apply below_drew1 | refine below_set ?_ GE216.out | refine below_set ?_ GE221.out) | exact HB.out)) hb); clear HO_39; clear BK216; clear BK221; clear HB; have HO_39 := n0_; have HO224 := n1_; have BK216 := n2_; have BK221 := n3_; have HB := n4_; clear n0_ n1_ n2_ n3_ n4_; clear hb ho50; obtain ⟨Ao51, co51, eo51⟩ := Kd.R_slice HO224.out; subst eo51) | ((with_reducible refine gate_callee (f := 21) rfl ?_); refine goesL_ (some 63) rfl rfl Tryd.func21 (by kernel_rfl) rfl #[.slice Ao51 y222.length co51] rfl (by (try simp only [List.map_toArray, List.map_cons, List.map_nil]); first | done | rfl | (simp only [List.length_drop, List.length_take]; rfl) | (simp only [ByteArray.size_extract, Nat.min_self]; rfl)) ?_; (with_reducible refine (field_Put.calls _ _ y222 t225 _ ?side1 ?side2 A26.out).mono ?_); (case side1 => repeat (first | exact (Kd.R_reads' HO224.out).2.2 | (with_reducible refine Kd.C_alloc ?_ _) | (with_reducible refine Kd.C_drewN ?_ _) | (with_reducible refine Kd.C_drew ?_))); (case side2 => exact (Kd.R_reads' HO224.out).2.1); rintro e w52 ⟨rfl, hb⟩; refine ⟨_, rfl, ?_⟩; have n0_ := Aside0.mk (Kd.R_below (by (with_reducible repeat (first | apply Kd.R_alloc | apply Kd.R_drewN | apply Kd.R_drew)); exact HO_39.out) hb); have n1_ := Aside0.mk (Kd.R_below (by (with_reducible repeat (first | apply Kd.R_alloc | apply Kd.R_drewN | apply Kd.R_drew)); exact HO224.out) hb); have n2_ := Aside0.mk (blk_below (g := gb216) (o := .cells #[.string t212, .string t213] 25 (0, 0)) (by (with_reducible repeat (first | refine blk_drewN ?_ _ | refine blk_drew ?_ | refine blk_alloc ?_ _)); exact BK216.out) hb); have n3_ := Aside0.mk (blk_below (g := gb221) (o := .cells #[.string t217, .string t218] 25 (0, 0)) (by (with_reducible repeat (first | refine blk_drewN ?_ _ | refine blk_drew ?_ | refine blk_alloc ?_ _)); exact BK221.out) hb); have n4_ := Aside0.mk (below_step (by repeat (first | (with_reducible first | exact HB.out | apply below_alloc | apply pw_below_drewN | apply below_drew1 | refine below_set ?_ GE216.out | refine below_set ?_ GE221.out) | exact HB.out)) hb); clear HO_39; clear HO224; clear BK216; clear BK221; clear HB; have HO_39 := n0_; have HO224 := n1_; have BK216 := n2_; have BK221 := n3_; have HB := n4_; clear n0_ n1_ n2_ n3_ n4_; (try clear hb); (try clear hb2); (try clear hk); (try clear hi); have hcz53_0 : w52.cell? ⟨gb216, 0, none⟩ = some (.string t212) := (blk_cell BK216.out 0).trans rfl; have hcz53_1 : w52.cell? ⟨gb216, 1, none⟩ = some (.string t213) := (blk_cell BK216.out 1).trans rfl; have hfz53_0 := blk_frozen BK216.out 0; have hfz53_1 := blk_frozen BK216.out 1) | (go_at_call 19; (with_reducible refine (field_Right.calls k1 t212 t213 true _ A28.out).mono ?_); rintro e w54 ⟨rfl, hb⟩; have n0_ := Aside0.mk (Kd.R_below (by (with_reducible repeat (first | apply Kd.R_alloc | apply Kd.R_drewN | apply Kd.R_drew)); exact HO_39.out) hb); have n1_ := Aside0.mk (Kd.R_below (by (with_reducible repeat (first | apply Kd.R_alloc | apply Kd.R_drewN | apply Kd.R_drew)); exact HO224.out) hb); have n2_ := Aside0.mk (blk_below (g := gb216) (o := .cells #[.string t212, .string t213] 25 (0, 0)) (by (with_reducible repeat (first | refine blk_drewN ?_ _ | refine blk_drew ?_ | refine blk_alloc ?_ _)); exact BK216.out) hb); have n3_ := Aside0.mk (blk_below (g := gb221) (o := .cells #[.string t217, .string t218] 25 (0, 0)) (by (with_reducible repeat (first | refine blk_drewN ?_ _ | refine blk_drew ?_ | refine blk_alloc ?_ _)); exact BK221.out) hb); have n4_ := Aside0.mk (below_step (by repeat (first | (with_reducible first | exact HB.out | apply below_alloc | apply pw_below_drewN | apply below_drew1 | refine below_set ?_ GE216.out | refine below_set ?_ GE221.out) | exact HB.out)) hb); clear HO_39; clear HO224; clear BK216; clear BK221; clear HB; have HO_39 := n0_; have HO224 := n1_; have BK216 := n2_; have BK221 := n3_; have HB := n4_; clear n0_ n1_ n2_ n3_ n4_; (try clear hb); (try clear hb2); (try clear hk); (try clear hi); have hcz55_0 : w54.cell? ⟨gb221, 0, none⟩ = some (.string t217) := (blk_cell BK221.out 0).trans rfl; have hcz55_1 : w54.cell? ⟨gb221, 1, none⟩ = some (.string t218) := (blk_cell BK221.out 1).trans rfl; have hfz55_0 := blk_frozen BK221.out 0; have hfz55_1 := blk_frozen BK221.out 1; have hcz56_0 : w54.cell? ⟨gb216, 0, none⟩ = some (.string t212) := (blk_cell BK216.out 0).trans rfl; have hcz56_1 : w54.cell? ⟨gb216, 1, none⟩ = some (.string t213) := (blk_cell BK216.out 1).trans rfl; have hfz56_0 := blk_frozen BK216.out 0; have hfz56_1 := blk_frozen BK216.out 1) | ((with_reducible refine gate_callee (f := 13) rfl ?_); refine goesL_ (some 95) rfl rfl Tryd.func13 (by kernel_rfl) rfl #[.string (t225.extract 0 ((ji34) : Int).toNat), .int .u32 0] rfl (by (try simp only [List.map_toArray, List.map_cons, List.map_nil]); first | done | (simp only [hji34]; rfl) | rfl | (simp only [List.length_drop, List.length_take]; rfl) | (simp only [ByteArray.size_extract, Nat.min_self]; rfl)) ?_; (with_reducible refine (field_Parse.calls k1 (t225.extract 0 ((ji34) : Int).toNat) 0 t227 t228 true t230 _ A37.out).mono ?_); rintro e w57 ⟨rfl, hb⟩; refine ⟨_, rfl, ?_⟩; have n0_ := Aside0.mk (Kd.R_below (by (with_reducible repeat (first | apply Kd.R_alloc | apply Kd.R_drewN | apply Kd.R_drew)); exact HO_39.out) hb); have n1_ := Aside0.mk (Kd.R_below (by (with_reducible repeat (first | apply Kd.R_alloc | apply Kd.R_drewN | apply Kd.R_drew)); exact HO224.out) hb); have n2_ := Aside0.mk (blk_below (g := gb216) (o := .cells #[.string t212, .string t213] 25 (0, 0)) (by (with_reducible repeat (first | refine blk_drewN ?_ _ | refine blk_drew ?_ | refine blk_alloc ?_ _)); exact BK216.out) hb); have n3_ := Aside0.mk (blk_below (g := gb221) (o := .cells #[.string t217, .string t218] 25 (0, 0)) (by (with_reducible repeat (first | refine blk_drewN ?_ _ | refine blk_drew ?_ | refine blk_alloc ?_ _)); exact BK221.out) hb); have n4_ := Aside0.mk (below_step (by repeat (first | (with_reducible first | exact HB.out | apply below_alloc | apply pw_below_drewN | apply below_drew1 | refine below_set ?_ GE216.out | refine below_set ?_ GE221.out) | exact HB.out)) hb); clear HO_39; clear HO224; clear BK216; clear BK221; clear HB; have HO_39 := n0_; have HO224 := n1_; have BK216 := n2_; have BK221 := n3_; have HB := n4_; clear n0_ n1_ n2_ n3_ n4_; (try clear hb); (try clear hb2); (try clear hk); (try clear hi)) | ((with_reducible refine gate_dst (N := 20) rfl ?_); (try (refine gate_guard (by rfl) ?_; dsimp only)); refine box_event ?hg (N := 20) ?hd (cs := #[.string (⟨#[]⟩ : ByteArray), .string (⟨#[]⟩ : ByteArray)]) (t := 25) ?hr ?_; (case hd => rfl); (case hg => rfl); (case hr => first | (go_simp; done) | (go_simp; rfl)); intro gb231 hg w58 hbox hb; have n0_ := Aside0.mk (Kd.R_below (by (with_reducible repeat (first | apply Kd.R_alloc | apply Kd.R_drewN | apply Kd.R_drew)); exact HO_39.out) hb); have n1_ := Aside0.mk (Kd.R_below (Kd.R_elderB (by (with_reducible repeat (first | apply Kd.R_alloc | apply Kd.R_drewN | apply Kd.R_drew)); exact HO224.out) gb231 (Nat.le_of_eq hg.symm)) hb); have n2_ := Aside0.mk (blk_below (g := gb216) (o := .cells #[.string t212, .string t213] 25 (0, 0)) (by (with_reducible repeat (first | refine blk_drewN ?_ _ | refine blk_drew ?_ | refine blk_alloc ?_ _)); exact BK216.out) hb); have n3_ := Aside0.mk (blk_below (g := gb221) (o := .cells #[.string t217, .string t218] 25 (0, 0)) (by (with_reducible repeat (first | refine blk_drewN ?_ _ | refine blk_drew ?_ | refine blk_alloc ?_ _)); exact BK221.out) hb); have n4_ := Aside0.mk (below_step (by repeat (first | (with_reducible first | exact HB.out | apply below_alloc | apply pw_below_drewN | apply below_drew1 | refine below_set ?_ GE216.out | refine below_set ?_ GE221.out) | exact HB.out)) hb); have n5_ := Aside0.mk (hbox); have n6_ := Aside0.mk ((by rw [hg]; exact (below_size (by repeat (first | (with_reducible first | exact HB.out | apply below_alloc | apply pw_below_drewN | apply below_drew1 | refine below_set ?_ GE216.out | refine below_set ?_ GE221.out) | exact HB.out))) : w.heap.size ≤ gb231)); have n7_ := Aside0.mk ((by rw [hg]; exact (below_size (by repeat (first | (with_reducible first | exact HB.out | apply below_alloc | apply pw_below_drewN | apply below_drew1 | refine below_set ?_ GE216.out | refine below_set ?_ GE221.out) | exact HB.out))) : w.heap.size ≤ gb231)); have n8_ := Aside0.mk ((by rw [hg]; exact Nat.ne_of_lt (blk_lt (g := gb216) (o := .cells #[.string t212, .string t213] 25 (0, 0)) (by (with_reducible repeat (first | refine blk_drewN ?_ _ | refine blk_drew ?_ | refine blk_alloc ?_ _)); exact BK216.out)) : gb216 ≠ gb231)); have n9_ := Aside0.mk ((by rw [hg]; exact Nat.ne_of_gt (blk_lt (g := gb216) (o := .cells #[.string t212, .string t213] 25 (0, 0)) (by (with_reducible repeat (first | refine blk_drewN ?_ _ | refine blk_drew ?_ | refine blk_alloc ?_ _)); exact BK216.out)) : gb231 ≠ gb216)); have n10_ := Aside0.mk ((by rw [hg]; exact Nat.ne_of_lt (blk_lt (g := gb221) (o := .cells #[.string t217, .string t218] 25 (0, 0)) (by (with_reducible repeat (first | refine blk_drewN ?_ _ | refine blk_drew ?_ | refine blk_alloc ?_ _)); exact BK221.out)) : gb221 ≠ gb231)); have n11_ := Aside0.mk ((by rw [hg]; exact Nat.ne_of_gt (blk_lt (g := gb221) (o := .cells #[.string t217, .string t218] 25 (0, 0)) (by (with_reducible repeat (first | refine blk_drewN ?_ _ | refine blk_drew ?_ | refine blk_alloc ?_ _)); exact BK221.out)) : gb231 ≠ gb221)); clear HO_39; clear HO224; clear BK216; clear BK221; clear HB; have HO_39 := n0_; have HO224 := n1_; have BK216 := n2_; have BK221 := n3_; have HB := n4_; have BK231 := n5_; have GW231 := n6_; have GE231 := n7_; have NB216_231 := n8_; have NB231_216 := n9_; have NB221_231 := n10_; have NB231_221 := n11_; clear n0_ n1_ n2_ n3_ n4_ n5_ n6_ n7_ n8_ n9_ n10_ n11_; clear hb hbox hg; have hnb59 := NB231_216.out; have hnc59 := NB216_231.out; have hnb60 := NB231_221.out; have hnc60 := NB221_231.out; have hcz61_0 : w58.cell? ⟨gb231, 0, none⟩ = some (.string (⟨#[]⟩ : ByteArray)) := (blk_cell BK231.out 0).trans rfl; have hcz61_1 : w58.cell? ⟨gb231, 1, none⟩ = some (.string (⟨#[]⟩ : ByteArray)) := (blk_cell BK231.out 1).trans rfl; have hfz61_0 := blk_frozen BK231.out 0; have hfz61_1 := blk_frozen BK231.out 1; have hcz62_0 : w58.cell? ⟨gb216, 0, none⟩ = some (.string t212) := (blk_cell BK216.out 0).trans rfl; have hcz62_1 : w58.cell? ⟨gb216, 1, none⟩ = some (.string t213) := (blk_cell BK216.out 1).trans rfl; have hfz62_0 := blk_frozen BK216.out 0; have hfz62_1 := blk_frozen BK216.out 1) | (go_at_call 13; (with_reducible refine (field_Parse.calls k1 (rdOf ByteArray.empty y208 x41_1) 0 t212 t213 true t215 _ A23.out).mono ?_); rintro e w41 ⟨rfl, hb⟩; have n0_ := Aside0.mk (Kd.R_below (by (with_reducible repeat (first | apply Kd.R_alloc | apply Kd.R_drewN | apply Kd.R_drew)); exact HO_39.out) hb); have n1_ := Aside0.mk (below_step (by repeat (first | (with_reducible first | exact HB.out | apply below_alloc | apply pw_below_drewN | apply below_drew1) | exact HB.out)) hb); clear HO_39; clear HB; have HO_39 := n0_; have HB := n1_; clear n0_ n1_; (try clear hb); (try clear hb2); (try clear hk); (try clear hi)) | (go_at_call 13; (with_reducible refine (field_Parse.calls k1 (rdOf ByteArray.empty y208 x41_1) (Go.bits .and .u32 a2 1073741823) t217 t218 true t220 _ A25.out).mono ?_); rintro e w44 ⟨rfl, hb⟩; have n0_ := Aside0.mk (Kd.R_below (by (with_reducible repeat (first | apply Kd.R_alloc | apply Kd.R_drewN | apply Kd.R_drew)); exact (Kd.R_mono (Kd.R_far (p := ⟨gb216, 1, none⟩) (Kd.R_far (p := ⟨gb216, 0, none⟩) (Kd.R_types HO_39.out BK216.out (by decide)) (fun _ hk => (by first | exact hk.2 | exact True.intro)) (.string t212)) (fun _ hk => (by first | exact hk.2 | exact True.intro)) (.string t213)) (fun _ h_ => h_.1))) hb); have n1_ := Aside0.mk (blk_below (g := gb216) (o := .cells #[.string t212, .string t213] 25 (0, 0)) (by (with_reducible repeat (first | refine blk_drewN ?_ _ | refine blk_drew ?_ | refine blk_alloc ?_ _)); refine blk_put (cs := #[.string t212, .string (⟨#[]⟩ : ByteArray)]) ?_ 1 _ rfl; (with_reducible repeat (first | refine blk_drewN ?_ _ | refine blk_drew ?_ | refine blk_alloc ?_ _)); refine blk_put (cs := #[.string (⟨#[]⟩ : ByteArray), .string (⟨#[]⟩ : ByteArray)]) ?_ 0 _ rfl; (with_reducible repeat (first | refine blk_drewN ?_ _ | refine blk_drew ?_ | refine blk_alloc ?_ _)); exact BK216.out) hb); have n2_ := Aside0.mk (below_step (by repeat (first | (with_reducible first | exact HB.out | apply below_alloc | apply pw_below_drewN | apply below_drew1 | refine below_set ?_ GE216.out) | exact HB.out)) hb); clear HO_39; clear BK216; clear HB; have HO_39 := n0_; have BK216 := n1_; have HB := n2_; clear n0_ n1_ n2_; (try clear hb); (try clear hb2); (try clear hk); (try clear hi)) | (go_at_call 21; (with_reducible refine (field_Put.calls _ _ y222 t225 _ ?side1 ?side2 A26.out).mono ?_); (case side1 => repeat (first | exact (Kd.R_reads' HO224.out).2.2 | (with_reducible refine Kd.C_alloc ?_ _) | (with_reducible refine Kd.C_drewN ?_ _) | (with_reducible refine Kd.C_drew ?_))); (case side2 => exact (Kd.R_reads' HO224.out).2.1); rintro e w52 ⟨rfl, hb⟩; have n0_ := Aside0.mk (Kd.R_below (by (with_reducible repeat (first | apply Kd.R_alloc | apply Kd.R_drewN | apply Kd.R_drew)); exact HO_39.out) hb); have n1_ := Aside0.mk (Kd.R_below (by (with_reducible repeat (first | apply Kd.R_alloc | apply Kd.R_drewN | apply Kd.R_drew)); exact HO224.out) hb); have n2_ := Aside0.mk (blk_below (g := gb216) (o := .cells #[.string t212, .string t213] 25 (0, 0)) (by (with_reducible repeat (first | refine blk_drewN ?_ _ | refine blk_drew ?_ | refine blk_alloc ?_ _)); exact BK216.out) hb); have n3_ := Aside0.mk (blk_below (g := gb221) (o := .cells #[.string t217, .string t218] 25 (0, 0)) (by (with_reducible repeat (first | refine blk_drewN ?_ _ | refine blk_drew ?_ | refine blk_alloc ?_ _)); exact BK221.out) hb); have n4_ := Aside0.mk (below_step (by repeat (first | (with_reducible first | exact HB.out | apply below_alloc | apply pw_below_drewN | apply below_drew1 | refine below_set ?_ GE216.out | refine below_set ?_ GE221.out) | exact HB.out)) hb); clear HO_39; clear HO224; clear BK216; clear BK221; clear HB; have HO_39 := n0_; have HO224 := n1_; have BK216 := n2_; have BK221 := n3_; have HB := n4_; clear n0_ n1_ n2_ n3_ n4_; (try clear hb); (try clear hb2); (try clear hk); (try clear hi); have hcz53_0 : w52.cell? ⟨gb216, 0, none⟩ = some (.string t212) := (blk_cell BK216.out 0).trans rfl; have hcz53_1 : w52.cell? ⟨gb216, 1, none⟩ = some (.string t213) := (blk_cell BK216.out 1).trans rfl; have hfz53_0 := blk_frozen BK216.out 0; have hfz53_1 := blk_frozen BK216.out 1) | (go_at_call 13; (with_reducible refine (field_Parse.calls k1 (t225.extract 0 ((ji34) : Int).toNat) 0 t227 t228 true t230 _ A37.out).mono ?_); rintro e w57 ⟨rfl, hb⟩; have n0_ := Aside0.mk (Kd.R_below (by (with_reducible repeat (first | apply Kd.R_alloc | apply Kd.R_drewN | apply Kd.R_drew)); exact HO_39.out) hb); have n1_ := Aside0.mk (Kd.R_below (by (with_reducible repeat (first | apply Kd.R_alloc | apply Kd.R_drewN | apply Kd.R_drew)); exact HO224.out) hb); have n2_ := Aside0.mk (blk_below (g := gb216) (o := .cells #[.string t212, .string t213] 25 (0, 0)) (by (with_reducible repeat (first | refine blk_drewN ?_ _ | refine blk_drew ?_ | refine blk_alloc ?_ _)); exact BK216.out) hb); have n3_ := Aside0.mk (blk_below (g := gb221) (o := .cells #[.string t217, .string t218] 25 (0, 0)) (by (with_reducible repeat (first | refine blk_drewN ?_ _ | refine blk_drew ?_ | refine blk_alloc ?_ _)); exact BK221.out) hb); have n4_ := Aside0.mk (below_step (by repeat (first | (with_reducible first | exact HB.out | apply below_alloc | apply pw_below_drewN | apply below_drew1 | refine below_set ?_ GE216.out | refine below_set ?_ GE221.out) | exact HB.out)) hb); clear HO_39; clear HO224; clear BK216; clear BK221; clear HB; have HO_39 := n0_; have HO224 := n1_; have BK216 := n2_; have BK221 := n3_; have HB := n4_; clear n0_ n1_ n2_ n3_ n4_; (try clear hb); (try clear hb2); (try clear hk); (try clear hi)))
                                          (try any_goals (exfalso; have h_ := ‹some undef = some (Value.bool _)›; revert h_; simp [undef]; done))
                                          go_roundg k1
                                          case measure => have := HK1.out; omega
                                          case rel => exact ⟨(wrap64 (x41_1 + 1)), (by first | rfl | (simp; done) | (simp [*]; done)), H', ⟨by have := HK1.out; omega⟩, ⟨by (with_reducible repeat (first | apply Kd.R_alloc | apply Kd.R_drewN | apply Kd.R_drew)); exact Kd.R_mono (Kd.R_far (p := ⟨gb231, 1, none⟩) (Kd.R_far (p := ⟨gb231, 0, none⟩) (Kd.R_types HO_39.out BK231.out (by decide)) (fun _ hk => (by first | exact hk.2 | exact True.intro)) (.string t227)) (fun _ hk => (by first | exact hk.2 | exact True.intro)) (.string t228)) (fun _ hk => trivial)⟩, ⟨by repeat (first | (with_reducible first | exact HB.out | apply below_alloc | apply pw_below_drewN | apply below_drew1 | refine below_set ?_ GE216.out | refine below_set ?_ GE221.out | refine below_set ?_ GE231.out) | exact HB.out)⟩⟩
                                      · rw [if_neg c39] at H
                                        have c39b0 : (t230 == 0) = false := beq_eq_false_iff_ne.mpr c39
                                        have c39b1 : (t230 != 0) = true := bne_iff_ne.mpr c39
                                        exact absurd ((Option.some.inj H).trans HT.out) (by decide)
                                    · replace c38 := Bool.eq_false_iff.mpr c38
                                      subst c38
                                      rw [if_neg (show ¬ (false = true) by decide)] at H
                                      exact absurd ((Option.some.inj H).trans HT.out) (by decide)
                                  · rw [if_neg c36] at H
                                    exact absurd H (by simp)
                                · rw [if_neg c35] at H
                                  exact absurd H (by simp)
                          · rw [if_neg c31] at H
                            have c31b0 : (t220 == 0) = false := beq_eq_false_iff_ne.mpr c31
                            have c31b1 : (t220 != 0) = true := bne_iff_ne.mpr c31
                            exact absurd ((Option.some.inj H).trans HT.out) (by decide)
                        · replace c30 := Bool.eq_false_iff.mpr c30
                          subst c30
                          rw [if_neg (show ¬ (false = true) by decide)] at H
                          exact absurd ((Option.some.inj H).trans HT.out) (by decide)
                      · replace c29 := Bool.eq_false_iff.mpr c29
                        subst c29
                        rw [if_neg (show ¬ (false = true) by decide)] at H
                        exact absurd ((Option.some.inj H).trans HT.out) (by decide)
                    · replace c27 := Bool.eq_false_iff.mpr c27
                      subst c27
                      rw [if_neg (show ¬ (false = true) by decide)] at H
                      exact absurd ((Option.some.inj H).trans HT.out) (by decide)
                  · rw [if_neg c24] at H
                    have c24b0 : (t215 == 0) = false := beq_eq_false_iff_ne.mpr c24
                    have c24b1 : (t215 != 0) = true := bne_iff_ne.mpr c24
                    have H' := Aside0.mk H
                    clear H
                    have p211 : 0 ≤ (x41_1 : Int) := of_decide_eq_true (by first | (with_reducible assumption) | assumption)
                    have q211 : x41_1 < (y208.length : Int) := of_decide_eq_true (by first | (with_reducible assumption) | assumption)
                    obtain ⟨ad211, e211, hx211_0⟩ := Kd.at_string (Kd.R_reads' HO_39.out).2.2 x41_1 p211 q211
                    cases e211
                    replace p211 := eq_true p211
                    replace q211 := eq_true q211
                    go_wp2_with (first | ((with_reducible refine gate_callee (f := 13) rfl ?_); refine goesL_ (some 47) rfl rfl Tryd.func13 (by kernel_rfl) rfl #[.string (rdOf ByteArray.empty y208 x41_1), .int .u32 0] rfl (by (try simp only [List.map_toArray, List.map_cons, List.map_nil]); first | done | rfl | (simp only [List.length_drop, List.length_take]; rfl)) ?_; (with_reducible refine (field_Parse.calls k1 (rdOf ByteArray.empty y208 x41_1) 0 t212 t213 t214 t215 _ A23.out).mono ?_); rintro e w63 ⟨rfl, hb⟩; refine ⟨_, rfl, ?_⟩; have n0_ := Aside0.mk (Kd.R_below (by (with_reducible repeat (first | apply Kd.R_alloc | apply Kd.R_drewN | apply Kd.R_drew)); exact HO_39.out) hb); have n1_ := Aside0.mk (below_step (by repeat (first | (with_reducible first | exact HB.out | apply below_alloc | apply pw_below_drewN | apply below_drew1) | exact HB.out)) hb); clear HO_39; clear HB; have HO_39 := n0_; have HB := n1_; clear n0_ n1_; (try clear hb); (try clear hb2); (try clear hk); (try clear hi)) | ((with_reducible refine gate_dst (N := 13) rfl ?_); (try (refine gate_guard (by rfl) ?_; dsimp only)); refine box_event ?hg (N := 13) ?hd (cs := #[.string (⟨#[]⟩ : ByteArray), .string (⟨#[]⟩ : ByteArray)]) (t := 25) ?hr ?_; (case hd => rfl); (case hg => rfl); (case hr => first | (go_simp; done) | (go_simp; rfl)); intro gb216 hg w64 hbox hb; have n0_ := Aside0.mk (Kd.R_below (by (with_reducible repeat (first | apply Kd.R_alloc | apply Kd.R_drewN | apply Kd.R_drew)); exact HO_39.out) hb); have n1_ := Aside0.mk (below_step (by repeat (first | (with_reducible first | exact HB.out | apply below_alloc | apply pw_below_drewN | apply below_drew1) | exact HB.out)) hb); have n2_ := Aside0.mk (hbox); have n3_ := Aside0.mk ((by rw [hg]; exact (below_size (by repeat (first | (with_reducible first | exact HB.out | apply below_alloc | apply pw_below_drewN | apply below_drew1) | exact HB.out))) : w.heap.size ≤ gb216)); have n4_ := Aside0.mk ((by rw [hg]; exact (below_size (by repeat (first | (with_reducible first | exact HB.out | apply below_alloc | apply pw_below_drewN | apply below_drew1) | exact HB.out))) : w.heap.size ≤ gb216)); clear HO_39; clear HB; have HO_39 := n0_; have HB := n1_; have BK216 := n2_; have GW216 := n3_; have GE216 := n4_; clear n0_ n1_ n2_ n3_ n4_; clear hb hbox hg; have hcz65_0 : w64.cell? ⟨gb216, 0, none⟩ = some (.string (⟨#[]⟩ : ByteArray)) := (blk_cell BK216.out 0).trans rfl; have hcz65_1 : w64.cell? ⟨gb216, 1, none⟩ = some (.string (⟨#[]⟩ : ByteArray)) := (blk_cell BK216.out 1).trans rfl; have hfz65_0 := blk_frozen BK216.out 0; have hfz65_1 := blk_frozen BK216.out 1) | (go_at_call 13; (with_reducible refine (field_Parse.calls k1 (rdOf ByteArray.empty y208 x41_1) 0 t212 t213 t214 t215 _ A23.out).mono ?_); rintro e w63 ⟨rfl, hb⟩; have n0_ := Aside0.mk (Kd.R_below (by (with_reducible repeat (first | apply Kd.R_alloc | apply Kd.R_drewN | apply Kd.R_drew)); exact HO_39.out) hb); have n1_ := Aside0.mk (below_step (by repeat (first | (with_reducible first | exact HB.out | apply below_alloc | apply pw_below_drewN | apply below_drew1) | exact HB.out)) hb); clear HO_39; clear HB; have HO_39 := n0_; have HB := n1_; clear n0_ n1_; (try clear hb); (try clear hb2); (try clear hk); (try clear hi)))
                    (try any_goals (exfalso; have h_ := ‹some undef = some (Value.bool _)›; revert h_; simp [undef]; done))
                    go_roundg k1
                    case measure => have := HK1.out; omega
                    case rel => exact ⟨(wrap64 (x41_1 + 1)), (by first | rfl | (simp; done) | (simp [*]; done)), H', ⟨by have := HK1.out; omega⟩, ⟨by (with_reducible repeat (first | apply Kd.R_alloc | apply Kd.R_drewN | apply Kd.R_drew)); exact Kd.R_mono (Kd.R_far (p := ⟨gb216, 1, none⟩) (Kd.R_far (p := ⟨gb216, 0, none⟩) (Kd.R_types HO_39.out BK216.out (by decide)) (fun _ hk => (by first | exact hk.2 | exact True.intro)) (.string t212)) (fun _ hk => (by first | exact hk.2 | exact True.intro)) (.string t213)) (fun _ hk => trivial)⟩, ⟨by repeat (first | (with_reducible first | exact HB.out | apply below_alloc | apply pw_below_drewN | apply below_drew1 | refine below_set ?_ GE216.out) | exact HB.out)⟩⟩
                · rw [if_neg c22] at H
                  exact absurd H (by simp)
              · rw [if_neg c21] at H
                exact absurd H (by simp)
            · rw [if_neg c20] at H
              have c20b0 : decide (x41_1 < (y208.length : Int)) = false := decide_eq_false c20
              clear c20
              replace H := Option.bind_eq_some_iff.mp H
              obtain ⟨t232, A660, H⟩ := H
              (try dsimp only at H)
              have A66 := Aside0.mk A660
              clear A660
              by_cases c67 : 1 + a0.size ≤ 9223372036854775807
              · rw [if_pos c67] at H
                have c67b0 := eq_true c67
                have c67b1 : decide (1 + a0.size ≤ 9223372036854775807) = true := decide_eq_true c67
                try have c67b2 : (9223372036854775807 < 1 + a0.size) = False := eq_false (Nat.not_lt.2 c67)
                replace H := Option.bind_eq_some_iff.mp H
                obtain ⟨t233, A680, H⟩ := H
                (try dsimp only at H)
                have A68 := Aside0.mk A680
                clear A680
                obtain rfl := Option.some.inj H
                go_wp2_with (first | ((with_reducible refine gate_callee (f := 23) rfl ?_); refine goesL_ (some 112) rfl rfl Tryd.func23 (by kernel_rfl) rfl #[.string a0] rfl (by (try simp only [List.map_toArray, List.map_cons, List.map_nil]); first | done | rfl | (simp only [List.length_drop, List.length_take]; rfl)) ?_; (with_reducible refine (parallaxref1_Trim.calls k1 a0 t232 _ A66.out).mono ?_); rintro e w' ⟨rfl, ⟨nd, rfl⟩⟩; refine ⟨_, rfl, ?_⟩) | ((with_reducible refine gate_callee (f := 23) rfl ?_); refine goesL_ (some 115) rfl rfl Tryd.func23 (by kernel_rfl) rfl #[.string ((⟨#[32]⟩ : ByteArray) ++ a0)] rfl (by (try simp only [List.map_toArray, List.map_cons, List.map_nil]); first | done | rfl | (simp only [List.length_drop, List.length_take]; rfl)) ?_; (with_reducible refine (parallaxref1_Trim.calls k1 ((⟨#[32]⟩ : ByteArray) ++ a0) t233 _ A68.out).mono ?_); rintro e w' ⟨rfl, ⟨nd, rfl⟩⟩; refine ⟨_, rfl, ?_⟩) | (go_at_call 23; (with_reducible refine (parallaxref1_Trim.calls k1 a0 t232 _ A66.out).mono ?_); rintro e w' ⟨rfl, ⟨nd, rfl⟩⟩) | (go_at_call 23; (with_reducible refine (parallaxref1_Trim.calls k1 ((⟨#[32]⟩ : ByteArray) ++ a0) t233 _ A68.out).mono ?_); rintro e w' ⟨rfl, ⟨nd, rfl⟩⟩))
                (try any_goals (exfalso; have h_ := ‹some undef = some (Value.bool _)›; revert h_; simp [undef]; done))
                go_ret
                exact ⟨by first | rfl | (simp [errW_none, errW_some] <;> rfl) | (simp [*, errW_none, errW_some] <;> rfl), by repeat (first | (with_reducible first | exact HB.out | apply below_alloc | apply pw_below_drewN | apply below_drew1) | exact HB.out)⟩
              · rw [if_neg c67] at H
                exact absurd H (by simp)
  · replace c7 := Bool.eq_false_iff.mpr c7
    subst c7
    rw [if_neg (show ¬ (false = true) by decide)] at H
    exact absurd ((Option.some.inj H).trans HT.out) (by decide)

/-- THE ONE PURE STATEMENT of parallaxlaw9_FieldExtends: yours. -/
def parallaxlaw9_FieldExtends.Pure : Prop := ∀ (a0 : ByteArray) (l1 : List Int) (a2 : Int) (a3 : Int) (a4 : Int), a0.size ≤ 140737488351232 → l1.length ≤ maxLen → l1.length * 1 ≤ 140737488351232 → (∀ x ∈ l1, (Lit.int .u8 x).wf = true) → (Lit.int .u32 a2).wf = true → (Lit.int .u8 a3).wf = true → (Lit.int .u8 a4).wf = true → ∃ k, parallaxlaw9_FieldExtends.f k a0 l1 a2 a3 a4 = some true
theorem parallaxlaw9_FieldExtends.walk (P : parallaxlaw9_FieldExtends.Pure) (a0 : ByteArray) (a1 : Option Addr) (len1 cap1 : Nat) (z1 : List Int) (a2 : Int) (a3 : Int) (a4 : Int) (w : World) (w0 : a0.size ≤ 140737488351232) (w1 : (a1 = none ∧ len1 = 0 ∧ cap1 = 0 ∧ z1 = []) ∨ ∃ x, a1 = some x ∧ len1 ≤ cap1 ∧ cap1 ≤ maxLen ∧ z1.length = cap1 ∧ (∀ i, i < z1.length → w.cell? (x.add i) = some (.int .u8 (z1.getD i 0))) ∧ ∀ n ∈ z1, (Lit.int .u8 n).wf = true) (y1 : len1 * 1 ≤ 140737488351232) (w2 : (Lit.int .u32 a2).wf = true) (w3 : (Lit.int .u8 a3).wf = true) (w4 : (Lit.int .u8 a4).wf = true) :
    Calls Tryd.prog 4 #[.string a0, .slice a1 len1 cap1, .int .u32 a2, .int .u8 a3, .int .u8 a4] w fun e w' => e = .returned (.bool true) ∧ Below w.heap.size w w' := by
  obtain ⟨l1, rfl, hr1, hm1, hw1, hc1⟩ := ReadsInt.ofRowC w1
  obtain ⟨k, h⟩ := P a0 l1 a2 a3 a4 w0 hm1 y1 hw1 w2 w3 w4
  refine (parallaxlaw9_FieldExtends.calls k a0 _ _ l1 a2 a3 a4 true w (Kd.C_of_reads (d := (0 : Int)) (h1 := fun _ => rfl) hr1) hc1 w2 w3 w4 rfl h).mono ?_
  rintro e w' ⟨rfl, hd⟩
  exact ⟨rfl, hd⟩

end Go.Proofs.YtijcibdpcolfpaaDoor.PFieldExtends
