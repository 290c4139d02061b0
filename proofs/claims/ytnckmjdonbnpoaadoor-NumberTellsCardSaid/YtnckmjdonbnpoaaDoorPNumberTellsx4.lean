-- Written by a program of this session (wip/tools/myprint.sh)
import Derived.Test.YtnckmjdonbnpoaaDoorPNumberTellsx0
import Derived.Test.YtnckmjdonbnpoaaDoorPNumberTellsx2
import Derived.Test.YtnckmjdonbnpoaaDoorPNumberTellsx3
namespace Go.Proofs.YtnckmjdonbnpoaaDoor.PNumberTells
open Go.RowKit Go.Proofs.YtnckmjdonbnpoaaDoorW.PrintWords Go.Proofs.YtnckmjdonbnpoaaDoorW.PrintLast Go.Proofs.YtnckmjdonbnpoaaDoorW.PrintMore
attribute [local go_sem] max2_int min2_int max_two min_two max_three min_three max_four min_four   -- for this text's walks alone
set_option linter.unusedVariables false
set_option linter.unusedSimpArgs false

/-! ### parallaxlaw2_NumberTells: function 3 -/
mutual
def parallaxlaw2_NumberTells.l0 : Nat → Int → Int → List ByteArray → Int → Int → Option (Bool)
  | 0, _, _, _, _, _ => none
  | k + 1, x2, x3, x41, x42, x43 => if x43 < x42 then (if 0 ≤ x43 then (if x43 < (x41.length : Int) then ((some (([x2, Go.bits .and .i64 x2 255, x3, wrap64 (x3 - (wrap64 (Int.tdiv x3 2))), 9223372036854775807] : List Int) : List Int)).bind fun y164 => (parallaxlaw2_NumberTells.l1 k x2 x3 (rdOf ByteArray.empty x41 x43) x41 x42 x43 y164 (y164.length : Int) 0)) else (none)) else (none)) else ((number_Put.f x3).bind fun t176 => ((parallaxref1_Put.f k x3).bind fun t177 => (if t176.toList = t177.toList then ((number_PutHex.f x3).bind fun t178 => ((parallaxref1_PutHex.f k x3).bind fun t179 => (some (t178.toList == t179.toList)))) else (some false))))
def parallaxlaw2_NumberTells.l1 : Nat → Int → Int → ByteArray → List ByteArray → Int → Int → List Int → Int → Int → Option (Bool)
  | 0, _, _, _, _, _, _, _, _, _ => none
  | k + 1, x2, x3, x10, x41, x42, x43, x55, x56, x57 => if x57 < x56 then (if 0 ≤ x57 then (if x57 < (x55.length : Int) then ((number_Dec.f k x10 (rd x55 x57)).bind fun bt168 => ((parallaxref1_Dec.f k x10 (rd x55 x57)).bind fun bt170 => ((number_Hex.f k x10 (rd x55 x57)).bind fun bt172 => ((parallaxref1_HexNumber.f k x10 (rd x55 x57)).bind fun bt174 => (if bt168.1 = bt170.1 then (if bt168.2 = bt170.2 then (if bt172.1 = bt174.1 then (if bt172.2 = bt174.2 then (parallaxlaw2_NumberTells.l1 k x2 x3 x10 x41 x42 x43 x55 x56 (wrap64 (x57 + 1))) else (some false)) else (some false)) else (some false)) else (some false)))))) else (none)) else (none)) else (parallaxlaw2_NumberTells.l0 k x2 x3 x41 x42 (wrap64 (x43 + 1)))
end
def parallaxlaw2_NumberTells.f (k : Nat) (a0 : ByteArray) (l1 : List Int) (a2 : Int) (a3 : Int) : Option (Bool) := (parallaxlaw2_known.f k).bind fun t155 => (if t155 = true then (if (a0.size : Int) > 60 then (some true) else (if (l1.length : Int) > 12 then (some true) else ((parallaxlaw2_some.f k l1).bind fun t156 => ((parallaxref1_Put.f k a3).bind fun t157 => ((parallaxref1_PutHex.f k a3).bind fun t158 => ((parallaxref1_Put.f k a3).bind fun t159 => (if 28 + t159.size ≤ 9223372036854775807 then ((some (([a0, t156, t157, t158, (⟨#[48, 48, 48, 48, 48, 48, 48, 48, 48, 48, 48, 48, 48, 48, 48, 48, 48, 48, 48, 48, 48, 48, 48, 48, 48, 48, 48, 48]⟩ : ByteArray) ++ t159] : List ByteArray) : List ByteArray)).bind fun y160 => (parallaxlaw2_NumberTells.l0 k a2 a3 y160 (y160.length : Int) 0)) else (none)))))))) else (some false))
theorem parallaxlaw2_NumberTells.mono_l : ∀ k, (∀ y0 y1 y2 y3 y4, LeO (parallaxlaw2_NumberTells.l0 k y0 y1 y2 y3 y4) (parallaxlaw2_NumberTells.l0 (k + 1) y0 y1 y2 y3 y4)) ∧ (∀ y0 y1 y2 y3 y4 y5 y6 y7 y8, LeO (parallaxlaw2_NumberTells.l1 k y0 y1 y2 y3 y4 y5 y6 y7 y8) (parallaxlaw2_NumberTells.l1 (k + 1) y0 y1 y2 y3 y4 y5 y6 y7 y8))
  | 0 => ⟨fun _ _ _ _ _ r h => by simp [parallaxlaw2_NumberTells.l0] at h, fun _ _ _ _ _ _ _ _ _ r h => by simp [parallaxlaw2_NumberTells.l1] at h⟩
  | k + 1 => by
    obtain ⟨ih0, ih1⟩ := parallaxlaw2_NumberTells.mono_l k
    refine ⟨?_, ?_⟩
    · intro y0 y1 y2 y3 y4
      unfold parallaxlaw2_NumberTells.l0
      repeat' first
      | (with_reducible exact ih0 _ _ _ _ _)
      | (with_reducible exact ih1 _ _ _ _ _ _ _ _ _)
      | (with_reducible exact number_Dec.mono _ _ _)
      | (with_reducible exact number_Hex.mono _ _ _)
      | (with_reducible exact parallaxlaw2_known.mono _)
      | (with_reducible exact parallaxlaw2_some.mono _ _)
      | (with_reducible exact parallaxref1_Dec.mono _ _ _)
      | (with_reducible exact parallaxref1_HexNumber.mono _ _ _)
      | (with_reducible exact parallaxref1_Put.mono _ _)
      | (with_reducible exact parallaxref1_PutHex.mono _ _)
      | (with_reducible exact LeO.refl _)
      | (with_reducible exact LeO.none _)
      | (with_reducible refine LeO.ite ?_ ?_)
      | (with_reducible refine LeO.bind ?_ (fun _ => ?_))
      | exact ih0 _ _ _ _ _
      | exact ih1 _ _ _ _ _ _ _ _ _
      | exact number_Dec.mono _ _ _
      | exact number_Hex.mono _ _ _
      | exact parallaxlaw2_known.mono _
      | exact parallaxlaw2_some.mono _ _
      | exact parallaxref1_Dec.mono _ _ _
      | exact parallaxref1_HexNumber.mono _ _ _
      | exact parallaxref1_Put.mono _ _
      | exact parallaxref1_PutHex.mono _ _
      | exact LeO.none _
      | refine LeO.ite ?_ ?_
      | refine LeO.bind ?_ (fun _ => ?_)
    · intro y0 y1 y2 y3 y4 y5 y6 y7 y8
      unfold parallaxlaw2_NumberTells.l1
      repeat' first
      | (with_reducible exact ih0 _ _ _ _ _)
      | (with_reducible exact ih1 _ _ _ _ _ _ _ _ _)
      | (with_reducible exact number_Dec.mono _ _ _)
      | (with_reducible exact number_Hex.mono _ _ _)
      | (with_reducible exact parallaxlaw2_known.mono _)
      | (with_reducible exact parallaxlaw2_some.mono _ _)
      | (with_reducible exact parallaxref1_Dec.mono _ _ _)
      | (with_reducible exact parallaxref1_HexNumber.mono _ _ _)
      | (with_reducible exact parallaxref1_Put.mono _ _)
      | (with_reducible exact parallaxref1_PutHex.mono _ _)
      | (with_reducible exact LeO.refl _)
      | (with_reducible exact LeO.none _)
      | (with_reducible refine LeO.ite ?_ ?_)
      | (with_reducible refine LeO.bind ?_ (fun _ => ?_))
      | exact ih0 _ _ _ _ _
      | exact ih1 _ _ _ _ _ _ _ _ _
      | exact number_Dec.mono _ _ _
      | exact number_Hex.mono _ _ _
      | exact parallaxlaw2_known.mono _
      | exact parallaxlaw2_some.mono _ _
      | exact parallaxref1_Dec.mono _ _ _
      | exact parallaxref1_HexNumber.mono _ _ _
      | exact parallaxref1_Put.mono _ _
      | exact parallaxref1_PutHex.mono _ _
      | exact LeO.none _
      | refine LeO.ite ?_ ?_
      | refine LeO.bind ?_ (fun _ => ?_)
theorem parallaxlaw2_NumberTells.mono : ∀ a0 a1 a2 a3 k, LeO (parallaxlaw2_NumberTells.f k a0 a1 a2 a3) (parallaxlaw2_NumberTells.f (k + 1) a0 a1 a2 a3) := by
  intro a0 a1 a2 a3 k
  obtain ⟨ih0, ih1⟩ := parallaxlaw2_NumberTells.mono_l k
  unfold parallaxlaw2_NumberTells.f
  repeat' first
      | (with_reducible exact ih0 _ _ _ _ _)
      | (with_reducible exact ih1 _ _ _ _ _ _ _ _ _)
      | (with_reducible exact number_Dec.mono _ _ _)
      | (with_reducible exact number_Hex.mono _ _ _)
      | (with_reducible exact parallaxlaw2_known.mono _)
      | (with_reducible exact parallaxlaw2_some.mono _ _)
      | (with_reducible exact parallaxref1_Dec.mono _ _ _)
      | (with_reducible exact parallaxref1_HexNumber.mono _ _ _)
      | (with_reducible exact parallaxref1_Put.mono _ _)
      | (with_reducible exact parallaxref1_PutHex.mono _ _)
      | (with_reducible exact LeO.refl _)
      | (with_reducible exact LeO.none _)
      | (with_reducible refine LeO.ite ?_ ?_)
      | (with_reducible refine LeO.bind ?_ (fun _ => ?_))
      | exact ih0 _ _ _ _ _
      | exact ih1 _ _ _ _ _ _ _ _ _
      | exact number_Dec.mono _ _ _
      | exact number_Hex.mono _ _ _
      | exact parallaxlaw2_known.mono _
      | exact parallaxlaw2_some.mono _ _
      | exact parallaxref1_Dec.mono _ _ _
      | exact parallaxref1_HexNumber.mono _ _ _
      | exact parallaxref1_Put.mono _ _
      | exact parallaxref1_PutHex.mono _ _
      | exact LeO.none _
      | refine LeO.ite ?_ ?_
      | refine LeO.bind ?_ (fun _ => ?_)
set_option maxHeartbeats 8000000 in
set_option maxRecDepth 100000 in
theorem parallaxlaw2_NumberTells.calls (k : Nat) (a0 : ByteArray) (A1 : Option Addr) (c1 : Nat) (l1 : List Int) (a2 : Int) (a3 : Int) (r : Bool) (w : World) (hr1 : Kd.C (Kd.int .u8) w A1 l1.length l1) (hc1 : l1.length ≤ c1) (hq2 : (Lit.int .i64 a2).wf = true) (hq3 : (Lit.int .i64 a3).wf = true) (hT : r = true) (hL : Laid.LaidX w) (h : parallaxlaw2_NumberTells.f k a0 l1 a2 a3 = some r) :
    Calls Tryd.prog 3 #[.string a0, .slice A1 l1.length c1, .int .i64 a2, .int .i64 a3] w fun e w' => e = .returned (.bool r) ∧ Below w.heap.size w w' := by
  have HQ2 := Aside0.mk hq2
  clear hq2
  have HQ3 := Aside0.mk hq3
  clear hq3
  have HT := Aside0.mk hT
  clear hT
  have HR1 := Aside0.mk hr1
  have HC1 := Aside0.mk hc1
  clear hr1 hc1
  have HB := Aside0.mk (Below.refl w.heap.size w)
  have HLX := Aside0.mk hL
  clear hL
  have H : ((parallaxlaw2_known.f k).bind fun t155 => (if t155 = true then (if (a0.size : Int) > 60 then (some true) else (if (l1.length : Int) > 12 then (some true) else ((parallaxlaw2_some.f k l1).bind fun t156 => ((parallaxref1_Put.f k a3).bind fun t157 => ((parallaxref1_PutHex.f k a3).bind fun t158 => ((parallaxref1_Put.f k a3).bind fun t159 => (if 28 + t159.size ≤ 9223372036854775807 then ((some (([a0, t156, t157, t158, (⟨#[48, 48, 48, 48, 48, 48, 48, 48, 48, 48, 48, 48, 48, 48, 48, 48, 48, 48, 48, 48, 48, 48, 48, 48, 48, 48, 48, 48]⟩ : ByteArray) ++ t159] : List ByteArray) : List ByteArray)).bind fun y160 => (parallaxlaw2_NumberTells.l0 k a2 a3 y160 (y160.length : Int) 0)) else (none)))))))) else (some false))) = some r := h
  clear h
  replace H := Option.bind_eq_some_iff.mp H
  obtain ⟨t155, A50, H⟩ := H
  (try dsimp only at H)
  have A5 := Aside0.mk A50
  clear A50
  by_cases c6 : t155 = true
  · subst c6
    rw [if_pos rfl] at H
    by_cases c7 : (a0.size : Int) > 60
    · rw [if_pos c7] at H
      have c7b0 : decide (60 < (a0.size : Int)) = true := decide_eq_true c7
      have c7b1 : decide (60 < a0.size) = true := decide_eq_true (by omega)
      clear c7
      obtain rfl := Option.some.inj H
      go_enter Tryd.func3, Tryd.ntmps3
      go_wp2_with (first | ((with_reducible refine gate_callee (f := 7) rfl ?_); refine goesL_ (some 21) rfl rfl Tryd.func7 (by kernel_rfl) rfl #[] rfl (by (try simp only [List.map_toArray, List.map_cons, List.map_nil]); first | done | rfl | (simp only [List.length_drop, List.length_take]; rfl)) ?_; (with_reducible refine (parallaxlaw2_known.calls k  true _ ?side1 A5.out).mono ?_); (case side1 => exact Laid.below HLX.out (by repeat (first | (with_reducible first | exact HB.out | apply below_alloc | apply pw_below_drewN | apply below_drew1) | exact HB.out))); rintro e w8 ⟨rfl, hb⟩; refine ⟨_, rfl, ?_⟩; have n0_ := Aside0.mk (below_step (by repeat (first | (with_reducible first | exact HB.out | apply below_alloc | apply pw_below_drewN | apply below_drew1) | exact HB.out)) hb); clear HB; have HB := n0_; clear n0_; (try clear hb); (try clear hb2); (try clear hk); (try clear hi)) | (go_at_call 7; (with_reducible refine (parallaxlaw2_known.calls k  true _ ?side1 A5.out).mono ?_); (case side1 => exact Laid.below HLX.out (by repeat (first | (with_reducible first | exact HB.out | apply below_alloc | apply pw_below_drewN | apply below_drew1) | exact HB.out))); rintro e w8 ⟨rfl, hb⟩; have n0_ := Aside0.mk (below_step (by repeat (first | (with_reducible first | exact HB.out | apply below_alloc | apply pw_below_drewN | apply below_drew1) | exact HB.out)) hb); clear HB; have HB := n0_; clear n0_; (try clear hb); (try clear hb2); (try clear hk); (try clear hi)))
      (try any_goals (exfalso; have h_ := ‹some undef = some (Value.bool _)›; revert h_; simp [undef]; done))
      go_ret
      exact ⟨by first | rfl | (simp [errW_none, errW_some] <;> rfl) | (simp [*, errW_none, errW_some] <;> rfl), by repeat (first | (with_reducible first | exact HB.out | apply below_alloc | apply pw_below_drewN | apply below_drew1) | exact HB.out)⟩
    · rw [if_neg c7] at H
      have c7b0 : decide (60 < (a0.size : Int)) = false := decide_eq_false c7
      have c7b1 : decide (60 < a0.size) = false := decide_eq_false (by omega)
      clear c7
      by_cases c9 : (l1.length : Int) > 12
      · rw [if_pos c9] at H
        have c9b0 : decide (12 < (l1.length : Int)) = true := decide_eq_true c9
        have c9b1 : decide (12 < l1.length) = true := decide_eq_true (by omega)
        clear c9
        obtain rfl := Option.some.inj H
        go_enter Tryd.func3, Tryd.ntmps3
        go_wp2_with (first | ((with_reducible refine gate_callee (f := 7) rfl ?_); refine goesL_ (some 21) rfl rfl Tryd.func7 (by kernel_rfl) rfl #[] rfl (by (try simp only [List.map_toArray, List.map_cons, List.map_nil]); first | done | rfl | (simp only [List.length_drop, List.length_take]; rfl)) ?_; (with_reducible refine (parallaxlaw2_known.calls k  true _ ?side1 A5.out).mono ?_); (case side1 => exact Laid.below HLX.out (by repeat (first | (with_reducible first | exact HB.out | apply below_alloc | apply pw_below_drewN | apply below_drew1) | exact HB.out))); rintro e w10 ⟨rfl, hb⟩; refine ⟨_, rfl, ?_⟩; have n0_ := Aside0.mk (below_step (by repeat (first | (with_reducible first | exact HB.out | apply below_alloc | apply pw_below_drewN | apply below_drew1) | exact HB.out)) hb); clear HB; have HB := n0_; clear n0_; (try clear hb); (try clear hb2); (try clear hk); (try clear hi)) | (go_at_call 7; (with_reducible refine (parallaxlaw2_known.calls k  true _ ?side1 A5.out).mono ?_); (case side1 => exact Laid.below HLX.out (by repeat (first | (with_reducible first | exact HB.out | apply below_alloc | apply pw_below_drewN | apply below_drew1) | exact HB.out))); rintro e w10 ⟨rfl, hb⟩; have n0_ := Aside0.mk (below_step (by repeat (first | (with_reducible first | exact HB.out | apply below_alloc | apply pw_below_drewN | apply below_drew1) | exact HB.out)) hb); clear HB; have HB := n0_; clear n0_; (try clear hb); (try clear hb2); (try clear hk); (try clear hi)))
        (try any_goals (exfalso; have h_ := ‹some undef = some (Value.bool _)›; revert h_; simp [undef]; done))
        go_ret
        exact ⟨by first | rfl | (simp [errW_none, errW_some] <;> rfl) | (simp [*, errW_none, errW_some] <;> rfl), by repeat (first | (with_reducible first | exact HB.out | apply below_alloc | apply pw_below_drewN | apply below_drew1) | exact HB.out)⟩
      · rw [if_neg c9] at H
        have c9b0 : decide (12 < (l1.length : Int)) = false := decide_eq_false c9
        have c9b1 : decide (12 < l1.length) = false := decide_eq_false (by omega)
        clear c9
        replace H := Option.bind_eq_some_iff.mp H
        obtain ⟨t156, A110, H⟩ := H
        (try dsimp only at H)
        have A11 := Aside0.mk A110
        clear A110
        replace H := Option.bind_eq_some_iff.mp H
        obtain ⟨t157, A120, H⟩ := H
        (try dsimp only at H)
        have A12 := Aside0.mk A120
        clear A120
        replace H := Option.bind_eq_some_iff.mp H
        obtain ⟨t158, A130, H⟩ := H
        (try dsimp only at H)
        have A13 := Aside0.mk A130
        clear A130
        replace H := Option.bind_eq_some_iff.mp H
        obtain ⟨t159, A140, H⟩ := H
        have E_ : t157 = t159 := Option.some.inj (A12.out.symm.trans A140)
        subst E_
        (try dsimp only at H)
        have A14 := Aside0.mk A140
        clear A140
        by_cases c15 : 28 + t157.size ≤ 9223372036854775807
        · rw [if_pos c15] at H
          have c15b0 := eq_true c15
          have c15b1 : decide (28 + t157.size ≤ 9223372036854775807) = true := decide_eq_true c15
          try have c15b2 : (9223372036854775807 < 28 + t157.size) = False := eq_false (Nat.not_lt.2 c15)
          obtain ⟨y160, hy160⟩ : ∃ y_ : List ByteArray, y_ = (([a0, t156, t157, t158, (⟨#[48, 48, 48, 48, 48, 48, 48, 48, 48, 48, 48, 48, 48, 48, 48, 48, 48, 48, 48, 48, 48, 48, 48, 48, 48, 48, 48, 48]⟩ : ByteArray) ++ t157] : List ByteArray)) := ⟨_, rfl⟩
          replace H : (parallaxlaw2_NumberTells.l0 k a2 a3 y160 (y160.length : Int) 0) = some r := by first | (rw [hy160]; with_reducible exact H) | (have H2_ := (Option.bind_some _ _).symm.trans H; rw [hy160]; with_reducible exact H2_) | (have H2_ := (Option.bind_some _ _).symm.trans H; with_reducible exact H2_) | with_reducible exact H | (rw [hy160]; exact H) | exact H
          have Ny160 := Aside0.mk hy160
          clear hy160
          have H' := Aside0.mk H
          clear H
          go_enter Tryd.func3, Tryd.ntmps3
          go_wp2_with (first | ((with_reducible refine gate_callee (f := 7) rfl ?_); refine goesL_ (some 21) rfl rfl Tryd.func7 (by kernel_rfl) rfl #[] rfl (by (try simp only [List.map_toArray, List.map_cons, List.map_nil]); first | done | rfl | (simp only [List.length_drop, List.length_take]; rfl)) ?_; (with_reducible refine (parallaxlaw2_known.calls k  true _ ?side1 A5.out).mono ?_); (case side1 => exact Laid.below HLX.out (by repeat (first | (with_reducible first | exact HB.out | apply below_alloc | apply pw_below_drewN | apply below_drew1) | exact HB.out))); rintro e w16 ⟨rfl, hb⟩; refine ⟨_, rfl, ?_⟩; have n0_ := Aside0.mk (below_step (by repeat (first | (with_reducible first | exact HB.out | apply below_alloc | apply pw_below_drewN | apply below_drew1) | exact HB.out)) hb); clear HB; have HB := n0_; clear n0_; (try clear hb); (try clear hb2); (try clear hk); (try clear hi)) | ((with_reducible refine gate_callee (f := 8) rfl ?_); refine goesL_ (some 33) rfl rfl Tryd.func8 (by kernel_rfl) rfl #[.slice A1 l1.length c1] rfl (by (try simp only [List.map_toArray, List.map_cons, List.map_nil]); first | done | rfl | (simp only [List.length_drop, List.length_take]; rfl)) ?_; (with_reducible refine (parallaxlaw2_some.calls k _ _ l1 t156 _ ?side1 ?side2 A11.out).mono ?_); (case side1 => repeat (first | exact (Kd.C_below HR1.out HB.out) | (with_reducible refine Kd.C_alloc ?_ _) | (with_reducible refine Kd.C_drewN ?_ _) | (with_reducible refine Kd.C_drew ?_))); (case side2 => exact HC1.out); rintro e w17 ⟨rfl, hb⟩; refine ⟨_, rfl, ?_⟩; have n0_ := Aside0.mk (below_step (by repeat (first | (with_reducible first | exact HB.out | apply below_alloc | apply pw_below_drewN | apply below_drew1) | exact HB.out)) hb); clear HB; have HB := n0_; clear n0_; (try clear hb); (try clear hb2); (try clear hk); (try clear hi)) | ((with_reducible refine gate_callee (f := 9) rfl ?_); refine goesL_ (some 35) rfl rfl Tryd.func9 (by kernel_rfl) rfl #[.int .i64 a3] rfl (by (try simp only [List.map_toArray, List.map_cons, List.map_nil]); first | done | rfl | (simp only [List.length_drop, List.length_take]; rfl)) ?_; (with_reducible refine (parallaxref1_Put.calls k a3 t157 _ A12.out).mono ?_); rintro e w18 ⟨rfl, hb⟩; refine ⟨_, rfl, ?_⟩; have n0_ := Aside0.mk (below_step (by repeat (first | (with_reducible first | exact HB.out | apply below_alloc | apply pw_below_drewN | apply below_drew1) | exact HB.out)) hb); clear HB; have HB := n0_; clear n0_; (try clear hb); (try clear hb2); (try clear hk); (try clear hi)) | ((with_reducible refine gate_callee (f := 10) rfl ?_); refine goesL_ (some 37) rfl rfl Tryd.func10 (by kernel_rfl) rfl #[.int .i64 a3] rfl (by (try simp only [List.map_toArray, List.map_cons, List.map_nil]); first | done | rfl | (simp only [List.length_drop, List.length_take]; rfl)) ?_; (with_reducible refine (parallaxref1_PutHex.calls k a3 t158 _ A13.out).mono ?_); rintro e w19 ⟨rfl, hb⟩; refine ⟨_, rfl, ?_⟩; have n0_ := Aside0.mk (below_step (by repeat (first | (with_reducible first | exact HB.out | apply below_alloc | apply pw_below_drewN | apply below_drew1) | exact HB.out)) hb); clear HB; have HB := n0_; clear n0_; (try clear hb); (try clear hb2); (try clear hk); (try clear hi)) | ((with_reducible refine gate_callee (f := 9) rfl ?_); refine goesL_ (some 39) rfl rfl Tryd.func9 (by kernel_rfl) rfl #[.int .i64 a3] rfl (by (try simp only [List.map_toArray, List.map_cons, List.map_nil]); first | done | rfl | (simp only [List.length_drop, List.length_take]; rfl)) ?_; (with_reducible refine (parallaxref1_Put.calls k a3 t157 _ A14.out).mono ?_); rintro e w20 ⟨rfl, hb⟩; refine ⟨_, rfl, ?_⟩; have n0_ := Aside0.mk (below_step (by repeat (first | (with_reducible first | exact HB.out | apply below_alloc | apply pw_below_drewN | apply below_drew1) | exact HB.out)) hb); clear HB; have HB := n0_; clear n0_; (try clear hb); (try clear hb2); (try clear hk); (try clear hi)) | ((with_reducible refine gate_dst (N := 41) rfl ?_); (try (refine gate_guard (by rfl) ?_; dsimp only)); refine Kd.R_lit Kd.string _ 9 ?hg (N := 41) ?hd (xs := ([a0, t156, t157, t158, (⟨#[48, 48, 48, 48, 48, 48, 48, 48, 48, 48, 48, 48, 48, 48, 48, 48, 48, 48, 48, 48, 48, 48, 48, 48, 48, 48, 48, 48]⟩ : ByteArray) ++ t157] : List ByteArray)) (inner := [.string a0, .string t156, .string t157, .string t158, .string ((⟨#[48, 48, 48, 48, 48, 48, 48, 48, 48, 48, 48, 48, 48, 48, 48, 48, 48, 48, 48, 48, 48, 48, 48, 48, 48, 48, 48, 48]⟩ : ByteArray) ++ t157)]) (ok := fun _ => True) (okp := fun _ => True) ?hr ?hp (fun _ hk => hk) trivial (Below.refl _ _) (Nat.le_refl _) (by simp) ?_; (case hd => rfl); (case hg => rfl); (case hr => first | (go_simp; done) | (go_simp; rfl)); (case hp => exact (Reps.one (show Kd.M Kd.string _ _ _ a0 [.string a0] from rfl) (Reps.one (show Kd.M Kd.string _ _ _ t156 [.string t156] from rfl) (Reps.one (show Kd.M Kd.string _ _ _ t157 [.string t157] from rfl) (Reps.one (show Kd.M Kd.string _ _ _ t158 [.string t158] from rfl) (Reps.one (show Kd.M Kd.string _ _ _ ((⟨#[48, 48, 48, 48, 48, 48, 48, 48, 48, 48, 48, 48, 48, 48, 48, 48, 48, 48, 48, 48, 48, 48, 48, 48, 48, 48, 48, 48]⟩ : ByteArray) ++ t157) [.string ((⟨#[48, 48, 48, 48, 48, 48, 48, 48, 48, 48, 48, 48, 48, 48, 48, 48, 48, 48, 48, 48, 48, 48, 48, 48, 48, 48, 48, 48]⟩ : ByteArray) ++ t157)] from rfl) (Reps.none _ _))))))); intro v161 w21 ho22 hb hg_ hnew_; clear hg_ hnew_; (first | rw [← Ny160.out] at ho22 | (simp only [Int.reduceToNat] at ho22; rw [← Ny160.out] at ho22)); have n0_ := Aside0.mk (Kd.R_lower ho22 (below_size (by repeat (first | (with_reducible first | exact HB.out | apply below_alloc | apply pw_below_drewN | apply below_drew1) | exact HB.out)))); have n1_ := Aside0.mk (below_step (by repeat (first | (with_reducible first | exact HB.out | apply below_alloc | apply pw_below_drewN | apply below_drew1) | exact HB.out)) hb); clear HB; have HO162 := n0_; have HB := n1_; clear n0_ n1_; clear hb ho22; obtain ⟨Ao23, co23, eo23⟩ := Kd.R_slice HO162.out; subst eo23) | (go_at_call 7; (with_reducible refine (parallaxlaw2_known.calls k  true _ ?side1 A5.out).mono ?_); (case side1 => exact Laid.below HLX.out (by repeat (first | (with_reducible first | exact HB.out | apply below_alloc | apply pw_below_drewN | apply below_drew1) | exact HB.out))); rintro e w16 ⟨rfl, hb⟩; have n0_ := Aside0.mk (below_step (by repeat (first | (with_reducible first | exact HB.out | apply below_alloc | apply pw_below_drewN | apply below_drew1) | exact HB.out)) hb); clear HB; have HB := n0_; clear n0_; (try clear hb); (try clear hb2); (try clear hk); (try clear hi)) | (go_at_call 8; (with_reducible refine (parallaxlaw2_some.calls k _ _ l1 t156 _ ?side1 ?side2 A11.out).mono ?_); (case side1 => repeat (first | exact (Kd.C_below HR1.out HB.out) | (with_reducible refine Kd.C_alloc ?_ _) | (with_reducible refine Kd.C_drewN ?_ _) | (with_reducible refine Kd.C_drew ?_))); (case side2 => exact HC1.out); rintro e w17 ⟨rfl, hb⟩; have n0_ := Aside0.mk (below_step (by repeat (first | (with_reducible first | exact HB.out | apply below_alloc | apply pw_below_drewN | apply below_drew1) | exact HB.out)) hb); clear HB; have HB := n0_; clear n0_; (try clear hb); (try clear hb2); (try clear hk); (try clear hi)) | (go_at_call 9; (with_reducible refine (parallaxref1_Put.calls k a3 t157 _ A12.out).mono ?_); rintro e w18 ⟨rfl, hb⟩; have n0_ := Aside0.mk (below_step (by repeat (first | (with_reducible first | exact HB.out | apply below_alloc | apply pw_below_drewN | apply below_drew1) | exact HB.out)) hb); clear HB; have HB := n0_; clear n0_; (try clear hb); (try clear hb2); (try clear hk); (try clear hi)) | (go_at_call 10; (with_reducible refine (parallaxref1_PutHex.calls k a3 t158 _ A13.out).mono ?_); rintro e w19 ⟨rfl, hb⟩; have n0_ := Aside0.mk (below_step (by repeat (first | (with_reducible first | exact HB.out | apply below_alloc | apply pw_below_drewN | apply below_drew1) | exact HB.out)) hb); clear HB; have HB := n0_; clear n0_; (try clear hb); (try clear hb2); (try clear hk); (try clear hi)) | (go_at_call 9; (with_reducible refine (parallaxref1_Put.calls k a3 t157 _ A14.out).mono ?_); rintro e w20 ⟨rfl, hb⟩; have n0_ := Aside0.mk (below_step (by repeat (first | (with_reducible first | exact HB.out | apply below_alloc | apply pw_below_drewN | apply below_drew1) | exact HB.out)) hb); clear HB; have HB := n0_; clear n0_; (try clear hb); (try clear hb2); (try clear hk); (try clear hi)))
          (try any_goals (exfalso; have h_ := ‹some undef = some (Value.bool _)›; revert h_; simp [undef]; done))
          go_loopg [43] k (fun kq v43 w' => ∃ (x43_1 : Int), v43 = .int .i64 x43_1 ∧ Aside0 (parallaxlaw2_NumberTells.l0 kq a2 a3 y160 (y160.length : Int) x43_1 = some r) ∧ Aside0 (kq ≤ k) ∧ Aside0 (Kd.R Kd.string 9 w' w.heap.size (fun _ => True) (.slice Ao23 y160.length co23) y160) ∧ Aside0 (Below w.heap.size w w'))
          case atStart => exact ⟨(0), (by first | rfl | (simp; done) | (simp [*]; done)), H', ⟨Nat.le_refl _⟩, ⟨by (with_reducible repeat (first | apply Kd.R_alloc | apply Kd.R_drewN | apply Kd.R_drew)); exact HO162.out⟩, ⟨by repeat (first | (with_reducible first | exact HB.out | apply below_alloc | apply pw_below_drewN | apply below_drew1) | exact HB.out)⟩⟩
          case round =>
            clear H'
            try clear c1
            try clear p2
            try clear q2
            try clear c3
            try clear q3
            try clear c6
            try clear c7
            try clear c7b0
            try clear c7b1
            try clear c8
            try clear c9
            try clear c9b0
            try clear c9b1
            try clear c10
            try clear c15
            try clear c15b0
            try clear c15b1
            try clear c15b2
            obtain ⟨x43_1, rfl, HA, HK1, HO_41, HB⟩ := hrel
            cases gk with
            | zero => exact absurd HA.out (by simp [parallaxlaw2_NumberTells.l0])
            | succ k1 =>
              have H := HA.out
              clear HA
              simp only [parallaxlaw2_NumberTells.l0] at H
              by_cases c24 : x43_1 < (y160.length : Int)
              · rw [if_pos c24] at H
                have c24b0 : decide (x43_1 < (y160.length : Int)) = true := decide_eq_true c24
                clear c24
                by_cases c25 : 0 ≤ x43_1
                · rw [if_pos c25] at H
                  have c25b0 : decide (0 ≤ x43_1) = true := decide_eq_true c25
                  clear c25
                  by_cases c26 : x43_1 < (y160.length : Int)
                  · rw [if_pos c26] at H
                    have c26b0 : decide (x43_1 < (y160.length : Int)) = true := decide_eq_true c26
                    clear c26
                    obtain ⟨y164, hy164⟩ : ∃ y_ : List Int, y_ = (([a2, Go.bits .and .i64 a2 255, a3, wrap64 (a3 - (wrap64 (Int.tdiv a3 2))), 9223372036854775807] : List Int)) := ⟨_, rfl⟩
                    replace H : (parallaxlaw2_NumberTells.l1 k1 a2 a3 (rdOf ByteArray.empty y160 x43_1) y160 (y160.length : Int) x43_1 y164 (y164.length : Int) 0) = some r := by first | (rw [hy164]; with_reducible exact H) | (have H2_ := (Option.bind_some _ _).symm.trans H; rw [hy164]; with_reducible exact H2_) | (have H2_ := (Option.bind_some _ _).symm.trans H; with_reducible exact H2_) | with_reducible exact H | (rw [hy164]; exact H) | exact H
                    have Ny164 := Aside0.mk hy164
                    clear hy164
                    have H' := Aside0.mk H
                    clear H
                    have p163 : 0 ≤ (x43_1 : Int) := of_decide_eq_true (by first | (with_reducible assumption) | assumption)
                    have q163 : x43_1 < (y160.length : Int) := of_decide_eq_true (by first | (with_reducible assumption) | assumption)
                    obtain ⟨ad163, e163, hx163_0⟩ := Kd.at_string (Kd.R_reads' HO_41.out).2.2 x43_1 p163 q163
                    cases e163
                    replace p163 := eq_true p163
                    replace q163 := eq_true q163
                    go_wp2_with (first | ((with_reducible refine gate_dst (N := 55) rfl ?_); (try (refine gate_guard (by rfl) ?_; dsimp only)); refine Kd.R_lit (Kd.int .i64) _ 3 ?hg (N := 55) ?hd (xs := ([a2, Go.bits .and .i64 a2 255, a3, wrap64 (a3 - (wrap64 (Int.tdiv a3 2))), 9223372036854775807] : List Int)) (inner := [.int .i64 a2, .int .i64 (Go.bits .and .i64 a2 255), .int .i64 a3, .int .i64 (wrap64 (a3 - (wrap64 (Int.tdiv a3 2)))), .int .i64 9223372036854775807]) (ok := fun _ => True) (okp := fun _ => True) ?hr ?hp (fun _ hk => hk) trivial (Below.refl _ _) (Nat.le_refl _) (by simp) ?_; (case hd => rfl); (case hg => rfl); (case hr => first | (go_simp; done) | (go_simp; rfl)); (case hp => exact (Reps.one (show Kd.M (Kd.int .i64) _ _ _ a2 [.int .i64 a2] from rfl) (Reps.one (show Kd.M (Kd.int .i64) _ _ _ (Go.bits .and .i64 a2 255) [.int .i64 (Go.bits .and .i64 a2 255)] from rfl) (Reps.one (show Kd.M (Kd.int .i64) _ _ _ a3 [.int .i64 a3] from rfl) (Reps.one (show Kd.M (Kd.int .i64) _ _ _ (wrap64 (a3 - (wrap64 (Int.tdiv a3 2)))) [.int .i64 (wrap64 (a3 - (wrap64 (Int.tdiv a3 2))))] from rfl) (Reps.one (show Kd.M (Kd.int .i64) _ _ _ 9223372036854775807 [.int .i64 9223372036854775807] from rfl) (Reps.none _ _))))))); intro v165 w27 ho28 hb hg_ hnew_; clear hg_ hnew_; (first | rw [← Ny164.out] at ho28 | (simp only [Int.reduceToNat] at ho28; rw [← Ny164.out] at ho28)); have n0_ := Aside0.mk (Kd.R_below (by (with_reducible repeat (first | apply Kd.R_alloc | apply Kd.R_drewN | apply Kd.R_drew)); exact HO_41.out) hb); have n1_ := Aside0.mk (Kd.R_lower ho28 (below_size (by repeat (first | (with_reducible first | exact HB.out | apply below_alloc | apply pw_below_drewN | apply below_drew1) | exact HB.out)))); have n2_ := Aside0.mk (below_step (by repeat (first | (with_reducible first | exact HB.out | apply below_alloc | apply pw_below_drewN | apply below_drew1) | exact HB.out)) hb); clear HO_41; clear HB; have HO_41 := n0_; have HO166 := n1_; have HB := n2_; clear n0_ n1_ n2_; clear hb ho28; obtain ⟨Ao29, co29, eo29⟩ := Kd.R_slice HO166.out; subst eo29))
                    (try any_goals (exfalso; have h_ := ‹some undef = some (Value.bool _)›; revert h_; simp [undef]; done))
                    go_loopg [57] k1 (fun kq v57 w' => ∃ (x57_2 : Int), v57 = .int .i64 x57_2 ∧ Aside0 (parallaxlaw2_NumberTells.l1 kq a2 a3 (rdOf ByteArray.empty y160 x43_1) y160 (y160.length : Int) x43_1 y164 (y164.length : Int) x57_2 = some r) ∧ Aside0 (kq ≤ k1) ∧ Aside0 (Kd.R Kd.string 9 w' w.heap.size (fun _ => True) (.slice (some ad163) y160.length co23) y160) ∧ Aside0 (Kd.R (Kd.int .i64) 3 w' w.heap.size (fun _ => True) (.slice Ao29 y164.length co29) y164) ∧ Aside0 (Below w.heap.size w w'))
                    case atStart => exact ⟨(0), (by first | rfl | (simp; done) | (simp [*]; done)), H', ⟨Nat.le_refl _⟩, ⟨by (with_reducible repeat (first | apply Kd.R_alloc | apply Kd.R_drewN | apply Kd.R_drew)); exact HO_41.out⟩, ⟨by (with_reducible repeat (first | apply Kd.R_alloc | apply Kd.R_drewN | apply Kd.R_drew)); exact HO166.out⟩, ⟨by repeat (first | (with_reducible first | exact HB.out | apply below_alloc | apply pw_below_drewN | apply below_drew1) | exact HB.out)⟩⟩
                    case round =>
                      clear H'
                      try clear c1
                      try clear p1
                      try clear q1
                      try clear hx1
                      try clear c2
                      try clear p2
                      try clear q2
                      try clear c3
                      try clear q3
                      try clear c6
                      try clear p6
                      try clear c7
                      try clear c7b0
                      try clear c7b1
                      try clear c8
                      try clear c9
                      try clear c9b0
                      try clear c9b1
                      try clear c10
                      try clear c15
                      try clear c15b0
                      try clear c15b1
                      try clear c15b2
                      try clear p16
                      try clear q16
                      try clear hx16
                      try clear c24
                      try clear c24b0
                      try clear c25
                      try clear c25b0
                      try clear c26
                      try clear c26b0
                      try clear hx163_0
                      try clear p163
                      try clear p2
                      try clear q163
                      try clear q2
                      try clear q3
                      obtain ⟨x57_2, rfl, HA, HK2, HO_41, HO_55, HB⟩ := hrel
                      cases gk with
                      | zero => exact absurd HA.out (by simp [parallaxlaw2_NumberTells.l1])
                      | succ k2 =>
                        have H := HA.out
                        clear HA
                        simp only [parallaxlaw2_NumberTells.l1] at H
                        by_cases c30 : x57_2 < (y164.length : Int)
                        · rw [if_pos c30] at H
                          have c30b0 : decide (x57_2 < (y164.length : Int)) = true := decide_eq_true c30
                          clear c30
                          by_cases c31 : 0 ≤ x57_2
                          · rw [if_pos c31] at H
                            have c31b0 : decide (0 ≤ x57_2) = true := decide_eq_true c31
                            clear c31
                            by_cases c32 : x57_2 < (y164.length : Int)
                            · rw [if_pos c32] at H
                              have c32b0 : decide (x57_2 < (y164.length : Int)) = true := decide_eq_true c32
                              clear c32
                              replace H := Option.bind_eq_some_iff.mp H
                              obtain ⟨⟨t168, t169⟩, A330, H⟩ := H
                              (try dsimp only at H)
                              have A33 := Aside0.mk A330
                              clear A330
                              replace H := Option.bind_eq_some_iff.mp H
                              obtain ⟨⟨t170, t171⟩, A340, H⟩ := H
                              (try dsimp only at H)
                              have A34 := Aside0.mk A340
                              clear A340
                              replace H := Option.bind_eq_some_iff.mp H
                              obtain ⟨⟨t172, t173⟩, A350, H⟩ := H
                              (try dsimp only at H)
                              have A35 := Aside0.mk A350
                              clear A350
                              replace H := Option.bind_eq_some_iff.mp H
                              obtain ⟨⟨t174, t175⟩, A360, H⟩ := H
                              (try dsimp only at H)
                              have A36 := Aside0.mk A360
                              clear A360
                              by_cases c37 : t168 = t170
                              · rw [if_pos c37] at H
                                have c37b0 : (t168 == t170) = true := beq_iff_eq.mpr c37
                                have c37b1 : (t168 != t170) = false := bne_eq_false_iff_eq.mpr c37
                                clear c37
                                by_cases c38 : t169 = t171
                                · rw [if_pos c38] at H
                                  have c38b0 : (t169 == t171) = true := beq_iff_eq.mpr c38
                                  have c38b1 : (t169 != t171) = false := bne_eq_false_iff_eq.mpr c38
                                  clear c38
                                  by_cases c39 : t172 = t174
                                  · rw [if_pos c39] at H
                                    have c39b0 : (t172 == t174) = true := beq_iff_eq.mpr c39
                                    have c39b1 : (t172 != t174) = false := bne_eq_false_iff_eq.mpr c39
                                    clear c39
                                    by_cases c40 : t173 = t175
                                    · rw [if_pos c40] at H
                                      have c40b0 : (t173 == t175) = true := beq_iff_eq.mpr c40
                                      have c40b1 : (t173 != t175) = false := bne_eq_false_iff_eq.mpr c40
                                      clear c40
                                      have H' := Aside0.mk H
                                      clear H
                                      have p167 : 0 ≤ (x57_2 : Int) := of_decide_eq_true (by first | (with_reducible assumption) | assumption)
                                      have q167 : x57_2 < (y164.length : Int) := of_decide_eq_true (by first | (with_reducible assumption) | assumption)
                                      obtain ⟨ad167, e167, hx167_0⟩ := Kd.at_int (Kd.R_reads' HO_55.out).2.2 x57_2 p167 q167
                                      cases e167
                                      replace p167 := eq_true p167
                                      replace q167 := eq_true q167
                                      go_wp2_with (first | ((with_reducible refine gate_callee (f := 11) rfl ?_); refine goesL_ (some 64) rfl rfl Tryd.func11 (by kernel_rfl) rfl #[.string (rdOf ByteArray.empty y160 x43_1), .int .i64 (rd y164 x57_2)] rfl (by (try simp only [List.map_toArray, List.map_cons, List.map_nil]); first | done | rfl | (simp only [List.length_drop, List.length_take]; rfl)) ?_; (with_reducible refine (number_Dec.calls k2 (rdOf ByteArray.empty y160 x43_1) (rd y164 x57_2) t168 t169 _ A33.out).mono ?_); rintro e w41 ⟨rfl, hb⟩; refine ⟨_, rfl, ?_⟩; have n0_ := Aside0.mk (Kd.R_below (by (with_reducible repeat (first | apply Kd.R_alloc | apply Kd.R_drewN | apply Kd.R_drew)); exact HO_41.out) hb); have n1_ := Aside0.mk (Kd.R_below (by (with_reducible repeat (first | apply Kd.R_alloc | apply Kd.R_drewN | apply Kd.R_drew)); exact HO_55.out) hb); have n2_ := Aside0.mk (below_step (by repeat (first | (with_reducible first | exact HB.out | apply below_alloc | apply pw_below_drewN | apply below_drew1) | exact HB.out)) hb); clear HO_41; clear HO_55; clear HB; have HO_41 := n0_; have HO_55 := n1_; have HB := n2_; clear n0_ n1_ n2_; (try clear hb); (try clear hb2); (try clear hk); (try clear hi)) | ((with_reducible refine gate_callee (f := 12) rfl ?_); refine goesL_ (some 70) rfl rfl Tryd.func12 (by kernel_rfl) rfl #[.string (rdOf ByteArray.empty y160 x43_1), .int .i64 (rd y164 x57_2)] rfl (by (try simp only [List.map_toArray, List.map_cons, List.map_nil]); first | done | rfl | (simp only [List.length_drop, List.length_take]; rfl)) ?_; (with_reducible refine (parallaxref1_Dec.calls k2 (rdOf ByteArray.empty y160 x43_1) (rd y164 x57_2) t170 t171 _ A34.out).mono ?_); rintro e w42 ⟨rfl, hb⟩; refine ⟨_, rfl, ?_⟩; have n0_ := Aside0.mk (Kd.R_below (by (with_reducible repeat (first | apply Kd.R_alloc | apply Kd.R_drewN | apply Kd.R_drew)); exact HO_41.out) hb); have n1_ := Aside0.mk (Kd.R_below (by (with_reducible repeat (first | apply Kd.R_alloc | apply Kd.R_drewN | apply Kd.R_drew)); exact HO_55.out) hb); have n2_ := Aside0.mk (below_step (by repeat (first | (with_reducible first | exact HB.out | apply below_alloc | apply pw_below_drewN | apply below_drew1) | exact HB.out)) hb); clear HO_41; clear HO_55; clear HB; have HO_41 := n0_; have HO_55 := n1_; have HB := n2_; clear n0_ n1_ n2_; (try clear hb); (try clear hb2); (try clear hk); (try clear hi)) | ((with_reducible refine gate_callee (f := 13) rfl ?_); refine goesL_ (some 76) rfl rfl Tryd.func13 (by kernel_rfl) rfl #[.string (rdOf ByteArray.empty y160 x43_1), .int .i64 (rd y164 x57_2)] rfl (by (try simp only [List.map_toArray, List.map_cons, List.map_nil]); first | done | rfl | (simp only [List.length_drop, List.length_take]; rfl)) ?_; (with_reducible refine (number_Hex.calls k2 (rdOf ByteArray.empty y160 x43_1) (rd y164 x57_2) t172 t173 _ A35.out).mono ?_); rintro e w43 ⟨rfl, hb⟩; refine ⟨_, rfl, ?_⟩; have n0_ := Aside0.mk (Kd.R_below (by (with_reducible repeat (first | apply Kd.R_alloc | apply Kd.R_drewN | apply Kd.R_drew)); exact HO_41.out) hb); have n1_ := Aside0.mk (Kd.R_below (by (with_reducible repeat (first | apply Kd.R_alloc | apply Kd.R_drewN | apply Kd.R_drew)); exact HO_55.out) hb); have n2_ := Aside0.mk (below_step (by repeat (first | (with_reducible first | exact HB.out | apply below_alloc | apply pw_below_drewN | apply below_drew1) | exact HB.out)) hb); clear HO_41; clear HO_55; clear HB; have HO_41 := n0_; have HO_55 := n1_; have HB := n2_; clear n0_ n1_ n2_; (try clear hb); (try clear hb2); (try clear hk); (try clear hi)) | ((with_reducible refine gate_callee (f := 14) rfl ?_); refine goesL_ (some 82) rfl rfl Tryd.func14 (by kernel_rfl) rfl #[.string (rdOf ByteArray.empty y160 x43_1), .int .i64 (rd y164 x57_2)] rfl (by (try simp only [List.map_toArray, List.map_cons, List.map_nil]); first | done | rfl | (simp only [List.length_drop, List.length_take]; rfl)) ?_; (with_reducible refine (parallaxref1_HexNumber.calls k2 (rdOf ByteArray.empty y160 x43_1) (rd y164 x57_2) t174 t175 _ A36.out).mono ?_); rintro e w44 ⟨rfl, hb⟩; refine ⟨_, rfl, ?_⟩; have n0_ := Aside0.mk (Kd.R_below (by (with_reducible repeat (first | apply Kd.R_alloc | apply Kd.R_drewN | apply Kd.R_drew)); exact HO_41.out) hb); have n1_ := Aside0.mk (Kd.R_below (by (with_reducible repeat (first | apply Kd.R_alloc | apply Kd.R_drewN | apply Kd.R_drew)); exact HO_55.out) hb); have n2_ := Aside0.mk (below_step (by repeat (first | (with_reducible first | exact HB.out | apply below_alloc | apply pw_below_drewN | apply below_drew1) | exact HB.out)) hb); clear HO_41; clear HO_55; clear HB; have HO_41 := n0_; have HO_55 := n1_; have HB := n2_; clear n0_ n1_ n2_; (try clear hb); (try clear hb2); (try clear hk); (try clear hi)) | (go_at_call 11; (with_reducible refine (number_Dec.calls k2 (rdOf ByteArray.empty y160 x43_1) (rd y164 x57_2) t168 t169 _ A33.out).mono ?_); rintro e w41 ⟨rfl, hb⟩; have n0_ := Aside0.mk (Kd.R_below (by (with_reducible repeat (first | apply Kd.R_alloc | apply Kd.R_drewN | apply Kd.R_drew)); exact HO_41.out) hb); have n1_ := Aside0.mk (Kd.R_below (by (with_reducible repeat (first | apply Kd.R_alloc | apply Kd.R_drewN | apply Kd.R_drew)); exact HO_55.out) hb); have n2_ := Aside0.mk (below_step (by repeat (first | (with_reducible first | exact HB.out | apply below_alloc | apply pw_below_drewN | apply below_drew1) | exact HB.out)) hb); clear HO_41; clear HO_55; clear HB; have HO_41 := n0_; have HO_55 := n1_; have HB := n2_; clear n0_ n1_ n2_; (try clear hb); (try clear hb2); (try clear hk); (try clear hi)) | (go_at_call 12; (with_reducible refine (parallaxref1_Dec.calls k2 (rdOf ByteArray.empty y160 x43_1) (rd y164 x57_2) t170 t171 _ A34.out).mono ?_); rintro e w42 ⟨rfl, hb⟩; have n0_ := Aside0.mk (Kd.R_below (by (with_reducible repeat (first | apply Kd.R_alloc | apply Kd.R_drewN | apply Kd.R_drew)); exact HO_41.out) hb); have n1_ := Aside0.mk (Kd.R_below (by (with_reducible repeat (first | apply Kd.R_alloc | apply Kd.R_drewN | apply Kd.R_drew)); exact HO_55.out) hb); have n2_ := Aside0.mk (below_step (by repeat (first | (with_reducible first | exact HB.out | apply below_alloc | apply pw_below_drewN | apply below_drew1) | exact HB.out)) hb); clear HO_41; clear HO_55; clear HB; have HO_41 := n0_; have HO_55 := n1_; have HB := n2_; clear n0_ n1_ n2_; (try clear hb); (try clear hb2); (try clear hk); (try clear hi)) | (go_at_call 13; (with_reducible refine (number_Hex.calls k2 (rdOf ByteArray.empty y160 x43_1) (rd y164 x57_2) t172 t173 _ A35.out).mono ?_); rintro e w43 ⟨rfl, hb⟩; have n0_ := Aside0.mk (Kd.R_below (by (with_reducible repeat (first | apply Kd.R_alloc | apply Kd.R_drewN | apply Kd.R_drew)); exact HO_41.out) hb); have n1_ := Aside0.mk (Kd.R_below (by (with_reducible repeat (first | apply Kd.R_alloc | apply Kd.R_drewN | apply Kd.R_drew)); exact HO_55.out) hb); have n2_ := Aside0.mk (below_step (by repeat (first | (with_reducible first | exact HB.out | apply below_alloc | apply pw_below_drewN | apply below_drew1) | exact HB.out)) hb); clear HO_41; clear HO_55; clear HB; have HO_41 := n0_; have HO_55 := n1_; have HB := n2_; clear n0_ n1_ n2_; (try clear hb); (try clear hb2); (try clear hk); (try clear hi)) | (go_at_call 14; (with_reducible refine (parallaxref1_HexNumber.calls k2 (rdOf ByteArray.empty y160 x43_1) (rd y164 x57_2) t174 t175 _ A36.out).mono ?_); rintro e w44 ⟨rfl, hb⟩; have n0_ := Aside0.mk (Kd.R_below (by (with_reducible repeat (first | apply Kd.R_alloc | apply Kd.R_drewN | apply Kd.R_drew)); exact HO_41.out) hb); have n1_ := Aside0.mk (Kd.R_below (by (with_reducible repeat (first | apply Kd.R_alloc | apply Kd.R_drewN | apply Kd.R_drew)); exact HO_55.out) hb); have n2_ := Aside0.mk (below_step (by repeat (first | (with_reducible first | exact HB.out | apply below_alloc | apply pw_below_drewN | apply below_drew1) | exact HB.out)) hb); clear HO_41; clear HO_55; clear HB; have HO_41 := n0_; have HO_55 := n1_; have HB := n2_; clear n0_ n1_ n2_; (try clear hb); (try clear hb2); (try clear hk); (try clear hi)))
                                      (try any_goals (exfalso; have h_ := ‹some undef = some (Value.bool _)›; revert h_; simp [undef]; done))
                                      go_roundg k2
                                      case measure => have := HK1.out; have := HK2.out; omega
                                      case rel => exact ⟨(wrap64 (x57_2 + 1)), (by first | rfl | (simp; done) | (simp [*]; done)), H', ⟨by have := HK1.out; have := HK2.out; omega⟩, ⟨by (with_reducible repeat (first | apply Kd.R_alloc | apply Kd.R_drewN | apply Kd.R_drew)); exact HO_41.out⟩, ⟨by (with_reducible repeat (first | apply Kd.R_alloc | apply Kd.R_drewN | apply Kd.R_drew)); exact HO_55.out⟩, ⟨by repeat (first | (with_reducible first | exact HB.out | apply below_alloc | apply pw_below_drewN | apply below_drew1) | exact HB.out)⟩⟩
                                    · rw [if_neg c40] at H
                                      have c40b0 : (t173 == t175) = false := beq_eq_false_iff_ne.mpr c40
                                      have c40b1 : (t173 != t175) = true := bne_iff_ne.mpr c40
                                      exact absurd ((Option.some.inj H).trans HT.out) (by decide)
                                  · rw [if_neg c39] at H
                                    have c39b0 : (t172 == t174) = false := beq_eq_false_iff_ne.mpr c39
                                    have c39b1 : (t172 != t174) = true := bne_iff_ne.mpr c39
                                    exact absurd ((Option.some.inj H).trans HT.out) (by decide)
                                · rw [if_neg c38] at H
                                  have c38b0 : (t169 == t171) = false := beq_eq_false_iff_ne.mpr c38
                                  have c38b1 : (t169 != t171) = true := bne_iff_ne.mpr c38
                                  exact absurd ((Option.some.inj H).trans HT.out) (by decide)
                              · rw [if_neg c37] at H
                                have c37b0 : (t168 == t170) = false := beq_eq_false_iff_ne.mpr c37
                                have c37b1 : (t168 != t170) = true := bne_iff_ne.mpr c37
                                exact absurd ((Option.some.inj H).trans HT.out) (by decide)
                            · rw [if_neg c32] at H
                              exact absurd H (by simp)
                          · rw [if_neg c31] at H
                            exact absurd H (by simp)
                        · rw [if_neg c30] at H
                          have c30b0 : decide (x57_2 < (y164.length : Int)) = false := decide_eq_false c30
                          clear c30
                          have H' := Aside0.mk H
                          clear H
                          go_wp2
                          (try any_goals (exfalso; have h_ := ‹some undef = some (Value.bool _)›; revert h_; simp [undef]; done))
                          go_roundg k2
                          case measure => have := HK1.out; have := HK2.out; omega
                          case rel => exact ⟨(wrap64 (x43_1 + 1)), (by first | rfl | (simp; done) | (simp [*]; done)), H', ⟨by have := HK1.out; have := HK2.out; omega⟩, ⟨by (with_reducible repeat (first | apply Kd.R_alloc | apply Kd.R_drewN | apply Kd.R_drew)); exact HO_41.out⟩, ⟨by repeat (first | (with_reducible first | exact HB.out | apply below_alloc | apply pw_below_drewN | apply below_drew1) | exact HB.out)⟩⟩
                  · rw [if_neg c26] at H
                    exact absurd H (by simp)
                · rw [if_neg c25] at H
                  exact absurd H (by simp)
              · rw [if_neg c24] at H
                have c24b0 : decide (x43_1 < (y160.length : Int)) = false := decide_eq_false c24
                clear c24
                replace H := Option.bind_eq_some_iff.mp H
                obtain ⟨t176, A450, H⟩ := H
                (try dsimp only at H)
                have A45 := Aside0.mk A450
                clear A450
                replace H := Option.bind_eq_some_iff.mp H
                obtain ⟨t177, A460, H⟩ := H
                (try dsimp only at H)
                have A46 := Aside0.mk A460
                clear A460
                by_cases c47 : t176.toList = t177.toList
                · rw [if_pos c47] at H
                  have c47b0 : (t176.toList == t177.toList) = true := beq_iff_eq.mpr c47
                  have c47b1 : (t176.toList != t177.toList) = false := bne_eq_false_iff_eq.mpr c47
                  clear c47
                  replace H := Option.bind_eq_some_iff.mp H
                  obtain ⟨t178, A480, H⟩ := H
                  (try dsimp only at H)
                  have A48 := Aside0.mk A480
                  clear A480
                  replace H := Option.bind_eq_some_iff.mp H
                  obtain ⟨t179, A490, H⟩ := H
                  (try dsimp only at H)
                  have A49 := Aside0.mk A490
                  clear A490
                  obtain rfl := Option.some.inj H
                  go_wp2_with (first | ((with_reducible refine gate_callee (f := 15) rfl ?_); refine goesL_ (some 106) rfl rfl Tryd.func15 (by kernel_rfl) rfl #[.int .i64 a3] rfl (by (try simp only [List.map_toArray, List.map_cons, List.map_nil]); first | done | rfl | (simp only [List.length_drop, List.length_take]; rfl)) ?_; (with_reducible refine (number_Put.calls a3 t176 _ ?side1 A45.out).mono ?_); (case side1 => exact Laid.below HLX.out (by repeat (first | (with_reducible first | exact HB.out | apply below_alloc | apply pw_below_drewN | apply below_drew1) | exact HB.out))); rintro e w50 ⟨rfl, hb⟩; refine ⟨_, rfl, ?_⟩; have n0_ := Aside0.mk (Kd.R_below (by (with_reducible repeat (first | apply Kd.R_alloc | apply Kd.R_drewN | apply Kd.R_drew)); exact HO_41.out) hb); have n1_ := Aside0.mk (below_step (by repeat (first | (with_reducible first | exact HB.out | apply below_alloc | apply pw_below_drewN | apply below_drew1) | exact HB.out)) hb); clear HO_41; clear HB; have HO_41 := n0_; have HB := n1_; clear n0_ n1_; (try clear hb); (try clear hb2); (try clear hk); (try clear hi)) | ((with_reducible refine gate_callee (f := 9) rfl ?_); refine goesL_ (some 108) rfl rfl Tryd.func9 (by kernel_rfl) rfl #[.int .i64 a3] rfl (by (try simp only [List.map_toArray, List.map_cons, List.map_nil]); first | done | rfl | (simp only [List.length_drop, List.length_take]; rfl)) ?_; (with_reducible refine (parallaxref1_Put.calls k1 a3 t177 _ A46.out).mono ?_); rintro e w51 ⟨rfl, hb⟩; refine ⟨_, rfl, ?_⟩; have n0_ := Aside0.mk (Kd.R_below (by (with_reducible repeat (first | apply Kd.R_alloc | apply Kd.R_drewN | apply Kd.R_drew)); exact HO_41.out) hb); have n1_ := Aside0.mk (below_step (by repeat (first | (with_reducible first | exact HB.out | apply below_alloc | apply pw_below_drewN | apply below_drew1) | exact HB.out)) hb); clear HO_41; clear HB; have HO_41 := n0_; have HB := n1_; clear n0_ n1_; (try clear hb); (try clear hb2); (try clear hk); (try clear hi)) | (go_at_call 16; (with_reducible refine (number_PutHex.calls a3 t178 _ ?side1 A48.out).mono ?_); (case side1 => exact Laid.below HLX.out (by repeat (first | (with_reducible first | exact HB.out | apply below_alloc | apply pw_below_drewN | apply below_drew1) | exact HB.out))); rintro e w52 ⟨rfl, hb⟩; have n0_ := Aside0.mk (Kd.R_below (by (with_reducible repeat (first | apply Kd.R_alloc | apply Kd.R_drewN | apply Kd.R_drew)); exact HO_41.out) hb); have n1_ := Aside0.mk (below_step (by repeat (first | (with_reducible first | exact HB.out | apply below_alloc | apply pw_below_drewN | apply below_drew1) | exact HB.out)) hb); clear HO_41; clear HB; have HO_41 := n0_; have HB := n1_; clear n0_ n1_; (try clear hb); (try clear hb2); (try clear hk); (try clear hi)) | (go_at_call 10; (with_reducible refine (parallaxref1_PutHex.calls k1 a3 t179 _ A49.out).mono ?_); rintro e w53 ⟨rfl, hb⟩; have n0_ := Aside0.mk (Kd.R_below (by (with_reducible repeat (first | apply Kd.R_alloc | apply Kd.R_drewN | apply Kd.R_drew)); exact HO_41.out) hb); have n1_ := Aside0.mk (below_step (by repeat (first | (with_reducible first | exact HB.out | apply below_alloc | apply pw_below_drewN | apply below_drew1) | exact HB.out)) hb); clear HO_41; clear HB; have HO_41 := n0_; have HB := n1_; clear n0_ n1_; (try clear hb); (try clear hb2); (try clear hk); (try clear hi)) | (go_at_call 15; (with_reducible refine (number_Put.calls a3 t176 _ ?side1 A45.out).mono ?_); (case side1 => exact Laid.below HLX.out (by repeat (first | (with_reducible first | exact HB.out | apply below_alloc | apply pw_below_drewN | apply below_drew1) | exact HB.out))); rintro e w50 ⟨rfl, hb⟩; have n0_ := Aside0.mk (Kd.R_below (by (with_reducible repeat (first | apply Kd.R_alloc | apply Kd.R_drewN | apply Kd.R_drew)); exact HO_41.out) hb); have n1_ := Aside0.mk (below_step (by repeat (first | (with_reducible first | exact HB.out | apply below_alloc | apply pw_below_drewN | apply below_drew1) | exact HB.out)) hb); clear HO_41; clear HB; have HO_41 := n0_; have HB := n1_; clear n0_ n1_; (try clear hb); (try clear hb2); (try clear hk); (try clear hi)) | (go_at_call 9; (with_reducible refine (parallaxref1_Put.calls k1 a3 t177 _ A46.out).mono ?_); rintro e w51 ⟨rfl, hb⟩; have n0_ := Aside0.mk (Kd.R_below (by (with_reducible repeat (first | apply Kd.R_alloc | apply Kd.R_drewN | apply Kd.R_drew)); exact HO_41.out) hb); have n1_ := Aside0.mk (below_step (by repeat (first | (with_reducible first | exact HB.out | apply below_alloc | apply pw_below_drewN | apply below_drew1) | exact HB.out)) hb); clear HO_41; clear HB; have HO_41 := n0_; have HB := n1_; clear n0_ n1_; (try clear hb); (try clear hb2); (try clear hk); (try clear hi)))
                  (try any_goals (exfalso; have h_ := ‹some undef = some (Value.bool _)›; revert h_; simp [undef]; done))
                  go_ret
                  exact ⟨by first | rfl | (simp [errW_none, errW_some] <;> rfl) | (simp [*, errW_none, errW_some] <;> rfl), by repeat (first | (with_reducible first | exact HB.out | apply below_alloc | apply pw_below_drewN | apply below_drew1) | exact HB.out)⟩
                · rw [if_neg c47] at H
                  have c47b0 : (t176.toList == t177.toList) = false := beq_eq_false_iff_ne.mpr c47
                  have c47b1 : (t176.toList != t177.toList) = true := bne_iff_ne.mpr c47
                  exact absurd ((Option.some.inj H).trans HT.out) (by decide)
        · rw [if_neg c15] at H
          exact absurd H (by simp)
  · replace c6 := Bool.eq_false_iff.mpr c6
    subst c6
    rw [if_neg (show ¬ (false = true) by decide)] at H
    exact absurd ((Option.some.inj H).trans HT.out) (by decide)

/-- THE ONE PURE STATEMENT of parallaxlaw2_NumberTells: yours. -/
def parallaxlaw2_NumberTells.Pure : Prop := ∀ (a0 : ByteArray) (l1 : List Int) (a2 : Int) (a3 : Int), a0.size ≤ 140737488351232 → l1.length ≤ maxLen → l1.length * 1 ≤ 140737488351232 → (∀ x ∈ l1, (Lit.int .u8 x).wf = true) → (Lit.int .i64 a2).wf = true → (Lit.int .i64 a3).wf = true → ∃ k, parallaxlaw2_NumberTells.f k a0 l1 a2 a3 = some true

end Go.Proofs.YtnckmjdonbnpoaaDoor.PNumberTells
