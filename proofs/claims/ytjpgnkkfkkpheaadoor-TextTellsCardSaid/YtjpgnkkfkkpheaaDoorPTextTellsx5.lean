-- Written by a program of this session (wip/tools/myprint.sh)
import Derived.Test.YtjpgnkkfkkpheaaDoorPTextTellsx0
import Derived.Test.YtjpgnkkfkkpheaaDoorPTextTellsx2
import Derived.Test.YtjpgnkkfkkpheaaDoorPTextTellsx3
import Derived.Test.YtjpgnkkfkkpheaaDoorPTextTellsx4
namespace Go.Proofs.YtjpgnkkfkkpheaaDoor.PTextTells
open Go.RowKit Go.Proofs.YtjpgnkkfkkpheaaDoorW.PrintWords Go.Proofs.YtjpgnkkfkkpheaaDoorW.PrintLast Go.Proofs.YtjpgnkkfkkpheaaDoorW.PrintMore
attribute [local go_sem] max2_int min2_int max_two min_two max_three min_three max_four min_four   -- for this text's walks alone
set_option linter.unusedVariables false
set_option linter.unusedSimpArgs false

/-! ### parallaxlaw3_TextTells: function 3 -/
def parallaxlaw3_TextTells.l0 : Nat → ByteArray → ByteArray → List ByteArray → List ByteArray → Int → Int → Option (Bool)
  | 0, _, _, _, _, _, _ => none
  | k + 1, x0, x2, x3, x43, x44, x45 => if x45 < x44 then (if 0 ≤ x45 then (if x45 < (x43.length : Int) then ((text_Lower.f (rdOf ByteArray.empty x43 x45)).bind fun t199 => ((parallaxref1_Lower.f (rdOf ByteArray.empty x43 x45)).bind fun t200 => (if t199.toList = t200.toList then ((text_Same.f (rdOf ByteArray.empty x43 x45) x0).bind fun t201 => ((parallaxref1_Same.f (rdOf ByteArray.empty x43 x45) x0).bind fun t202 => (if (t201 != t202) = true then (some false) else ((text_Lower.f (rdOf ByteArray.empty x43 x45)).bind fun t203 => ((text_Same.f (rdOf ByteArray.empty x43 x45) t203).bind fun t204 => (if t204 = true then ((text_Trim.f (rdOf ByteArray.empty x43 x45)).bind fun t205 => ((parallaxref1_Trim.f k (rdOf ByteArray.empty x43 x45)).bind fun t206 => (if t205.toList = t206.toList then ((text_TrimOf.f (rdOf ByteArray.empty x43 x45) x2).bind fun t207 => ((parallaxref1_TrimOf.f k (rdOf ByteArray.empty x43 x45) x2).bind fun t208 => (if t207.toList = t208.toList then ((text_TrimOf.f (rdOf ByteArray.empty x43 x45) (⟨#[11, 12, 32, 9]⟩ : ByteArray)).bind fun t209 => ((parallaxref1_TrimOf.f k (rdOf ByteArray.empty x43 x45) (⟨#[11, 12, 32, 9]⟩ : ByteArray)).bind fun t210 => (if t209.toList = t210.toList then ((text_List.f k (([rdOf ByteArray.empty x43 x45] : List ByteArray))).bind fun t214 => ((parallaxref1_List.f k (([rdOf ByteArray.empty x43 x45] : List ByteArray))).bind fun t220 => ((parallaxref1_Strings.f k t214 t220).bind fun t223 => (if t223 = true then (parallaxlaw3_TextTells.l0 k x0 x2 x3 x43 x44 (wrap64 (x45 + 1))) else (some false))))) else (some false)))) else (some false)))) else (some false)))) else (some false))))))) else (some false)))) else (none)) else (none)) else ((text_List.f k x3).bind fun t224 => ((parallaxref1_List.f k x3).bind fun t227 => ((parallaxref1_Strings.f k t224 t227).bind fun t230 => (if t230 = true then ((some (([x0] : List ByteArray) : List ByteArray)).bind fun y231 => (if y231.length + x3.length < 8796093022208 then ((text_List.f k (y231 ++ x3)).bind fun t237 => ((some (([x0] : List ByteArray) : List ByteArray)).bind fun y240 => (if y240.length + x3.length < 8796093022208 then ((parallaxref1_List.f k (y240 ++ x3)).bind fun t246 => ((parallaxref1_Strings.f k t237 t246).bind fun t249 => (some t249))) else (none)))) else (none))) else (some false)))))
def parallaxlaw3_TextTells.f (k : Nat) (a0 : ByteArray) (a1 : ByteArray) (a2 : ByteArray) (l3 : List ByteArray) : Option (Bool) := (parallaxlaw3_known.f k).bind fun t193 => (if t193 = true then (if (a0.size : Int) > 80 then (some true) else (if (a1.size : Int) > 80 then (some true) else (if (a2.size : Int) > 20 then (some true) else ((parallaxhelp_Small.f k l3).bind fun t194 => (if t194 = true then (if 1 + a0.size ≤ 9223372036854775807 then (if ((⟨#[32]⟩ : ByteArray) ++ a0).size + 1 ≤ 9223372036854775807 then (if a0.size + 1 ≤ 9223372036854775807 then (if (a0 ++ (⟨#[44]⟩ : ByteArray)).size + a1.size ≤ 9223372036854775807 then (if ((⟨#[11]⟩ : ByteArray) ++ a0).size + 2 ≤ 9223372036854775807 then ((some (([a0, a1, ((⟨#[32]⟩ : ByteArray) ++ a0) ++ (⟨#[9]⟩ : ByteArray), (a0 ++ (⟨#[44]⟩ : ByteArray)) ++ a1, ((⟨#[11]⟩ : ByteArray) ++ a0) ++ (⟨#[12, 32]⟩ : ByteArray)] : List ByteArray) : List ByteArray)).bind fun y195 => (parallaxlaw3_TextTells.l0 k a0 a2 l3 y195 (y195.length : Int) 0)) else (none)) else (none)) else (none)) else (none)) else (none)) else (some true)))))) else (some false))
theorem parallaxlaw3_TextTells.mono_l : ∀ k, (∀ y0 y1 y2 y3 y4 y5, LeO (parallaxlaw3_TextTells.l0 k y0 y1 y2 y3 y4 y5) (parallaxlaw3_TextTells.l0 (k + 1) y0 y1 y2 y3 y4 y5))
  | 0 => fun _ _ _ _ _ _ r h => by simp [parallaxlaw3_TextTells.l0] at h
  | k + 1 => by
    have ih0 := parallaxlaw3_TextTells.mono_l k
    · intro y0 y1 y2 y3 y4 y5
      unfold parallaxlaw3_TextTells.l0
      repeat' first
      | (with_reducible exact ih0 _ _ _ _ _ _)
      | (with_reducible exact parallaxhelp_Small.mono _ _)
      | (with_reducible exact parallaxlaw3_known.mono _)
      | (with_reducible exact parallaxref1_List.mono _ _)
      | (with_reducible exact parallaxref1_Strings.mono _ _ _)
      | (with_reducible exact parallaxref1_Trim.mono _ _)
      | (with_reducible exact parallaxref1_TrimOf.mono _ _ _)
      | (with_reducible exact text_List.mono _ _)
      | (with_reducible exact LeO.refl _)
      | (with_reducible exact LeO.none _)
      | (with_reducible refine LeO.ite ?_ ?_)
      | (with_reducible refine LeO.bind ?_ (fun _ => ?_))
      | exact ih0 _ _ _ _ _ _
      | exact parallaxhelp_Small.mono _ _
      | exact parallaxlaw3_known.mono _
      | exact parallaxref1_List.mono _ _
      | exact parallaxref1_Strings.mono _ _ _
      | exact parallaxref1_Trim.mono _ _
      | exact parallaxref1_TrimOf.mono _ _ _
      | exact text_List.mono _ _
      | exact LeO.none _
      | refine LeO.ite ?_ ?_
      | refine LeO.bind ?_ (fun _ => ?_)
theorem parallaxlaw3_TextTells.mono : ∀ a0 a1 a2 a3 k, LeO (parallaxlaw3_TextTells.f k a0 a1 a2 a3) (parallaxlaw3_TextTells.f (k + 1) a0 a1 a2 a3) := by
  intro a0 a1 a2 a3 k
  have ih0 := parallaxlaw3_TextTells.mono_l k
  unfold parallaxlaw3_TextTells.f
  repeat' first
      | (with_reducible exact ih0 _ _ _ _ _ _)
      | (with_reducible exact parallaxhelp_Small.mono _ _)
      | (with_reducible exact parallaxlaw3_known.mono _)
      | (with_reducible exact parallaxref1_List.mono _ _)
      | (with_reducible exact parallaxref1_Strings.mono _ _ _)
      | (with_reducible exact parallaxref1_Trim.mono _ _)
      | (with_reducible exact parallaxref1_TrimOf.mono _ _ _)
      | (with_reducible exact text_List.mono _ _)
      | (with_reducible exact LeO.refl _)
      | (with_reducible exact LeO.none _)
      | (with_reducible refine LeO.ite ?_ ?_)
      | (with_reducible refine LeO.bind ?_ (fun _ => ?_))
      | exact ih0 _ _ _ _ _ _
      | exact parallaxhelp_Small.mono _ _
      | exact parallaxlaw3_known.mono _
      | exact parallaxref1_List.mono _ _
      | exact parallaxref1_Strings.mono _ _ _
      | exact parallaxref1_Trim.mono _ _
      | exact parallaxref1_TrimOf.mono _ _ _
      | exact text_List.mono _ _
      | exact LeO.none _
      | refine LeO.ite ?_ ?_
      | refine LeO.bind ?_ (fun _ => ?_)
set_option maxHeartbeats 8000000 in
set_option maxRecDepth 100000 in
theorem parallaxlaw3_TextTells.calls (k : Nat) (a0 : ByteArray) (a1 : ByteArray) (a2 : ByteArray) (A3 : Option Addr) (c3 : Nat) (l3 : List ByteArray) (r : Bool) (w : World) (hr3 : Kd.C Kd.string w A3 l3.length l3) (hc3 : l3.length ≤ c3) (hT : r = true) (h : parallaxlaw3_TextTells.f k a0 a1 a2 l3 = some r) :
    Calls Tryd.prog 3 #[.string a0, .string a1, .string a2, .slice A3 l3.length c3] w fun e w' => e = .returned (.bool r) ∧ Below w.heap.size w w' := by
  have HT := Aside0.mk hT
  clear hT
  have HR3 := Aside0.mk hr3
  have HC3 := Aside0.mk hc3
  clear hr3 hc3
  have HB := Aside0.mk (Below.refl w.heap.size w)
  have H : ((parallaxlaw3_known.f k).bind fun t193 => (if t193 = true then (if (a0.size : Int) > 80 then (some true) else (if (a1.size : Int) > 80 then (some true) else (if (a2.size : Int) > 20 then (some true) else ((parallaxhelp_Small.f k l3).bind fun t194 => (if t194 = true then (if 1 + a0.size ≤ 9223372036854775807 then (if ((⟨#[32]⟩ : ByteArray) ++ a0).size + 1 ≤ 9223372036854775807 then (if a0.size + 1 ≤ 9223372036854775807 then (if (a0 ++ (⟨#[44]⟩ : ByteArray)).size + a1.size ≤ 9223372036854775807 then (if ((⟨#[11]⟩ : ByteArray) ++ a0).size + 2 ≤ 9223372036854775807 then ((some (([a0, a1, ((⟨#[32]⟩ : ByteArray) ++ a0) ++ (⟨#[9]⟩ : ByteArray), (a0 ++ (⟨#[44]⟩ : ByteArray)) ++ a1, ((⟨#[11]⟩ : ByteArray) ++ a0) ++ (⟨#[12, 32]⟩ : ByteArray)] : List ByteArray) : List ByteArray)).bind fun y195 => (parallaxlaw3_TextTells.l0 k a0 a2 l3 y195 (y195.length : Int) 0)) else (none)) else (none)) else (none)) else (none)) else (none)) else (some true)))))) else (some false))) = some r := h
  clear h
  replace H := Option.bind_eq_some_iff.mp H
  obtain ⟨t193, A50, H⟩ := H
  (try dsimp only at H)
  have A5 := Aside0.mk A50
  clear A50
  by_cases c6 : t193 = true
  · subst c6
    rw [if_pos rfl] at H
    by_cases c7 : (a0.size : Int) > 80
    · rw [if_pos c7] at H
      have c7b0 : decide (80 < (a0.size : Int)) = true := decide_eq_true c7
      have c7b1 : decide (80 < a0.size) = true := decide_eq_true (by omega)
      clear c7
      obtain rfl := Option.some.inj H
      go_enter Tryd.func3, Tryd.ntmps3
      go_wp2_with (first | ((with_reducible refine gate_callee (f := 7) rfl ?_); refine goesL_ (some 11) rfl rfl Tryd.func7 (by kernel_rfl) rfl #[] rfl (by (try simp only [List.map_toArray, List.map_cons, List.map_nil]); first | done | rfl | (simp only [List.length_drop, List.length_take]; rfl)) ?_; (with_reducible refine (parallaxlaw3_known.calls k  true _ A5.out).mono ?_); rintro e w8 ⟨rfl, hb⟩; refine ⟨_, rfl, ?_⟩; have n0_ := Aside0.mk (below_step (by repeat (first | (with_reducible first | exact HB.out | apply below_alloc | apply pw_below_drewN | apply below_drew1) | exact HB.out)) hb); clear HB; have HB := n0_; clear n0_; (try clear hb); (try clear hb2); (try clear hk); (try clear hi)) | (go_at_call 7; (with_reducible refine (parallaxlaw3_known.calls k  true _ A5.out).mono ?_); rintro e w8 ⟨rfl, hb⟩; have n0_ := Aside0.mk (below_step (by repeat (first | (with_reducible first | exact HB.out | apply below_alloc | apply pw_below_drewN | apply below_drew1) | exact HB.out)) hb); clear HB; have HB := n0_; clear n0_; (try clear hb); (try clear hb2); (try clear hk); (try clear hi)))
      (try any_goals (exfalso; have h_ := ‹some undef = some (Value.bool _)›; revert h_; simp [undef]; done))
      go_ret
      exact ⟨by first | rfl | (simp [errW_none, errW_some] <;> rfl) | (simp [*, errW_none, errW_some] <;> rfl), by repeat (first | (with_reducible first | exact HB.out | apply below_alloc | apply pw_below_drewN | apply below_drew1) | exact HB.out)⟩
    · rw [if_neg c7] at H
      have c7b0 : decide (80 < (a0.size : Int)) = false := decide_eq_false c7
      have c7b1 : decide (80 < a0.size) = false := decide_eq_false (by omega)
      clear c7
      by_cases c9 : (a1.size : Int) > 80
      · rw [if_pos c9] at H
        have c9b0 : decide (80 < (a1.size : Int)) = true := decide_eq_true c9
        have c9b1 : decide (80 < a1.size) = true := decide_eq_true (by omega)
        clear c9
        obtain rfl := Option.some.inj H
        go_enter Tryd.func3, Tryd.ntmps3
        go_wp2_with (first | ((with_reducible refine gate_callee (f := 7) rfl ?_); refine goesL_ (some 11) rfl rfl Tryd.func7 (by kernel_rfl) rfl #[] rfl (by (try simp only [List.map_toArray, List.map_cons, List.map_nil]); first | done | rfl | (simp only [List.length_drop, List.length_take]; rfl)) ?_; (with_reducible refine (parallaxlaw3_known.calls k  true _ A5.out).mono ?_); rintro e w10 ⟨rfl, hb⟩; refine ⟨_, rfl, ?_⟩; have n0_ := Aside0.mk (below_step (by repeat (first | (with_reducible first | exact HB.out | apply below_alloc | apply pw_below_drewN | apply below_drew1) | exact HB.out)) hb); clear HB; have HB := n0_; clear n0_; (try clear hb); (try clear hb2); (try clear hk); (try clear hi)) | (go_at_call 7; (with_reducible refine (parallaxlaw3_known.calls k  true _ A5.out).mono ?_); rintro e w10 ⟨rfl, hb⟩; have n0_ := Aside0.mk (below_step (by repeat (first | (with_reducible first | exact HB.out | apply below_alloc | apply pw_below_drewN | apply below_drew1) | exact HB.out)) hb); clear HB; have HB := n0_; clear n0_; (try clear hb); (try clear hb2); (try clear hk); (try clear hi)))
        (try any_goals (exfalso; have h_ := ‹some undef = some (Value.bool _)›; revert h_; simp [undef]; done))
        go_ret
        exact ⟨by first | rfl | (simp [errW_none, errW_some] <;> rfl) | (simp [*, errW_none, errW_some] <;> rfl), by repeat (first | (with_reducible first | exact HB.out | apply below_alloc | apply pw_below_drewN | apply below_drew1) | exact HB.out)⟩
      · rw [if_neg c9] at H
        have c9b0 : decide (80 < (a1.size : Int)) = false := decide_eq_false c9
        have c9b1 : decide (80 < a1.size) = false := decide_eq_false (by omega)
        clear c9
        by_cases c11 : (a2.size : Int) > 20
        · rw [if_pos c11] at H
          have c11b0 : decide (20 < (a2.size : Int)) = true := decide_eq_true c11
          have c11b1 : decide (20 < a2.size) = true := decide_eq_true (by omega)
          clear c11
          obtain rfl := Option.some.inj H
          go_enter Tryd.func3, Tryd.ntmps3
          go_wp2_with (first | ((with_reducible refine gate_callee (f := 7) rfl ?_); refine goesL_ (some 11) rfl rfl Tryd.func7 (by kernel_rfl) rfl #[] rfl (by (try simp only [List.map_toArray, List.map_cons, List.map_nil]); first | done | rfl | (simp only [List.length_drop, List.length_take]; rfl)) ?_; (with_reducible refine (parallaxlaw3_known.calls k  true _ A5.out).mono ?_); rintro e w12 ⟨rfl, hb⟩; refine ⟨_, rfl, ?_⟩; have n0_ := Aside0.mk (below_step (by repeat (first | (with_reducible first | exact HB.out | apply below_alloc | apply pw_below_drewN | apply below_drew1) | exact HB.out)) hb); clear HB; have HB := n0_; clear n0_; (try clear hb); (try clear hb2); (try clear hk); (try clear hi)) | (go_at_call 7; (with_reducible refine (parallaxlaw3_known.calls k  true _ A5.out).mono ?_); rintro e w12 ⟨rfl, hb⟩; have n0_ := Aside0.mk (below_step (by repeat (first | (with_reducible first | exact HB.out | apply below_alloc | apply pw_below_drewN | apply below_drew1) | exact HB.out)) hb); clear HB; have HB := n0_; clear n0_; (try clear hb); (try clear hb2); (try clear hk); (try clear hi)))
          (try any_goals (exfalso; have h_ := ‹some undef = some (Value.bool _)›; revert h_; simp [undef]; done))
          go_ret
          exact ⟨by first | rfl | (simp [errW_none, errW_some] <;> rfl) | (simp [*, errW_none, errW_some] <;> rfl), by repeat (first | (with_reducible first | exact HB.out | apply below_alloc | apply pw_below_drewN | apply below_drew1) | exact HB.out)⟩
        · rw [if_neg c11] at H
          have c11b0 : decide (20 < (a2.size : Int)) = false := decide_eq_false c11
          have c11b1 : decide (20 < a2.size) = false := decide_eq_false (by omega)
          clear c11
          replace H := Option.bind_eq_some_iff.mp H
          obtain ⟨t194, A130, H⟩ := H
          (try dsimp only at H)
          have A13 := Aside0.mk A130
          clear A130
          by_cases c14 : t194 = true
          · subst c14
            rw [if_pos rfl] at H
            by_cases c15 : 1 + a0.size ≤ 9223372036854775807
            · rw [if_pos c15] at H
              have c15b0 := eq_true c15
              have c15b1 : decide (1 + a0.size ≤ 9223372036854775807) = true := decide_eq_true c15
              try have c15b2 : (9223372036854775807 < 1 + a0.size) = False := eq_false (Nat.not_lt.2 c15)
              by_cases c16 : ((⟨#[32]⟩ : ByteArray) ++ a0).size + 1 ≤ 9223372036854775807
              · rw [if_pos c16] at H
                have c16b0 := eq_true c16
                have c16b1 : decide (((⟨#[32]⟩ : ByteArray) ++ a0).size + 1 ≤ 9223372036854775807) = true := decide_eq_true c16
                try have c16b2 : (9223372036854775807 < ((⟨#[32]⟩ : ByteArray) ++ a0).size + 1) = False := eq_false (Nat.not_lt.2 c16)
                (try (have c16b3 : (9223372036854775807 < 1 + a0.size + 1) = False := eq_false (by have h_ := c16; simp only [ByteArray.size_append] at h_; exact Nat.not_lt.mpr h_)))
                (try (have c16b4 : decide (1 + a0.size + 1 ≤ 9223372036854775807) = true := decide_eq_true (by have h_ := c16; simp only [ByteArray.size_append] at h_; exact h_)))
                by_cases c17 : a0.size + 1 ≤ 9223372036854775807
                · rw [if_pos c17] at H
                  have c17b0 := eq_true c17
                  have c17b1 : decide (a0.size + 1 ≤ 9223372036854775807) = true := decide_eq_true c17
                  try have c17b2 : (9223372036854775807 < a0.size + 1) = False := eq_false (Nat.not_lt.2 c17)
                  by_cases c18 : (a0 ++ (⟨#[44]⟩ : ByteArray)).size + a1.size ≤ 9223372036854775807
                  · rw [if_pos c18] at H
                    have c18b0 := eq_true c18
                    have c18b1 : decide ((a0 ++ (⟨#[44]⟩ : ByteArray)).size + a1.size ≤ 9223372036854775807) = true := decide_eq_true c18
                    try have c18b2 : (9223372036854775807 < (a0 ++ (⟨#[44]⟩ : ByteArray)).size + a1.size) = False := eq_false (Nat.not_lt.2 c18)
                    (try (have c18b3 : (9223372036854775807 < a0.size + 1 + a1.size) = False := eq_false (by have h_ := c18; simp only [ByteArray.size_append] at h_; exact Nat.not_lt.mpr h_)))
                    (try (have c18b4 : decide (a0.size + 1 + a1.size ≤ 9223372036854775807) = true := decide_eq_true (by have h_ := c18; simp only [ByteArray.size_append] at h_; exact h_)))
                    by_cases c19 : ((⟨#[11]⟩ : ByteArray) ++ a0).size + 2 ≤ 9223372036854775807
                    · rw [if_pos c19] at H
                      have c19b0 := eq_true c19
                      have c19b1 : decide (((⟨#[11]⟩ : ByteArray) ++ a0).size + 2 ≤ 9223372036854775807) = true := decide_eq_true c19
                      try have c19b2 : (9223372036854775807 < ((⟨#[11]⟩ : ByteArray) ++ a0).size + 2) = False := eq_false (Nat.not_lt.2 c19)
                      (try (have c19b3 : (9223372036854775807 < 1 + a0.size + 2) = False := eq_false (by have h_ := c19; simp only [ByteArray.size_append] at h_; exact Nat.not_lt.mpr h_)))
                      (try (have c19b4 : decide (1 + a0.size + 2 ≤ 9223372036854775807) = true := decide_eq_true (by have h_ := c19; simp only [ByteArray.size_append] at h_; exact h_)))
                      obtain ⟨y195, hy195⟩ : ∃ y_ : List ByteArray, y_ = (([a0, a1, ((⟨#[32]⟩ : ByteArray) ++ a0) ++ (⟨#[9]⟩ : ByteArray), (a0 ++ (⟨#[44]⟩ : ByteArray)) ++ a1, ((⟨#[11]⟩ : ByteArray) ++ a0) ++ (⟨#[12, 32]⟩ : ByteArray)] : List ByteArray)) := ⟨_, rfl⟩
                      replace H : (parallaxlaw3_TextTells.l0 k a0 a2 l3 y195 (y195.length : Int) 0) = some r := by first | (rw [hy195]; with_reducible exact H) | (have H2_ := (Option.bind_some _ _).symm.trans H; rw [hy195]; with_reducible exact H2_) | (have H2_ := (Option.bind_some _ _).symm.trans H; with_reducible exact H2_) | with_reducible exact H | (rw [hy195]; exact H) | exact H
                      have Ny195 := Aside0.mk hy195
                      clear hy195
                      have H' := Aside0.mk H
                      clear H
                      go_enter Tryd.func3, Tryd.ntmps3
                      go_wp2_with (first | ((with_reducible refine gate_callee (f := 7) rfl ?_); refine goesL_ (some 11) rfl rfl Tryd.func7 (by kernel_rfl) rfl #[] rfl (by (try simp only [List.map_toArray, List.map_cons, List.map_nil]); first | done | rfl | (simp only [List.length_drop, List.length_take]; rfl)) ?_; (with_reducible refine (parallaxlaw3_known.calls k  true _ A5.out).mono ?_); rintro e w20 ⟨rfl, hb⟩; refine ⟨_, rfl, ?_⟩; have n0_ := Aside0.mk (below_step (by repeat (first | (with_reducible first | exact HB.out | apply below_alloc | apply pw_below_drewN | apply below_drew1) | exact HB.out)) hb); clear HB; have HB := n0_; clear n0_; (try clear hb); (try clear hb2); (try clear hk); (try clear hi)) | (go_at_call 8; (with_reducible refine (parallaxhelp_Small.calls k _ _ l3 true _ ?side1 ?side2 A13.out).mono ?_); (case side1 => repeat (first | exact (Kd.C_below HR3.out HB.out) | (with_reducible refine Kd.C_alloc ?_ _) | (with_reducible refine Kd.C_drewN ?_ _) | (with_reducible refine Kd.C_drew ?_))); (case side2 => exact HC3.out); rintro e w' ⟨rfl, ⟨nd, rfl⟩⟩) | ((with_reducible refine gate_dst (N := 43) rfl ?_); (try (refine gate_guard (by rfl) ?_; dsimp only)); refine Kd.R_lit Kd.string _ 9 ?hg (N := 43) ?hd (xs := ([a0, a1, ((⟨#[32]⟩ : ByteArray) ++ a0) ++ (⟨#[9]⟩ : ByteArray), (a0 ++ (⟨#[44]⟩ : ByteArray)) ++ a1, ((⟨#[11]⟩ : ByteArray) ++ a0) ++ (⟨#[12, 32]⟩ : ByteArray)] : List ByteArray)) (inner := [.string a0, .string a1, .string (((⟨#[32]⟩ : ByteArray) ++ a0) ++ (⟨#[9]⟩ : ByteArray)), .string ((a0 ++ (⟨#[44]⟩ : ByteArray)) ++ a1), .string (((⟨#[11]⟩ : ByteArray) ++ a0) ++ (⟨#[12, 32]⟩ : ByteArray))]) (ok := fun _ => True) (okp := fun _ => True) ?hr ?hp (fun _ hk => hk) trivial (Below.refl _ _) (Nat.le_refl _) (by simp) ?_; (case hd => rfl); (case hg => rfl); (case hr => first | (go_simp; done) | (go_simp; rfl)); (case hp => exact (Reps.one (show Kd.M Kd.string _ _ _ a0 [.string a0] from rfl) (Reps.one (show Kd.M Kd.string _ _ _ a1 [.string a1] from rfl) (Reps.one (show Kd.M Kd.string _ _ _ (((⟨#[32]⟩ : ByteArray) ++ a0) ++ (⟨#[9]⟩ : ByteArray)) [.string (((⟨#[32]⟩ : ByteArray) ++ a0) ++ (⟨#[9]⟩ : ByteArray))] from rfl) (Reps.one (show Kd.M Kd.string _ _ _ ((a0 ++ (⟨#[44]⟩ : ByteArray)) ++ a1) [.string ((a0 ++ (⟨#[44]⟩ : ByteArray)) ++ a1)] from rfl) (Reps.one (show Kd.M Kd.string _ _ _ (((⟨#[11]⟩ : ByteArray) ++ a0) ++ (⟨#[12, 32]⟩ : ByteArray)) [.string (((⟨#[11]⟩ : ByteArray) ++ a0) ++ (⟨#[12, 32]⟩ : ByteArray))] from rfl) (Reps.none _ _))))))); intro v196 w21 ho22 hb hg_ hnew_; clear hg_ hnew_; (first | rw [← Ny195.out] at ho22 | (simp only [Int.reduceToNat] at ho22; rw [← Ny195.out] at ho22)); have n0_ := Aside0.mk (Kd.R_lower ho22 (below_size (by repeat (first | (with_reducible first | exact HB.out | apply below_alloc | apply pw_below_drewN | apply below_drew1) | exact HB.out)))); have n1_ := Aside0.mk (below_step (by repeat (first | (with_reducible first | exact HB.out | apply below_alloc | apply pw_below_drewN | apply below_drew1) | exact HB.out)) hb); clear HB; have HO197 := n0_; have HB := n1_; clear n0_ n1_; clear hb ho22; obtain ⟨Ao23, co23, eo23⟩ := Kd.R_slice HO197.out; subst eo23) | (go_at_call 7; (with_reducible refine (parallaxlaw3_known.calls k  true _ A5.out).mono ?_); rintro e w20 ⟨rfl, hb⟩; have n0_ := Aside0.mk (below_step (by repeat (first | (with_reducible first | exact HB.out | apply below_alloc | apply pw_below_drewN | apply below_drew1) | exact HB.out)) hb); clear HB; have HB := n0_; clear n0_; (try clear hb); (try clear hb2); (try clear hk); (try clear hi)))
                      (try any_goals (exfalso; have h_ := ‹some undef = some (Value.bool _)›; revert h_; simp [undef]; done))
                      go_loopg [45] k (fun kq v45 w' => ∃ (x45_1 : Int), v45 = .int .i64 x45_1 ∧ Aside0 (parallaxlaw3_TextTells.l0 kq a0 a2 l3 y195 (y195.length : Int) x45_1 = some r) ∧ Aside0 (kq ≤ k) ∧ Aside0 (Kd.R Kd.string 9 w' w.heap.size (fun _ => True) (.slice Ao23 y195.length co23) y195) ∧ Aside0 (Below w.heap.size w w'))
                      case atStart => exact ⟨(0), (by first | rfl | (simp; done) | (simp [*]; done)), H', ⟨Nat.le_refl _⟩, ⟨by (with_reducible repeat (first | apply Kd.R_alloc | apply Kd.R_drewN | apply Kd.R_drew)); exact HO197.out⟩, ⟨by repeat (first | (with_reducible first | exact HB.out | apply below_alloc | apply pw_below_drewN | apply below_drew1) | exact HB.out)⟩⟩
                      case round =>
                        clear H'
                        try clear c1
                        try clear p2
                        try clear c3
                        try clear c6
                        try clear c7
                        try clear c7b0
                        try clear c7b1
                        try clear c9
                        try clear c9b0
                        try clear c9b1
                        try clear c11
                        try clear c11b0
                        try clear c11b1
                        try clear c14
                        try clear c15
                        try clear c15b0
                        try clear c15b1
                        try clear c15b2
                        try clear c16
                        try clear c16b0
                        try clear c16b1
                        try clear c16b2
                        try clear c17
                        try clear c17b0
                        try clear c17b1
                        try clear c17b2
                        try clear c18
                        try clear c18b0
                        try clear c18b1
                        try clear c18b2
                        try clear c19
                        try clear c19b0
                        try clear c19b1
                        try clear c19b2
                        obtain ⟨x45_1, rfl, HA, HK1, HO_43, HB⟩ := hrel
                        cases gk with
                        | zero => exact absurd HA.out (by simp [parallaxlaw3_TextTells.l0])
                        | succ k1 =>
                          have H := HA.out
                          clear HA
                          simp only [parallaxlaw3_TextTells.l0] at H
                          by_cases c24 : x45_1 < (y195.length : Int)
                          · rw [if_pos c24] at H
                            have c24b0 : decide (x45_1 < (y195.length : Int)) = true := decide_eq_true c24
                            clear c24
                            by_cases c25 : 0 ≤ x45_1
                            · rw [if_pos c25] at H
                              have c25b0 : decide (0 ≤ x45_1) = true := decide_eq_true c25
                              clear c25
                              by_cases c26 : x45_1 < (y195.length : Int)
                              · rw [if_pos c26] at H
                                have c26b0 : decide (x45_1 < (y195.length : Int)) = true := decide_eq_true c26
                                clear c26
                                replace H := Option.bind_eq_some_iff.mp H
                                obtain ⟨t199, A270, H⟩ := H
                                (try dsimp only at H)
                                have A27 := Aside0.mk A270
                                clear A270
                                replace H := Option.bind_eq_some_iff.mp H
                                obtain ⟨t200, A280, H⟩ := H
                                (try dsimp only at H)
                                have A28 := Aside0.mk A280
                                clear A280
                                by_cases c29 : t199.toList = t200.toList
                                · rw [if_pos c29] at H
                                  have c29b0 : (t199.toList == t200.toList) = true := beq_iff_eq.mpr c29
                                  have c29b1 : (t199.toList != t200.toList) = false := bne_eq_false_iff_eq.mpr c29
                                  clear c29
                                  replace H := Option.bind_eq_some_iff.mp H
                                  obtain ⟨t201, A300, H⟩ := H
                                  (try dsimp only at H)
                                  have A30 := Aside0.mk A300
                                  clear A300
                                  replace H := Option.bind_eq_some_iff.mp H
                                  obtain ⟨t202, A310, H⟩ := H
                                  (try dsimp only at H)
                                  have A31 := Aside0.mk A310
                                  clear A310
                                  by_cases c32 : (t201 != t202) = true
                                  · rw [if_pos c32] at H
                                    have c32b0 : (t201 != t202) = true := c32
                                    (try (have c32b1 : decide (t201 = t202) = false := by simpa using c32))
                                    (try (have c32b2 : (t201 == t202) = false := by simpa using c32))
                                    (try (have c32b3 : ¬ (t201 = t202) := by simpa using c32))
                                    clear c32
                                    exact absurd ((Option.some.inj H).trans HT.out) (by decide)
                                  · rw [if_neg c32] at H
                                    have c32b0 : (t201 != t202) = false := by simpa using c32
                                    (try (have c32b1 : decide (t201 = t202) = true := by simpa using c32))
                                    (try (have c32b2 : (t201 == t202) = true := by simpa using c32))
                                    clear c32
                                    replace H := Option.bind_eq_some_iff.mp H
                                    obtain ⟨t203, A330, H⟩ := H
                                    have E_ : t199 = t203 := Option.some.inj (A27.out.symm.trans A330)
                                    subst E_
                                    (try dsimp only at H)
                                    have A33 := Aside0.mk A330
                                    clear A330
                                    replace H := Option.bind_eq_some_iff.mp H
                                    obtain ⟨t204, A340, H⟩ := H
                                    (try dsimp only at H)
                                    have A34 := Aside0.mk A340
                                    clear A340
                                    by_cases c35 : t204 = true
                                    · subst c35
                                      rw [if_pos rfl] at H
                                      replace H := Option.bind_eq_some_iff.mp H
                                      obtain ⟨t205, A360, H⟩ := H
                                      (try dsimp only at H)
                                      have A36 := Aside0.mk A360
                                      clear A360
                                      replace H := Option.bind_eq_some_iff.mp H
                                      obtain ⟨t206, A370, H⟩ := H
                                      (try dsimp only at H)
                                      have A37 := Aside0.mk A370
                                      clear A370
                                      by_cases c38 : t205.toList = t206.toList
                                      · rw [if_pos c38] at H
                                        have c38b0 : (t205.toList == t206.toList) = true := beq_iff_eq.mpr c38
                                        have c38b1 : (t205.toList != t206.toList) = false := bne_eq_false_iff_eq.mpr c38
                                        clear c38
                                        replace H := Option.bind_eq_some_iff.mp H
                                        obtain ⟨t207, A390, H⟩ := H
                                        (try dsimp only at H)
                                        have A39 := Aside0.mk A390
                                        clear A390
                                        replace H := Option.bind_eq_some_iff.mp H
                                        obtain ⟨t208, A400, H⟩ := H
                                        (try dsimp only at H)
                                        have A40 := Aside0.mk A400
                                        clear A400
                                        by_cases c41 : t207.toList = t208.toList
                                        · rw [if_pos c41] at H
                                          have c41b0 : (t207.toList == t208.toList) = true := beq_iff_eq.mpr c41
                                          have c41b1 : (t207.toList != t208.toList) = false := bne_eq_false_iff_eq.mpr c41
                                          clear c41
                                          replace H := Option.bind_eq_some_iff.mp H
                                          obtain ⟨t209, A420, H⟩ := H
                                          (try dsimp only at H)
                                          have A42 := Aside0.mk A420
                                          clear A420
                                          replace H := Option.bind_eq_some_iff.mp H
                                          obtain ⟨t210, A430, H⟩ := H
                                          (try dsimp only at H)
                                          have A43 := Aside0.mk A430
                                          clear A430
                                          by_cases c44 : t209.toList = t210.toList
                                          · rw [if_pos c44] at H
                                            have c44b0 : (t209.toList == t210.toList) = true := beq_iff_eq.mpr c44
                                            have c44b1 : (t209.toList != t210.toList) = false := bne_eq_false_iff_eq.mpr c44
                                            clear c44
                                            obtain ⟨y211, hy211⟩ : ∃ y_ : List ByteArray, y_ = (([rdOf ByteArray.empty y195 x45_1] : List ByteArray)) := ⟨_, rfl⟩
                                            replace H : ((text_List.f k1 y211).bind fun t214 => ((parallaxref1_List.f k1 (([rdOf ByteArray.empty y195 x45_1] : List ByteArray))).bind fun t220 => ((parallaxref1_Strings.f k1 t214 t220).bind fun t223 => (if t223 = true then (parallaxlaw3_TextTells.l0 k1 a0 a2 l3 y195 (y195.length : Int) (wrap64 (x45_1 + 1))) else (some false))))) = some r := by first | (rw [hy211]; with_reducible exact H) | (have H2_ := (Option.bind_some _ _).symm.trans H; rw [hy211]; with_reducible exact H2_) | (have H2_ := (Option.bind_some _ _).symm.trans H; with_reducible exact H2_) | with_reducible exact H | (rw [hy211]; exact H) | exact H
                                            have Ny211 := Aside0.mk hy211
                                            clear hy211
                                            replace H := Option.bind_eq_some_iff.mp H
                                            obtain ⟨t214, A450, H⟩ := H
                                            (try dsimp only at H)
                                            have A45 := Aside0.mk A450
                                            clear A450
                                            obtain ⟨y217, hy217⟩ : ∃ y_ : List ByteArray, y_ = (([rdOf ByteArray.empty y195 x45_1] : List ByteArray)) := ⟨_, rfl⟩
                                            replace H : ((parallaxref1_List.f k1 y217).bind fun t220 => ((parallaxref1_Strings.f k1 t214 t220).bind fun t223 => (if t223 = true then (parallaxlaw3_TextTells.l0 k1 a0 a2 l3 y195 (y195.length : Int) (wrap64 (x45_1 + 1))) else (some false)))) = some r := by first | (rw [hy217]; with_reducible exact H) | (have H2_ := (Option.bind_some _ _).symm.trans H; rw [hy217]; with_reducible exact H2_) | (have H2_ := (Option.bind_some _ _).symm.trans H; with_reducible exact H2_) | with_reducible exact H | (rw [hy217]; exact H) | exact H
                                            have Ny217 := Aside0.mk hy217
                                            clear hy217
                                            replace H := Option.bind_eq_some_iff.mp H
                                            obtain ⟨t220, A460, H⟩ := H
                                            (try dsimp only at H)
                                            have A46 := Aside0.mk A460
                                            clear A460
                                            replace H := Option.bind_eq_some_iff.mp H
                                            obtain ⟨t223, A470, H⟩ := H
                                            (try dsimp only at H)
                                            have A47 := Aside0.mk A470
                                            clear A470
                                            by_cases c48 : t223 = true
                                            · subst c48
                                              rw [if_pos rfl] at H
                                              have H' := Aside0.mk H
                                              clear H
                                              have p198 : 0 ≤ (x45_1 : Int) := of_decide_eq_true (by first | (with_reducible assumption) | assumption)
                                              have q198 : x45_1 < (y195.length : Int) := of_decide_eq_true (by first | (with_reducible assumption) | assumption)
                                              obtain ⟨ad198, e198, hx198_0⟩ := Kd.at_string (Kd.R_reads' HO_43.out).2.2 x45_1 p198 q198
                                              cases e198
                                              replace p198 := eq_true p198
                                              replace q198 := eq_true q198
                                              go_wp2_with (first | ((with_reducible refine gate_callee (f := 9) rfl ?_); refine goesL_ (some 50) rfl rfl Tryd.func9 (by kernel_rfl) rfl #[.string (rdOf ByteArray.empty y195 x45_1)] rfl (by (try simp only [List.map_toArray, List.map_cons, List.map_nil]); first | done | rfl | (simp only [List.length_drop, List.length_take]; rfl)) ?_; (with_reducible refine (text_Lower.calls (rdOf ByteArray.empty y195 x45_1) t199 _ A27.out).mono ?_); rintro e w49 ⟨rfl, hb⟩; refine ⟨_, rfl, ?_⟩; have n0_ := Aside0.mk (Kd.R_below (by (with_reducible repeat (first | apply Kd.R_alloc | apply Kd.R_drewN | apply Kd.R_drew)); exact HO_43.out) hb); have n1_ := Aside0.mk (below_step (by repeat (first | (with_reducible first | exact HB.out | apply below_alloc | apply pw_below_drewN | apply below_drew1) | exact HB.out)) hb); clear HO_43; clear HB; have HO_43 := n0_; have HB := n1_; clear n0_ n1_; (try clear hb); (try clear hb2); (try clear hk); (try clear hi)) | ((with_reducible refine gate_callee (f := 10) rfl ?_); refine goesL_ (some 52) rfl rfl Tryd.func10 (by kernel_rfl) rfl #[.string (rdOf ByteArray.empty y195 x45_1)] rfl (by (try simp only [List.map_toArray, List.map_cons, List.map_nil]); first | done | rfl | (simp only [List.length_drop, List.length_take]; rfl)) ?_; (with_reducible refine (parallaxref1_Lower.calls (rdOf ByteArray.empty y195 x45_1) t200 _ A28.out).mono ?_); rintro e w50 ⟨rfl, hb⟩; refine ⟨_, rfl, ?_⟩; have n0_ := Aside0.mk (Kd.R_below (by (with_reducible repeat (first | apply Kd.R_alloc | apply Kd.R_drewN | apply Kd.R_drew)); exact HO_43.out) hb); have n1_ := Aside0.mk (below_step (by repeat (first | (with_reducible first | exact HB.out | apply below_alloc | apply pw_below_drewN | apply below_drew1) | exact HB.out)) hb); clear HO_43; clear HB; have HO_43 := n0_; have HB := n1_; clear n0_ n1_; (try clear hb); (try clear hb2); (try clear hk); (try clear hi)) | (go_at_call 11; (with_reducible refine (text_Same.calls (rdOf ByteArray.empty y195 x45_1) a0 t201 _ A30.out).mono ?_); rintro e w51 ⟨rfl, hb⟩; have n0_ := Aside0.mk (Kd.R_below (by (with_reducible repeat (first | apply Kd.R_alloc | apply Kd.R_drewN | apply Kd.R_drew)); exact HO_43.out) hb); have n1_ := Aside0.mk (below_step (by repeat (first | (with_reducible first | exact HB.out | apply below_alloc | apply pw_below_drewN | apply below_drew1) | exact HB.out)) hb); clear HO_43; clear HB; have HO_43 := n0_; have HB := n1_; clear n0_ n1_; (try clear hb); (try clear hb2); (try clear hk); (try clear hi)) | (go_at_call 12; (with_reducible refine (parallaxref1_Same.calls (rdOf ByteArray.empty y195 x45_1) a0 t202 _ A31.out).mono ?_); rintro e w52 ⟨rfl, hb⟩; have n0_ := Aside0.mk (Kd.R_below (by (with_reducible repeat (first | apply Kd.R_alloc | apply Kd.R_drewN | apply Kd.R_drew)); exact HO_43.out) hb); have n1_ := Aside0.mk (below_step (by repeat (first | (with_reducible first | exact HB.out | apply below_alloc | apply pw_below_drewN | apply below_drew1) | exact HB.out)) hb); clear HO_43; clear HB; have HO_43 := n0_; have HB := n1_; clear n0_ n1_; (try clear hb); (try clear hb2); (try clear hk); (try clear hi)) | (go_at_call 9; (with_reducible refine (text_Lower.calls (rdOf ByteArray.empty y195 x45_1) t199 _ A33.out).mono ?_); rintro e w53 ⟨rfl, hb⟩; have n0_ := Aside0.mk (Kd.R_below (by (with_reducible repeat (first | apply Kd.R_alloc | apply Kd.R_drewN | apply Kd.R_drew)); exact HO_43.out) hb); have n1_ := Aside0.mk (below_step (by repeat (first | (with_reducible first | exact HB.out | apply below_alloc | apply pw_below_drewN | apply below_drew1) | exact HB.out)) hb); clear HO_43; clear HB; have HO_43 := n0_; have HB := n1_; clear n0_ n1_; (try clear hb); (try clear hb2); (try clear hk); (try clear hi)) | (go_at_call 11; (with_reducible refine (text_Same.calls (rdOf ByteArray.empty y195 x45_1) t199 true _ A34.out).mono ?_); rintro e w54 ⟨rfl, hb⟩; have n0_ := Aside0.mk (Kd.R_below (by (with_reducible repeat (first | apply Kd.R_alloc | apply Kd.R_drewN | apply Kd.R_drew)); exact HO_43.out) hb); have n1_ := Aside0.mk (below_step (by repeat (first | (with_reducible first | exact HB.out | apply below_alloc | apply pw_below_drewN | apply below_drew1) | exact HB.out)) hb); clear HO_43; clear HB; have HO_43 := n0_; have HB := n1_; clear n0_ n1_; (try clear hb); (try clear hb2); (try clear hk); (try clear hi)) | (go_at_call 13; (with_reducible refine (text_Trim.calls (rdOf ByteArray.empty y195 x45_1) t205 _ A36.out).mono ?_); rintro e w' ⟨rfl, ⟨nd, rfl⟩⟩) | (go_at_call 14; (with_reducible refine (parallaxref1_Trim.calls k1 (rdOf ByteArray.empty y195 x45_1) t206 _ A37.out).mono ?_); rintro e w' ⟨rfl, ⟨nd, rfl⟩⟩) | (go_at_call 15; (with_reducible refine (text_TrimOf.calls (rdOf ByteArray.empty y195 x45_1) a2 t207 _ A39.out).mono ?_); rintro e w55 ⟨rfl, hb⟩; have n0_ := Aside0.mk (Kd.R_below (by (with_reducible repeat (first | apply Kd.R_alloc | apply Kd.R_drewN | apply Kd.R_drew)); exact HO_43.out) hb); have n1_ := Aside0.mk (below_step (by repeat (first | (with_reducible first | exact HB.out | apply below_alloc | apply pw_below_drewN | apply below_drew1) | exact HB.out)) hb); clear HO_43; clear HB; have HO_43 := n0_; have HB := n1_; clear n0_ n1_; (try clear hb); (try clear hb2); (try clear hk); (try clear hi)) | (go_at_call 16; (with_reducible refine (parallaxref1_TrimOf.calls k1 (rdOf ByteArray.empty y195 x45_1) a2 t208 _ A40.out).mono ?_); rintro e w' ⟨rfl, ⟨nd, rfl⟩⟩) | (go_at_call 15; (with_reducible refine (text_TrimOf.calls (rdOf ByteArray.empty y195 x45_1) (⟨#[11, 12, 32, 9]⟩ : ByteArray) t209 _ A42.out).mono ?_); rintro e w56 ⟨rfl, hb⟩; have n0_ := Aside0.mk (Kd.R_below (by (with_reducible repeat (first | apply Kd.R_alloc | apply Kd.R_drewN | apply Kd.R_drew)); exact HO_43.out) hb); have n1_ := Aside0.mk (below_step (by repeat (first | (with_reducible first | exact HB.out | apply below_alloc | apply pw_below_drewN | apply below_drew1) | exact HB.out)) hb); clear HO_43; clear HB; have HO_43 := n0_; have HB := n1_; clear n0_ n1_; (try clear hb); (try clear hb2); (try clear hk); (try clear hi)) | (go_at_call 16; (with_reducible refine (parallaxref1_TrimOf.calls k1 (rdOf ByteArray.empty y195 x45_1) (⟨#[11, 12, 32, 9]⟩ : ByteArray) t210 _ A43.out).mono ?_); rintro e w' ⟨rfl, ⟨nd, rfl⟩⟩) | ((with_reducible refine gate_dst (N := 95) rfl ?_); (try (refine gate_guard (by rfl) ?_; dsimp only)); refine Kd.R_lit Kd.string _ 9 ?hg (N := 95) ?hd (xs := ([rdOf ByteArray.empty y195 x45_1] : List ByteArray)) (inner := [.string (rdOf ByteArray.empty y195 x45_1)]) (ok := fun _ => True) (okp := fun _ => True) ?hr ?hp (fun _ hk => hk) trivial (Below.refl _ _) (Nat.le_refl _) (by simp) ?_; (case hd => rfl); (case hg => rfl); (case hr => first | (go_simp; done) | (go_simp; rfl)); (case hp => exact (Reps.one (show Kd.M Kd.string _ _ _ (rdOf ByteArray.empty y195 x45_1) [.string (rdOf ByteArray.empty y195 x45_1)] from rfl) (Reps.none _ _))); intro v212 w57 ho58 hb hg_ hnew_; clear hg_ hnew_; (first | rw [← Ny211.out] at ho58 | (simp only [Int.reduceToNat] at ho58; rw [← Ny211.out] at ho58)); have n0_ := Aside0.mk (Kd.R_elder' (by (with_reducible repeat (first | apply Kd.R_alloc | apply Kd.R_drewN | apply Kd.R_drew)); exact HO_43.out) (Kd.R_base ho58) hb); have n1_ := Aside0.mk (Kd.R_lower (Kd.R_new' ho58 (Kd.R_lt (by (with_reducible repeat (first | apply Kd.R_alloc | apply Kd.R_drewN | apply Kd.R_drew)); exact HO_43.out))) (below_size (by repeat (first | (with_reducible first | exact HB.out | apply below_alloc | apply pw_below_drewN | apply below_drew1) | exact HB.out)))); have n2_ := Aside0.mk (below_step (by repeat (first | (with_reducible first | exact HB.out | apply below_alloc | apply pw_below_drewN | apply below_drew1) | exact HB.out)) hb); clear HO_43; clear HB; have HO_43 := n0_; have HO213 := n1_; have HB := n2_; clear n0_ n1_ n2_; clear hb ho58; obtain ⟨Ao59, co59, eo59⟩ := Kd.R_slice HO213.out; subst eo59) | (go_at_call 18; (with_reducible refine (text_List.calls k1 _ _ y211 t214 _ ?side1 ?side2 A45.out).mono ?_); (case side1 => repeat (first | exact (Kd.R_reads' HO213.out).2.2 | (with_reducible refine Kd.C_alloc ?_ _) | (with_reducible refine Kd.C_drewN ?_ _) | (with_reducible refine Kd.C_drew ?_))); (case side2 => exact (Kd.R_reads' HO213.out).2.1); rintro e w60 ⟨v215, rfl, ho0, hb⟩; have n0_ := Aside0.mk (Kd.R_elder' (by (with_reducible repeat (first | apply Kd.R_alloc | apply Kd.R_drewN | apply Kd.R_drew)); exact HO_43.out) (Kd.R_base ho0) hb); have n1_ := Aside0.mk (Kd.R_elder' (by (with_reducible repeat (first | apply Kd.R_alloc | apply Kd.R_drewN | apply Kd.R_drew)); exact HO213.out) (Kd.R_base ho0) hb); have n2_ := Aside0.mk (Kd.R_lower (Kd.R_new' (Kd.R_new' ho0 (Kd.R_lt (by (with_reducible repeat (first | apply Kd.R_alloc | apply Kd.R_drewN | apply Kd.R_drew)); exact HO_43.out))) (Kd.R_lt (by (with_reducible repeat (first | apply Kd.R_alloc | apply Kd.R_drewN | apply Kd.R_drew)); exact HO213.out))) (below_size (by repeat (first | (with_reducible first | exact HB.out | apply below_alloc | apply pw_below_drewN | apply below_drew1) | exact HB.out)))); have n3_ := Aside0.mk (below_step (by repeat (first | (with_reducible first | exact HB.out | apply below_alloc | apply pw_below_drewN | apply below_drew1) | exact HB.out)) hb); clear HO_43; clear HO213; clear HB; have HO_43 := n0_; have HO213 := n1_; have HO216 := n2_; have HB := n3_; clear n0_ n1_ n2_ n3_; (try clear hb); (try clear hb2); (try clear hk); (try clear hi); (try clear ho0)) | ((with_reducible refine gate_dst (N := 98) rfl ?_); (try (refine gate_guard (by rfl) ?_; dsimp only)); refine Kd.R_lit Kd.string _ 9 ?hg (N := 98) ?hd (xs := ([rdOf ByteArray.empty y195 x45_1] : List ByteArray)) (inner := [.string (rdOf ByteArray.empty y195 x45_1)]) (ok := fun _ => True) (okp := fun _ => True) ?hr ?hp (fun _ hk => hk) trivial (Below.refl _ _) (Nat.le_refl _) (by simp) ?_; (case hd => rfl); (case hg => rfl); (case hr => first | (go_simp; done) | (go_simp; rfl)); (case hp => exact (Reps.one (show Kd.M Kd.string _ _ _ (rdOf ByteArray.empty y195 x45_1) [.string (rdOf ByteArray.empty y195 x45_1)] from rfl) (Reps.none _ _))); intro v218 w61 ho62 hb hg_ hnew_; clear hg_ hnew_; (first | rw [← Ny217.out] at ho62 | (simp only [Int.reduceToNat] at ho62; rw [← Ny217.out] at ho62)); have n0_ := Aside0.mk (Kd.R_elder' (by (with_reducible repeat (first | apply Kd.R_alloc | apply Kd.R_drewN | apply Kd.R_drew)); exact HO_43.out) (Kd.R_base ho62) hb); have n1_ := Aside0.mk (Kd.R_elder' (by (with_reducible repeat (first | apply Kd.R_alloc | apply Kd.R_drewN | apply Kd.R_drew)); exact HO213.out) (Kd.R_base ho62) hb); have n2_ := Aside0.mk (Kd.R_elder' (by (with_reducible repeat (first | apply Kd.R_alloc | apply Kd.R_drewN | apply Kd.R_drew)); exact HO216.out) (Kd.R_base ho62) hb); have n3_ := Aside0.mk (Kd.R_lower (Kd.R_new' (Kd.R_new' (Kd.R_new' ho62 (Kd.R_lt (by (with_reducible repeat (first | apply Kd.R_alloc | apply Kd.R_drewN | apply Kd.R_drew)); exact HO_43.out))) (Kd.R_lt (by (with_reducible repeat (first | apply Kd.R_alloc | apply Kd.R_drewN | apply Kd.R_drew)); exact HO213.out))) (Kd.R_lt (by (with_reducible repeat (first | apply Kd.R_alloc | apply Kd.R_drewN | apply Kd.R_drew)); exact HO216.out))) (below_size (by repeat (first | (with_reducible first | exact HB.out | apply below_alloc | apply pw_below_drewN | apply below_drew1) | exact HB.out)))); have n4_ := Aside0.mk (below_step (by repeat (first | (with_reducible first | exact HB.out | apply below_alloc | apply pw_below_drewN | apply below_drew1) | exact HB.out)) hb); clear HO_43; clear HO213; clear HO216; clear HB; have HO_43 := n0_; have HO213 := n1_; have HO216 := n2_; have HO219 := n3_; have HB := n4_; clear n0_ n1_ n2_ n3_ n4_; clear hb ho62; obtain ⟨Ao63, co63, eo63⟩ := Kd.R_slice HO219.out; subst eo63) | (go_at_call 19; (with_reducible refine (parallaxref1_List.calls k1 _ _ y217 t220 _ ?side1 ?side2 A46.out).mono ?_); (case side1 => repeat (first | exact (Kd.R_reads' HO219.out).2.2 | (with_reducible refine Kd.C_alloc ?_ _) | (with_reducible refine Kd.C_drewN ?_ _) | (with_reducible refine Kd.C_drew ?_))); (case side2 => exact (Kd.R_reads' HO219.out).2.1); rintro e w64 ⟨v221, rfl, ho0, hb⟩; have n0_ := Aside0.mk (Kd.R_elder' (by (with_reducible repeat (first | apply Kd.R_alloc | apply Kd.R_drewN | apply Kd.R_drew)); exact HO_43.out) (Kd.R_base ho0) hb); have n1_ := Aside0.mk (Kd.R_elder' (by (with_reducible repeat (first | apply Kd.R_alloc | apply Kd.R_drewN | apply Kd.R_drew)); exact HO213.out) (Kd.R_base ho0) hb); have n2_ := Aside0.mk (Kd.R_elder' (by (with_reducible repeat (first | apply Kd.R_alloc | apply Kd.R_drewN | apply Kd.R_drew)); exact HO216.out) (Kd.R_base ho0) hb); have n3_ := Aside0.mk (Kd.R_elder' (by (with_reducible repeat (first | apply Kd.R_alloc | apply Kd.R_drewN | apply Kd.R_drew)); exact HO219.out) (Kd.R_base ho0) hb); have n4_ := Aside0.mk (Kd.R_lower (Kd.R_new' (Kd.R_new' (Kd.R_new' (Kd.R_new' ho0 (Kd.R_lt (by (with_reducible repeat (first | apply Kd.R_alloc | apply Kd.R_drewN | apply Kd.R_drew)); exact HO_43.out))) (Kd.R_lt (by (with_reducible repeat (first | apply Kd.R_alloc | apply Kd.R_drewN | apply Kd.R_drew)); exact HO213.out))) (Kd.R_lt (by (with_reducible repeat (first | apply Kd.R_alloc | apply Kd.R_drewN | apply Kd.R_drew)); exact HO216.out))) (Kd.R_lt (by (with_reducible repeat (first | apply Kd.R_alloc | apply Kd.R_drewN | apply Kd.R_drew)); exact HO219.out))) (below_size (by repeat (first | (with_reducible first | exact HB.out | apply below_alloc | apply pw_below_drewN | apply below_drew1) | exact HB.out)))); have n5_ := Aside0.mk (below_step (by repeat (first | (with_reducible first | exact HB.out | apply below_alloc | apply pw_below_drewN | apply below_drew1) | exact HB.out)) hb); clear HO_43; clear HO213; clear HO216; clear HO219; clear HB; have HO_43 := n0_; have HO213 := n1_; have HO216 := n2_; have HO219 := n3_; have HO222 := n4_; have HB := n5_; clear n0_ n1_ n2_ n3_ n4_ n5_; (try clear hb); (try clear hb2); (try clear hk); (try clear hi); (try clear ho0); obtain ⟨Ao65, co65, eo65⟩ := Kd.R_slice HO216.out; subst eo65; obtain ⟨Ao66, co66, eo66⟩ := Kd.R_slice HO222.out; subst eo66) | (go_at_call 17; (with_reducible refine (parallaxref1_Strings.calls k1 _ _ t214 _ _ t220 true _ ?side1 ?side2 ?side3 ?side4 A47.out).mono ?_); (case side1 => repeat (first | exact (Kd.R_reads' HO216.out).2.2 | (with_reducible refine Kd.C_alloc ?_ _) | (with_reducible refine Kd.C_drewN ?_ _) | (with_reducible refine Kd.C_drew ?_))); (case side2 => exact (Kd.R_reads' HO216.out).2.1); (case side3 => repeat (first | exact (Kd.R_reads' HO222.out).2.2 | (with_reducible refine Kd.C_alloc ?_ _) | (with_reducible refine Kd.C_drewN ?_ _) | (with_reducible refine Kd.C_drew ?_))); (case side4 => exact (Kd.R_reads' HO222.out).2.1); rintro e w' ⟨rfl, ⟨nd, rfl⟩⟩) | (go_at_call 9; (with_reducible refine (text_Lower.calls (rdOf ByteArray.empty y195 x45_1) t199 _ A27.out).mono ?_); rintro e w49 ⟨rfl, hb⟩; have n0_ := Aside0.mk (Kd.R_below (by (with_reducible repeat (first | apply Kd.R_alloc | apply Kd.R_drewN | apply Kd.R_drew)); exact HO_43.out) hb); have n1_ := Aside0.mk (below_step (by repeat (first | (with_reducible first | exact HB.out | apply below_alloc | apply pw_below_drewN | apply below_drew1) | exact HB.out)) hb); clear HO_43; clear HB; have HO_43 := n0_; have HB := n1_; clear n0_ n1_; (try clear hb); (try clear hb2); (try clear hk); (try clear hi)) | (go_at_call 10; (with_reducible refine (parallaxref1_Lower.calls (rdOf ByteArray.empty y195 x45_1) t200 _ A28.out).mono ?_); rintro e w50 ⟨rfl, hb⟩; have n0_ := Aside0.mk (Kd.R_below (by (with_reducible repeat (first | apply Kd.R_alloc | apply Kd.R_drewN | apply Kd.R_drew)); exact HO_43.out) hb); have n1_ := Aside0.mk (below_step (by repeat (first | (with_reducible first | exact HB.out | apply below_alloc | apply pw_below_drewN | apply below_drew1) | exact HB.out)) hb); clear HO_43; clear HB; have HO_43 := n0_; have HB := n1_; clear n0_ n1_; (try clear hb); (try clear hb2); (try clear hk); (try clear hi)))
                                              (try any_goals (exfalso; have h_ := ‹some undef = some (Value.bool _)›; revert h_; simp [undef]; done))
                                              go_roundg k1
                                              case measure => have := HK1.out; omega
                                              case rel => exact ⟨(wrap64 (x45_1 + 1)), (by first | rfl | (simp; done) | (simp [*]; done)), H', ⟨by have := HK1.out; omega⟩, ⟨by (with_reducible repeat (first | apply Kd.R_alloc | apply Kd.R_drewN | apply Kd.R_drew)); exact Kd.R_mono HO_43.out (fun _ hk => trivial)⟩, ⟨by repeat (first | (with_reducible first | exact HB.out | apply below_alloc | apply pw_below_drewN | apply below_drew1) | exact HB.out)⟩⟩
                                            · replace c48 := Bool.eq_false_iff.mpr c48
                                              subst c48
                                              rw [if_neg (show ¬ (false = true) by decide)] at H
                                              exact absurd ((Option.some.inj H).trans HT.out) (by decide)
                                          · rw [if_neg c44] at H
                                            have c44b0 : (t209.toList == t210.toList) = false := beq_eq_false_iff_ne.mpr c44
                                            have c44b1 : (t209.toList != t210.toList) = true := bne_iff_ne.mpr c44
                                            exact absurd ((Option.some.inj H).trans HT.out) (by decide)
                                        · rw [if_neg c41] at H
                                          have c41b0 : (t207.toList == t208.toList) = false := beq_eq_false_iff_ne.mpr c41
                                          have c41b1 : (t207.toList != t208.toList) = true := bne_iff_ne.mpr c41
                                          exact absurd ((Option.some.inj H).trans HT.out) (by decide)
                                      · rw [if_neg c38] at H
                                        have c38b0 : (t205.toList == t206.toList) = false := beq_eq_false_iff_ne.mpr c38
                                        have c38b1 : (t205.toList != t206.toList) = true := bne_iff_ne.mpr c38
                                        exact absurd ((Option.some.inj H).trans HT.out) (by decide)
                                    · replace c35 := Bool.eq_false_iff.mpr c35
                                      subst c35
                                      rw [if_neg (show ¬ (false = true) by decide)] at H
                                      exact absurd ((Option.some.inj H).trans HT.out) (by decide)
                                · rw [if_neg c29] at H
                                  have c29b0 : (t199.toList == t200.toList) = false := beq_eq_false_iff_ne.mpr c29
                                  have c29b1 : (t199.toList != t200.toList) = true := bne_iff_ne.mpr c29
                                  exact absurd ((Option.some.inj H).trans HT.out) (by decide)
                              · rw [if_neg c26] at H
                                exact absurd H (by simp)
                            · rw [if_neg c25] at H
                              exact absurd H (by simp)
                          · rw [if_neg c24] at H
                            have c24b0 : decide (x45_1 < (y195.length : Int)) = false := decide_eq_false c24
                            clear c24
                            replace H := Option.bind_eq_some_iff.mp H
                            obtain ⟨t224, A670, H⟩ := H
                            (try dsimp only at H)
                            have A67 := Aside0.mk A670
                            clear A670
                            replace H := Option.bind_eq_some_iff.mp H
                            obtain ⟨t227, A680, H⟩ := H
                            (try dsimp only at H)
                            have A68 := Aside0.mk A680
                            clear A680
                            replace H := Option.bind_eq_some_iff.mp H
                            obtain ⟨t230, A690, H⟩ := H
                            (try dsimp only at H)
                            have A69 := Aside0.mk A690
                            clear A690
                            by_cases c70 : t230 = true
                            · subst c70
                              rw [if_pos rfl] at H
                              obtain ⟨y231, hy231⟩ : ∃ y_ : List ByteArray, y_ = (([a0] : List ByteArray)) := ⟨_, rfl⟩
                              replace H : (if y231.length + l3.length < 8796093022208 then ((text_List.f k1 (y231 ++ l3)).bind fun t237 => ((some (([a0] : List ByteArray) : List ByteArray)).bind fun y240 => (if y240.length + l3.length < 8796093022208 then ((parallaxref1_List.f k1 (y240 ++ l3)).bind fun t246 => ((parallaxref1_Strings.f k1 t237 t246).bind fun t249 => (some t249))) else (none)))) else (none)) = some r := by first | (rw [hy231]; with_reducible exact H) | (have H2_ := (Option.bind_some _ _).symm.trans H; rw [hy231]; with_reducible exact H2_) | (have H2_ := (Option.bind_some _ _).symm.trans H; with_reducible exact H2_) | with_reducible exact H | (rw [hy231]; exact H) | exact H
                              have Ny231 := Aside0.mk hy231
                              clear hy231
                              by_cases c71 : y231.length + l3.length < 8796093022208
                              · rw [if_pos c71] at H
                                have LMc71 := Aside0.mk c71
                                clear c71
                                obtain ⟨y234, hy234⟩ : ∃ y_ : List ByteArray, y_ = (y231 ++ l3) := ⟨_, rfl⟩
                                replace H : ((text_List.f k1 y234).bind fun t237 => ((some (([a0] : List ByteArray) : List ByteArray)).bind fun y240 => (if y240.length + l3.length < 8796093022208 then ((parallaxref1_List.f k1 (y240 ++ l3)).bind fun t246 => ((parallaxref1_Strings.f k1 t237 t246).bind fun t249 => (some t249))) else (none)))) = some r := by first | (rw [hy234]; with_reducible exact H) | (have H2_ := (Option.bind_some _ _).symm.trans H; rw [hy234]; with_reducible exact H2_) | (have H2_ := (Option.bind_some _ _).symm.trans H; with_reducible exact H2_) | with_reducible exact H | (rw [hy234]; exact H) | exact H
                                have Ny234 := Aside0.mk hy234
                                clear hy234
                                replace H := Option.bind_eq_some_iff.mp H
                                obtain ⟨t237, A720, H⟩ := H
                                (try dsimp only at H)
                                have A72 := Aside0.mk A720
                                clear A720
                                obtain ⟨y240, hy240⟩ : ∃ y_ : List ByteArray, y_ = (([a0] : List ByteArray)) := ⟨_, rfl⟩
                                replace H : (if y240.length + l3.length < 8796093022208 then ((parallaxref1_List.f k1 (y240 ++ l3)).bind fun t246 => ((parallaxref1_Strings.f k1 t237 t246).bind fun t249 => (some t249))) else (none)) = some r := by first | (rw [hy240]; with_reducible exact H) | (have H2_ := (Option.bind_some _ _).symm.trans H; rw [hy240]; with_reducible exact H2_) | (have H2_ := (Option.bind_some _ _).symm.trans H; with_reducible exact H2_) | with_reducible exact H | (rw [hy240]; exact H) | exact H
                                have Ny240 := Aside0.mk hy240
                                clear hy240
                                by_cases c73 : y240.length + l3.length < 8796093022208
                                · rw [if_pos c73] at H
                                  have LMc73 := Aside0.mk c73
                                  clear c73
                                  obtain ⟨y243, hy243⟩ : ∃ y_ : List ByteArray, y_ = (y240 ++ l3) := ⟨_, rfl⟩
                                  replace H : ((parallaxref1_List.f k1 y243).bind fun t246 => ((parallaxref1_Strings.f k1 t237 t246).bind fun t249 => (some t249))) = some r := by first | (rw [hy243]; with_reducible exact H) | (have H2_ := (Option.bind_some _ _).symm.trans H; rw [hy243]; with_reducible exact H2_) | (have H2_ := (Option.bind_some _ _).symm.trans H; with_reducible exact H2_) | with_reducible exact H | (rw [hy243]; exact H) | exact H
                                  have Ny243 := Aside0.mk hy243
                                  clear hy243
                                  replace H := Option.bind_eq_some_iff.mp H
                                  obtain ⟨t246, A740, H⟩ := H
                                  (try dsimp only at H)
                                  have A74 := Aside0.mk A740
                                  clear A740
                                  replace H := Option.bind_eq_some_iff.mp H
                                  obtain ⟨t249, A750, H⟩ := H
                                  (try dsimp only at H)
                                  have A75 := Aside0.mk A750
                                  clear A750
                                  obtain rfl := Option.some.inj H
                                  go_wp2_with (first | ((with_reducible refine gate_callee (f := 18) rfl ?_); refine goesL_ (some 105) rfl rfl Tryd.func18 (by kernel_rfl) rfl #[.slice A3 l3.length c3] rfl (by (try simp only [List.map_toArray, List.map_cons, List.map_nil]); first | done | rfl | (simp only [List.length_drop, List.length_take]; rfl)) ?_; (with_reducible refine (text_List.calls k1 _ _ l3 t224 _ ?side1 ?side2 A67.out).mono ?_); (case side1 => repeat (first | exact (Kd.C_below HR3.out HB.out) | (with_reducible refine Kd.C_alloc ?_ _) | (with_reducible refine Kd.C_drewN ?_ _) | (with_reducible refine Kd.C_drew ?_))); (case side2 => exact HC3.out); rintro e w76 ⟨v225, rfl, ho0, hb⟩; refine ⟨_, rfl, ?_⟩; have n0_ := Aside0.mk (Kd.R_elder' (by (with_reducible repeat (first | apply Kd.R_alloc | apply Kd.R_drewN | apply Kd.R_drew)); exact HO_43.out) (Kd.R_base ho0) hb); have n1_ := Aside0.mk (Kd.R_lower (Kd.R_new' ho0 (Kd.R_lt (by (with_reducible repeat (first | apply Kd.R_alloc | apply Kd.R_drewN | apply Kd.R_drew)); exact HO_43.out))) (below_size (by repeat (first | (with_reducible first | exact HB.out | apply below_alloc | apply pw_below_drewN | apply below_drew1) | exact HB.out)))); have n2_ := Aside0.mk (below_step (by repeat (first | (with_reducible first | exact HB.out | apply below_alloc | apply pw_below_drewN | apply below_drew1) | exact HB.out)) hb); clear HO_43; clear HB; have HO_43 := n0_; have HO226 := n1_; have HB := n2_; clear n0_ n1_ n2_; (try clear hb); (try clear hb2); (try clear hk); (try clear hi); (try clear ho0)) | ((with_reducible refine gate_callee (f := 19) rfl ?_); refine goesL_ (some 107) rfl rfl Tryd.func19 (by kernel_rfl) rfl #[.slice A3 l3.length c3] rfl (by (try simp only [List.map_toArray, List.map_cons, List.map_nil]); first | done | rfl | (simp only [List.length_drop, List.length_take]; rfl)) ?_; (with_reducible refine (parallaxref1_List.calls k1 _ _ l3 t227 _ ?side1 ?side2 A68.out).mono ?_); (case side1 => repeat (first | exact (Kd.C_below HR3.out HB.out) | (with_reducible refine Kd.C_alloc ?_ _) | (with_reducible refine Kd.C_drewN ?_ _) | (with_reducible refine Kd.C_drew ?_))); (case side2 => exact HC3.out); rintro e w77 ⟨v228, rfl, ho0, hb⟩; refine ⟨_, rfl, ?_⟩; have n0_ := Aside0.mk (Kd.R_elder' (by (with_reducible repeat (first | apply Kd.R_alloc | apply Kd.R_drewN | apply Kd.R_drew)); exact HO_43.out) (Kd.R_base ho0) hb); have n1_ := Aside0.mk (Kd.R_elder' (by (with_reducible repeat (first | apply Kd.R_alloc | apply Kd.R_drewN | apply Kd.R_drew)); exact HO226.out) (Kd.R_base ho0) hb); have n2_ := Aside0.mk (Kd.R_lower (Kd.R_new' (Kd.R_new' ho0 (Kd.R_lt (by (with_reducible repeat (first | apply Kd.R_alloc | apply Kd.R_drewN | apply Kd.R_drew)); exact HO_43.out))) (Kd.R_lt (by (with_reducible repeat (first | apply Kd.R_alloc | apply Kd.R_drewN | apply Kd.R_drew)); exact HO226.out))) (below_size (by repeat (first | (with_reducible first | exact HB.out | apply below_alloc | apply pw_below_drewN | apply below_drew1) | exact HB.out)))); have n3_ := Aside0.mk (below_step (by repeat (first | (with_reducible first | exact HB.out | apply below_alloc | apply pw_below_drewN | apply below_drew1) | exact HB.out)) hb); clear HO_43; clear HO226; clear HB; have HO_43 := n0_; have HO226 := n1_; have HO229 := n2_; have HB := n3_; clear n0_ n1_ n2_ n3_; (try clear hb); (try clear hb2); (try clear hk); (try clear hi); (try clear ho0); obtain ⟨Ao78, co78, eo78⟩ := Kd.R_slice HO226.out; subst eo78; obtain ⟨Ao79, co79, eo79⟩ := Kd.R_slice HO229.out; subst eo79) | ((with_reducible refine gate_callee (f := 17) rfl ?_); refine goesL_ (some 108) rfl rfl Tryd.func17 (by kernel_rfl) rfl #[.slice Ao78 t224.length co78, .slice Ao79 t227.length co79] rfl (by (try simp only [List.map_toArray, List.map_cons, List.map_nil]); first | done | rfl | (simp only [List.length_drop, List.length_take]; rfl)) ?_; (with_reducible refine (parallaxref1_Strings.calls k1 _ _ t224 _ _ t227 true _ ?side1 ?side2 ?side3 ?side4 A69.out).mono ?_); (case side1 => repeat (first | exact (Kd.R_reads' HO226.out).2.2 | (with_reducible refine Kd.C_alloc ?_ _) | (with_reducible refine Kd.C_drewN ?_ _) | (with_reducible refine Kd.C_drew ?_))); (case side2 => exact (Kd.R_reads' HO226.out).2.1); (case side3 => repeat (first | exact (Kd.R_reads' HO229.out).2.2 | (with_reducible refine Kd.C_alloc ?_ _) | (with_reducible refine Kd.C_drewN ?_ _) | (with_reducible refine Kd.C_drew ?_))); (case side4 => exact (Kd.R_reads' HO229.out).2.1); rintro e w' ⟨rfl, ⟨nd, rfl⟩⟩; refine ⟨_, rfl, ?_⟩) | ((with_reducible refine gate_dst (N := 111) rfl ?_); (try (refine gate_guard (by rfl) ?_; dsimp only)); refine Kd.R_lit Kd.string _ 9 ?hg (N := 111) ?hd (xs := ([a0] : List ByteArray)) (inner := [.string a0]) (ok := fun _ => True) (okp := fun _ => True) ?hr ?hp (fun _ hk => hk) trivial (Below.refl _ _) (Nat.le_refl _) (by simp) ?_; (case hd => rfl); (case hg => rfl); (case hr => first | (go_simp; done) | (go_simp; rfl)); (case hp => exact (Reps.one (show Kd.M Kd.string _ _ _ a0 [.string a0] from rfl) (Reps.none _ _))); intro v232 w80 ho81 hb hg_ hnew_; clear hg_ hnew_; (first | rw [← Ny231.out] at ho81 | (simp only [Int.reduceToNat] at ho81; rw [← Ny231.out] at ho81)); have n0_ := Aside0.mk (Kd.R_elder' (by (with_reducible repeat (first | apply Kd.R_alloc | apply Kd.R_drewN | apply Kd.R_drew)); exact HO_43.out) (Kd.R_base ho81) hb); have n1_ := Aside0.mk (Kd.R_elder' (by (with_reducible repeat (first | apply Kd.R_alloc | apply Kd.R_drewN | apply Kd.R_drew)); exact HO226.out) (Kd.R_base ho81) hb); have n2_ := Aside0.mk (Kd.R_elder' (by (with_reducible repeat (first | apply Kd.R_alloc | apply Kd.R_drewN | apply Kd.R_drew)); exact HO229.out) (Kd.R_base ho81) hb); have n3_ := Aside0.mk (Kd.R_lower (Kd.R_new' (Kd.R_new' (Kd.R_new' ho81 (Kd.R_lt (by (with_reducible repeat (first | apply Kd.R_alloc | apply Kd.R_drewN | apply Kd.R_drew)); exact HO_43.out))) (Kd.R_lt (by (with_reducible repeat (first | apply Kd.R_alloc | apply Kd.R_drewN | apply Kd.R_drew)); exact HO226.out))) (Kd.R_lt (by (with_reducible repeat (first | apply Kd.R_alloc | apply Kd.R_drewN | apply Kd.R_drew)); exact HO229.out))) (below_size (by repeat (first | (with_reducible first | exact HB.out | apply below_alloc | apply pw_below_drewN | apply below_drew1) | exact HB.out)))); have n4_ := Aside0.mk (below_step (by repeat (first | (with_reducible first | exact HB.out | apply below_alloc | apply pw_below_drewN | apply below_drew1) | exact HB.out)) hb); clear HO_43; clear HO226; clear HO229; clear HB; have HO_43 := n0_; have HO226 := n1_; have HO229 := n2_; have HO233 := n3_; have HB := n4_; clear n0_ n1_ n2_ n3_ n4_; clear hb ho81) | ((with_reducible refine gate_builtin (b := .append) (xs := #[.tmp 111, .tmp 112]) rfl ?_); (try (refine gate_guard (by rfl) ?_; dsimp only)); at_builtin; refine Kd.R_append_rows Kd.string (w0 := w) w.heap.size rfl (.tmp 111) (.tmp 112) 22 9 (.string ⟨#[]⟩) 16 rfl Tryd.underlying22 info9 rfl (by decide) (by omega) v232 y231 l3 _ _ _ (fun k_ => some k_ ≠ (.slice Ao23 y195.length co23 : Value).ownBlock ∧ some k_ ≠ (.slice Ao78 t224.length co78 : Value).ownBlock ∧ some k_ ≠ (.slice Ao79 t227.length co79 : Value).ownBlock) (fun _ => False) rfl rfl ?aO ?aR (fun _ _ h => h) (fun _ h => h.elim) ?aF ?aB ?aS ?aL ?_; (case aR => repeat (first | exact (Kd.C_below HR3.out HB.out) | (with_reducible refine Kd.C_alloc ?_ _) | (with_reducible refine Kd.C_drewN ?_ _) | (with_reducible refine Kd.C_drew ?_))); (case aB => exact (by repeat (first | (with_reducible first | exact HB.out | apply below_alloc | apply pw_below_drewN | apply below_drew1) | exact HB.out))); (case aF => exact (fun k_ hk => ⟨Kd.fresh' (Kd.R_lt (by (with_reducible repeat (first | apply Kd.R_alloc | apply Kd.R_drewN | apply Kd.R_drew)); exact HO_43.out)) k_ hk, Kd.fresh' (Kd.R_lt (by (with_reducible repeat (first | apply Kd.R_alloc | apply Kd.R_drewN | apply Kd.R_drew)); exact HO226.out)) k_ hk, Kd.fresh' (Kd.R_lt (by (with_reducible repeat (first | apply Kd.R_alloc | apply Kd.R_drewN | apply Kd.R_drew)); exact HO229.out)) k_ hk⟩)); (case aO => exact (by (with_reducible repeat (first | apply Kd.R_alloc | apply Kd.R_drewN | apply Kd.R_drew)); exact Kd.R_mono HO233.out (fun _ hk => ⟨hk.1.1.2, ⟨hk.1.2, hk.2⟩⟩))); (case aS => exact (below_size (by repeat (first | (with_reducible first | exact HB.out | apply below_alloc | apply pw_below_drewN | apply below_drew1) | exact HB.out)))); (case aL => have := LMc71.out; omega); intro v235 w82 ho hb hg hat; rw [← Ny234.out] at ho; have n0_ := Aside0.mk (Kd.R_after (ok := (fun k_ => some k_ ≠ (.slice Ao78 t224.length co78 : Value).ownBlock ∧ some k_ ≠ (.slice Ao79 t227.length co79 : Value).ownBlock)) (by (with_reducible repeat (first | apply Kd.R_alloc | apply Kd.R_drewN | apply Kd.R_drew)); exact Kd.R_mono HO_43.out (fun _ hk => ⟨⟨hk.1.1.2, hk.1.2⟩, hk.2⟩)) hg hat); have n1_ := Aside0.mk (Kd.R_after (ok := (fun k_ => some k_ ≠ (.slice Ao23 y195.length co23 : Value).ownBlock ∧ some k_ ≠ (.slice Ao79 t227.length co79 : Value).ownBlock)) (by (with_reducible repeat (first | apply Kd.R_alloc | apply Kd.R_drewN | apply Kd.R_drew)); exact Kd.R_mono HO226.out (fun _ hk => ⟨⟨hk.1.1.2, hk.1.2⟩, hk.2⟩)) hg hat); have n2_ := Aside0.mk (Kd.R_after (ok := (fun k_ => some k_ ≠ (.slice Ao23 y195.length co23 : Value).ownBlock ∧ some k_ ≠ (.slice Ao78 t224.length co78 : Value).ownBlock)) (by (with_reducible repeat (first | apply Kd.R_alloc | apply Kd.R_drewN | apply Kd.R_drew)); exact Kd.R_mono HO229.out (fun _ hk => ⟨⟨hk.1.1.2, hk.1.2⟩, hk.2⟩)) hg hat); have n3_ := Aside0.mk (hb); have n4_ := Aside0.mk (ho); clear HO_43; clear HO226; clear HO229; clear HB; clear HO233; have HO_43 := n0_; have HO226 := n1_; have HO229 := n2_; have HB := n3_; have HO236 := n4_; clear n0_ n1_ n2_ n3_ n4_; clear ho hb hg hat; obtain ⟨Ao83, co83, eo83⟩ := Kd.R_slice HO236.out; subst eo83) | (go_at_call 18; (with_reducible refine (text_List.calls k1 _ _ y234 t237 _ ?side1 ?side2 A72.out).mono ?_); (case side1 => repeat (first | exact (Kd.R_reads' HO236.out).2.2 | (with_reducible refine Kd.C_alloc ?_ _) | (with_reducible refine Kd.C_drewN ?_ _) | (with_reducible refine Kd.C_drew ?_))); (case side2 => exact (Kd.R_reads' HO236.out).2.1); rintro e w84 ⟨v238, rfl, ho0, hb⟩; have n0_ := Aside0.mk (Kd.R_elder' (by (with_reducible repeat (first | apply Kd.R_alloc | apply Kd.R_drewN | apply Kd.R_drew)); exact HO_43.out) (Kd.R_base ho0) hb); have n1_ := Aside0.mk (Kd.R_elder' (by (with_reducible repeat (first | apply Kd.R_alloc | apply Kd.R_drewN | apply Kd.R_drew)); exact HO226.out) (Kd.R_base ho0) hb); have n2_ := Aside0.mk (Kd.R_elder' (by (with_reducible repeat (first | apply Kd.R_alloc | apply Kd.R_drewN | apply Kd.R_drew)); exact HO229.out) (Kd.R_base ho0) hb); have n3_ := Aside0.mk (Kd.R_elder' (by (with_reducible repeat (first | apply Kd.R_alloc | apply Kd.R_drewN | apply Kd.R_drew)); exact HO236.out) (Kd.R_base ho0) hb); have n4_ := Aside0.mk (Kd.R_lower (Kd.R_new' (Kd.R_new' (Kd.R_new' (Kd.R_new' ho0 (Kd.R_lt (by (with_reducible repeat (first | apply Kd.R_alloc | apply Kd.R_drewN | apply Kd.R_drew)); exact HO_43.out))) (Kd.R_lt (by (with_reducible repeat (first | apply Kd.R_alloc | apply Kd.R_drewN | apply Kd.R_drew)); exact HO226.out))) (Kd.R_lt (by (with_reducible repeat (first | apply Kd.R_alloc | apply Kd.R_drewN | apply Kd.R_drew)); exact HO229.out))) (Kd.R_lt (by (with_reducible repeat (first | apply Kd.R_alloc | apply Kd.R_drewN | apply Kd.R_drew)); exact HO236.out))) (below_size (by repeat (first | (with_reducible first | exact HB.out | apply below_alloc | apply pw_below_drewN | apply below_drew1) | exact HB.out)))); have n5_ := Aside0.mk (below_step (by repeat (first | (with_reducible first | exact HB.out | apply below_alloc | apply pw_below_drewN | apply below_drew1) | exact HB.out)) hb); clear HO_43; clear HO226; clear HO229; clear HO236; clear HB; have HO_43 := n0_; have HO226 := n1_; have HO229 := n2_; have HO236 := n3_; have HO239 := n4_; have HB := n5_; clear n0_ n1_ n2_ n3_ n4_ n5_; (try clear hb); (try clear hb2); (try clear hk); (try clear hi); (try clear ho0)) | ((with_reducible refine gate_dst (N := 116) rfl ?_); (try (refine gate_guard (by rfl) ?_; dsimp only)); refine Kd.R_lit Kd.string _ 9 ?hg (N := 116) ?hd (xs := ([a0] : List ByteArray)) (inner := [.string a0]) (ok := fun _ => True) (okp := fun _ => True) ?hr ?hp (fun _ hk => hk) trivial (Below.refl _ _) (Nat.le_refl _) (by simp) ?_; (case hd => rfl); (case hg => rfl); (case hr => first | (go_simp; done) | (go_simp; rfl)); (case hp => exact (Reps.one (show Kd.M Kd.string _ _ _ a0 [.string a0] from rfl) (Reps.none _ _))); intro v241 w85 ho86 hb hg_ hnew_; clear hg_ hnew_; (first | rw [← Ny240.out] at ho86 | (simp only [Int.reduceToNat] at ho86; rw [← Ny240.out] at ho86)); have n0_ := Aside0.mk (Kd.R_elder' (by (with_reducible repeat (first | apply Kd.R_alloc | apply Kd.R_drewN | apply Kd.R_drew)); exact HO_43.out) (Kd.R_base ho86) hb); have n1_ := Aside0.mk (Kd.R_elder' (by (with_reducible repeat (first | apply Kd.R_alloc | apply Kd.R_drewN | apply Kd.R_drew)); exact HO226.out) (Kd.R_base ho86) hb); have n2_ := Aside0.mk (Kd.R_elder' (by (with_reducible repeat (first | apply Kd.R_alloc | apply Kd.R_drewN | apply Kd.R_drew)); exact HO229.out) (Kd.R_base ho86) hb); have n3_ := Aside0.mk (Kd.R_elder' (by (with_reducible repeat (first | apply Kd.R_alloc | apply Kd.R_drewN | apply Kd.R_drew)); exact HO236.out) (Kd.R_base ho86) hb); have n4_ := Aside0.mk (Kd.R_elder' (by (with_reducible repeat (first | apply Kd.R_alloc | apply Kd.R_drewN | apply Kd.R_drew)); exact HO239.out) (Kd.R_base ho86) hb); have n5_ := Aside0.mk (Kd.R_lower (Kd.R_new' (Kd.R_new' (Kd.R_new' (Kd.R_new' (Kd.R_new' ho86 (Kd.R_lt (by (with_reducible repeat (first | apply Kd.R_alloc | apply Kd.R_drewN | apply Kd.R_drew)); exact HO_43.out))) (Kd.R_lt (by (with_reducible repeat (first | apply Kd.R_alloc | apply Kd.R_drewN | apply Kd.R_drew)); exact HO226.out))) (Kd.R_lt (by (with_reducible repeat (first | apply Kd.R_alloc | apply Kd.R_drewN | apply Kd.R_drew)); exact HO229.out))) (Kd.R_lt (by (with_reducible repeat (first | apply Kd.R_alloc | apply Kd.R_drewN | apply Kd.R_drew)); exact HO236.out))) (Kd.R_lt (by (with_reducible repeat (first | apply Kd.R_alloc | apply Kd.R_drewN | apply Kd.R_drew)); exact HO239.out))) (below_size (by repeat (first | (with_reducible first | exact HB.out | apply below_alloc | apply pw_below_drewN | apply below_drew1) | exact HB.out)))); have n6_ := Aside0.mk (below_step (by repeat (first | (with_reducible first | exact HB.out | apply below_alloc | apply pw_below_drewN | apply below_drew1) | exact HB.out)) hb); clear HO_43; clear HO226; clear HO229; clear HO236; clear HO239; clear HB; have HO_43 := n0_; have HO226 := n1_; have HO229 := n2_; have HO236 := n3_; have HO239 := n4_; have HO242 := n5_; have HB := n6_; clear n0_ n1_ n2_ n3_ n4_ n5_ n6_; clear hb ho86) | ((with_reducible refine gate_builtin (b := .append) (xs := #[.tmp 116, .tmp 117]) rfl ?_); (try (refine gate_guard (by rfl) ?_; dsimp only)); at_builtin; refine Kd.R_append_rows Kd.string (w0 := w) w.heap.size rfl (.tmp 116) (.tmp 117) 22 9 (.string ⟨#[]⟩) 16 rfl Tryd.underlying22 info9 rfl (by decide) (by omega) v241 y240 l3 _ _ _ (fun k_ => some k_ ≠ (.slice Ao23 y195.length co23 : Value).ownBlock ∧ some k_ ≠ (.slice Ao78 t224.length co78 : Value).ownBlock ∧ some k_ ≠ (.slice Ao79 t227.length co79 : Value).ownBlock ∧ some k_ ≠ (.slice Ao83 y234.length co83 : Value).ownBlock ∧ some k_ ≠ (v238 : Value).ownBlock) (fun _ => False) rfl rfl ?aO ?aR (fun _ _ h => h) (fun _ h => h.elim) ?aF ?aB ?aS ?aL ?_; (case aR => repeat (first | exact (Kd.C_below HR3.out HB.out) | (with_reducible refine Kd.C_alloc ?_ _) | (with_reducible refine Kd.C_drewN ?_ _) | (with_reducible refine Kd.C_drew ?_))); (case aB => exact (by repeat (first | (with_reducible first | exact HB.out | apply below_alloc | apply pw_below_drewN | apply below_drew1) | exact HB.out))); (case aF => exact (fun k_ hk => ⟨Kd.fresh' (Kd.R_lt (by (with_reducible repeat (first | apply Kd.R_alloc | apply Kd.R_drewN | apply Kd.R_drew)); exact HO_43.out)) k_ hk, Kd.fresh' (Kd.R_lt (by (with_reducible repeat (first | apply Kd.R_alloc | apply Kd.R_drewN | apply Kd.R_drew)); exact HO226.out)) k_ hk, Kd.fresh' (Kd.R_lt (by (with_reducible repeat (first | apply Kd.R_alloc | apply Kd.R_drewN | apply Kd.R_drew)); exact HO229.out)) k_ hk, Kd.fresh' (Kd.R_lt (by (with_reducible repeat (first | apply Kd.R_alloc | apply Kd.R_drewN | apply Kd.R_drew)); exact HO236.out)) k_ hk, Kd.fresh' (Kd.R_lt (by (with_reducible repeat (first | apply Kd.R_alloc | apply Kd.R_drewN | apply Kd.R_drew)); exact HO239.out)) k_ hk⟩)); (case aO => exact (by (with_reducible repeat (first | apply Kd.R_alloc | apply Kd.R_drewN | apply Kd.R_drew)); exact Kd.R_mono HO242.out (fun _ hk => ⟨hk.1.1.1.1.2, ⟨hk.1.1.1.2, ⟨hk.1.1.2, ⟨hk.1.2, hk.2⟩⟩⟩⟩))); (case aS => exact (below_size (by repeat (first | (with_reducible first | exact HB.out | apply below_alloc | apply pw_below_drewN | apply below_drew1) | exact HB.out)))); (case aL => have := LMc73.out; omega); intro v244 w87 ho hb hg hat; rw [← Ny243.out] at ho; have n0_ := Aside0.mk (Kd.R_after (ok := (fun k_ => some k_ ≠ (.slice Ao78 t224.length co78 : Value).ownBlock ∧ some k_ ≠ (.slice Ao79 t227.length co79 : Value).ownBlock ∧ some k_ ≠ (.slice Ao83 y234.length co83 : Value).ownBlock ∧ some k_ ≠ (v238 : Value).ownBlock)) (by (with_reducible repeat (first | apply Kd.R_alloc | apply Kd.R_drewN | apply Kd.R_drew)); exact Kd.R_mono HO_43.out (fun _ hk => ⟨⟨hk.1.1.1.1, ⟨hk.1.1.1.2, ⟨hk.1.1.2, hk.1.2⟩⟩⟩, hk.2⟩)) hg hat); have n1_ := Aside0.mk (Kd.R_after (ok := (fun k_ => some k_ ≠ (.slice Ao23 y195.length co23 : Value).ownBlock ∧ some k_ ≠ (.slice Ao79 t227.length co79 : Value).ownBlock ∧ some k_ ≠ (.slice Ao83 y234.length co83 : Value).ownBlock ∧ some k_ ≠ (v238 : Value).ownBlock)) (by (with_reducible repeat (first | apply Kd.R_alloc | apply Kd.R_drewN | apply Kd.R_drew)); exact Kd.R_mono HO226.out (fun _ hk => ⟨⟨hk.1.1.1.1, ⟨hk.1.1.1.2, ⟨hk.1.1.2, hk.1.2⟩⟩⟩, hk.2⟩)) hg hat); have n2_ := Aside0.mk (Kd.R_after (ok := (fun k_ => some k_ ≠ (.slice Ao23 y195.length co23 : Value).ownBlock ∧ some k_ ≠ (.slice Ao78 t224.length co78 : Value).ownBlock ∧ some k_ ≠ (.slice Ao83 y234.length co83 : Value).ownBlock ∧ some k_ ≠ (v238 : Value).ownBlock)) (by (with_reducible repeat (first | apply Kd.R_alloc | apply Kd.R_drewN | apply Kd.R_drew)); exact Kd.R_mono HO229.out (fun _ hk => ⟨⟨hk.1.1.1.1, ⟨hk.1.1.1.2, ⟨hk.1.1.2, hk.1.2⟩⟩⟩, hk.2⟩)) hg hat); have n3_ := Aside0.mk (Kd.R_after (ok := (fun k_ => some k_ ≠ (.slice Ao23 y195.length co23 : Value).ownBlock ∧ some k_ ≠ (.slice Ao78 t224.length co78 : Value).ownBlock ∧ some k_ ≠ (.slice Ao79 t227.length co79 : Value).ownBlock ∧ some k_ ≠ (v238 : Value).ownBlock)) (by (with_reducible repeat (first | apply Kd.R_alloc | apply Kd.R_drewN | apply Kd.R_drew)); exact Kd.R_mono HO236.out (fun _ hk => ⟨⟨hk.1.1.1, ⟨hk.1.1.2.1, ⟨hk.1.1.2.2, hk.1.2⟩⟩⟩, hk.2⟩)) hg hat); have n4_ := Aside0.mk (Kd.R_after (ok := (fun k_ => some k_ ≠ (.slice Ao23 y195.length co23 : Value).ownBlock ∧ some k_ ≠ (.slice Ao78 t224.length co78 : Value).ownBlock ∧ some k_ ≠ (.slice Ao79 t227.length co79 : Value).ownBlock ∧ some k_ ≠ (.slice Ao83 y234.length co83 : Value).ownBlock)) (by (with_reducible repeat (first | apply Kd.R_alloc | apply Kd.R_drewN | apply Kd.R_drew)); exact Kd.R_mono HO239.out (fun _ hk => ⟨⟨hk.1.1.1.1.2, ⟨hk.1.1.1.2, ⟨hk.1.1.2, hk.1.2⟩⟩⟩, hk.2⟩)) hg hat); have n5_ := Aside0.mk (hb); have n6_ := Aside0.mk (ho); clear HO_43; clear HO226; clear HO229; clear HO236; clear HO239; clear HB; clear HO242; have HO_43 := n0_; have HO226 := n1_; have HO229 := n2_; have HO236 := n3_; have HO239 := n4_; have HB := n5_; have HO245 := n6_; clear n0_ n1_ n2_ n3_ n4_ n5_ n6_; clear ho hb hg hat; obtain ⟨Ao88, co88, eo88⟩ := Kd.R_slice HO245.out; subst eo88) | (go_at_call 19; (with_reducible refine (parallaxref1_List.calls k1 _ _ y243 t246 _ ?side1 ?side2 A74.out).mono ?_); (case side1 => repeat (first | exact (Kd.R_reads' HO245.out).2.2 | (with_reducible refine Kd.C_alloc ?_ _) | (with_reducible refine Kd.C_drewN ?_ _) | (with_reducible refine Kd.C_drew ?_))); (case side2 => exact (Kd.R_reads' HO245.out).2.1); rintro e w89 ⟨v247, rfl, ho0, hb⟩; have n0_ := Aside0.mk (Kd.R_elder' (by (with_reducible repeat (first | apply Kd.R_alloc | apply Kd.R_drewN | apply Kd.R_drew)); exact HO_43.out) (Kd.R_base ho0) hb); have n1_ := Aside0.mk (Kd.R_elder' (by (with_reducible repeat (first | apply Kd.R_alloc | apply Kd.R_drewN | apply Kd.R_drew)); exact HO226.out) (Kd.R_base ho0) hb); have n2_ := Aside0.mk (Kd.R_elder' (by (with_reducible repeat (first | apply Kd.R_alloc | apply Kd.R_drewN | apply Kd.R_drew)); exact HO229.out) (Kd.R_base ho0) hb); have n3_ := Aside0.mk (Kd.R_elder' (by (with_reducible repeat (first | apply Kd.R_alloc | apply Kd.R_drewN | apply Kd.R_drew)); exact HO236.out) (Kd.R_base ho0) hb); have n4_ := Aside0.mk (Kd.R_elder' (by (with_reducible repeat (first | apply Kd.R_alloc | apply Kd.R_drewN | apply Kd.R_drew)); exact HO239.out) (Kd.R_base ho0) hb); have n5_ := Aside0.mk (Kd.R_elder' (by (with_reducible repeat (first | apply Kd.R_alloc | apply Kd.R_drewN | apply Kd.R_drew)); exact HO245.out) (Kd.R_base ho0) hb); have n6_ := Aside0.mk (Kd.R_lower (Kd.R_new' (Kd.R_new' (Kd.R_new' (Kd.R_new' (Kd.R_new' (Kd.R_new' ho0 (Kd.R_lt (by (with_reducible repeat (first | apply Kd.R_alloc | apply Kd.R_drewN | apply Kd.R_drew)); exact HO_43.out))) (Kd.R_lt (by (with_reducible repeat (first | apply Kd.R_alloc | apply Kd.R_drewN | apply Kd.R_drew)); exact HO226.out))) (Kd.R_lt (by (with_reducible repeat (first | apply Kd.R_alloc | apply Kd.R_drewN | apply Kd.R_drew)); exact HO229.out))) (Kd.R_lt (by (with_reducible repeat (first | apply Kd.R_alloc | apply Kd.R_drewN | apply Kd.R_drew)); exact HO236.out))) (Kd.R_lt (by (with_reducible repeat (first | apply Kd.R_alloc | apply Kd.R_drewN | apply Kd.R_drew)); exact HO239.out))) (Kd.R_lt (by (with_reducible repeat (first | apply Kd.R_alloc | apply Kd.R_drewN | apply Kd.R_drew)); exact HO245.out))) (below_size (by repeat (first | (with_reducible first | exact HB.out | apply below_alloc | apply pw_below_drewN | apply below_drew1) | exact HB.out)))); have n7_ := Aside0.mk (below_step (by repeat (first | (with_reducible first | exact HB.out | apply below_alloc | apply pw_below_drewN | apply below_drew1) | exact HB.out)) hb); clear HO_43; clear HO226; clear HO229; clear HO236; clear HO239; clear HO245; clear HB; have HO_43 := n0_; have HO226 := n1_; have HO229 := n2_; have HO236 := n3_; have HO239 := n4_; have HO245 := n5_; have HO248 := n6_; have HB := n7_; clear n0_ n1_ n2_ n3_ n4_ n5_ n6_ n7_; (try clear hb); (try clear hb2); (try clear hk); (try clear hi); (try clear ho0); obtain ⟨Ao90, co90, eo90⟩ := Kd.R_slice HO239.out; subst eo90; obtain ⟨Ao91, co91, eo91⟩ := Kd.R_slice HO248.out; subst eo91) | (go_at_call 17; (with_reducible refine (parallaxref1_Strings.calls k1 _ _ t237 _ _ t246 t249 _ ?side1 ?side2 ?side3 ?side4 A75.out).mono ?_); (case side1 => repeat (first | exact (Kd.R_reads' HO239.out).2.2 | (with_reducible refine Kd.C_alloc ?_ _) | (with_reducible refine Kd.C_drewN ?_ _) | (with_reducible refine Kd.C_drew ?_))); (case side2 => exact (Kd.R_reads' HO239.out).2.1); (case side3 => repeat (first | exact (Kd.R_reads' HO248.out).2.2 | (with_reducible refine Kd.C_alloc ?_ _) | (with_reducible refine Kd.C_drewN ?_ _) | (with_reducible refine Kd.C_drew ?_))); (case side4 => exact (Kd.R_reads' HO248.out).2.1); rintro e w' ⟨rfl, ⟨nd, rfl⟩⟩) | (go_at_call 18; (with_reducible refine (text_List.calls k1 _ _ l3 t224 _ ?side1 ?side2 A67.out).mono ?_); (case side1 => repeat (first | exact (Kd.C_below HR3.out HB.out) | (with_reducible refine Kd.C_alloc ?_ _) | (with_reducible refine Kd.C_drewN ?_ _) | (with_reducible refine Kd.C_drew ?_))); (case side2 => exact HC3.out); rintro e w76 ⟨v225, rfl, ho0, hb⟩; have n0_ := Aside0.mk (Kd.R_elder' (by (with_reducible repeat (first | apply Kd.R_alloc | apply Kd.R_drewN | apply Kd.R_drew)); exact HO_43.out) (Kd.R_base ho0) hb); have n1_ := Aside0.mk (Kd.R_lower (Kd.R_new' ho0 (Kd.R_lt (by (with_reducible repeat (first | apply Kd.R_alloc | apply Kd.R_drewN | apply Kd.R_drew)); exact HO_43.out))) (below_size (by repeat (first | (with_reducible first | exact HB.out | apply below_alloc | apply pw_below_drewN | apply below_drew1) | exact HB.out)))); have n2_ := Aside0.mk (below_step (by repeat (first | (with_reducible first | exact HB.out | apply below_alloc | apply pw_below_drewN | apply below_drew1) | exact HB.out)) hb); clear HO_43; clear HB; have HO_43 := n0_; have HO226 := n1_; have HB := n2_; clear n0_ n1_ n2_; (try clear hb); (try clear hb2); (try clear hk); (try clear hi); (try clear ho0)) | (go_at_call 19; (with_reducible refine (parallaxref1_List.calls k1 _ _ l3 t227 _ ?side1 ?side2 A68.out).mono ?_); (case side1 => repeat (first | exact (Kd.C_below HR3.out HB.out) | (with_reducible refine Kd.C_alloc ?_ _) | (with_reducible refine Kd.C_drewN ?_ _) | (with_reducible refine Kd.C_drew ?_))); (case side2 => exact HC3.out); rintro e w77 ⟨v228, rfl, ho0, hb⟩; have n0_ := Aside0.mk (Kd.R_elder' (by (with_reducible repeat (first | apply Kd.R_alloc | apply Kd.R_drewN | apply Kd.R_drew)); exact HO_43.out) (Kd.R_base ho0) hb); have n1_ := Aside0.mk (Kd.R_elder' (by (with_reducible repeat (first | apply Kd.R_alloc | apply Kd.R_drewN | apply Kd.R_drew)); exact HO226.out) (Kd.R_base ho0) hb); have n2_ := Aside0.mk (Kd.R_lower (Kd.R_new' (Kd.R_new' ho0 (Kd.R_lt (by (with_reducible repeat (first | apply Kd.R_alloc | apply Kd.R_drewN | apply Kd.R_drew)); exact HO_43.out))) (Kd.R_lt (by (with_reducible repeat (first | apply Kd.R_alloc | apply Kd.R_drewN | apply Kd.R_drew)); exact HO226.out))) (below_size (by repeat (first | (with_reducible first | exact HB.out | apply below_alloc | apply pw_below_drewN | apply below_drew1) | exact HB.out)))); have n3_ := Aside0.mk (below_step (by repeat (first | (with_reducible first | exact HB.out | apply below_alloc | apply pw_below_drewN | apply below_drew1) | exact HB.out)) hb); clear HO_43; clear HO226; clear HB; have HO_43 := n0_; have HO226 := n1_; have HO229 := n2_; have HB := n3_; clear n0_ n1_ n2_ n3_; (try clear hb); (try clear hb2); (try clear hk); (try clear hi); (try clear ho0); obtain ⟨Ao78, co78, eo78⟩ := Kd.R_slice HO226.out; subst eo78; obtain ⟨Ao79, co79, eo79⟩ := Kd.R_slice HO229.out; subst eo79) | (go_at_call 17; (with_reducible refine (parallaxref1_Strings.calls k1 _ _ t224 _ _ t227 true _ ?side1 ?side2 ?side3 ?side4 A69.out).mono ?_); (case side1 => repeat (first | exact (Kd.R_reads' HO226.out).2.2 | (with_reducible refine Kd.C_alloc ?_ _) | (with_reducible refine Kd.C_drewN ?_ _) | (with_reducible refine Kd.C_drew ?_))); (case side2 => exact (Kd.R_reads' HO226.out).2.1); (case side3 => repeat (first | exact (Kd.R_reads' HO229.out).2.2 | (with_reducible refine Kd.C_alloc ?_ _) | (with_reducible refine Kd.C_drewN ?_ _) | (with_reducible refine Kd.C_drew ?_))); (case side4 => exact (Kd.R_reads' HO229.out).2.1); rintro e w' ⟨rfl, ⟨nd, rfl⟩⟩))
                                  (try any_goals (exfalso; have h_ := ‹some undef = some (Value.bool _)›; revert h_; simp [undef]; done))
                                  go_ret
                                  exact ⟨by first | rfl | (simp [errW_none, errW_some] <;> rfl) | (simp [*, errW_none, errW_some] <;> rfl), by repeat (first | (with_reducible first | exact HB.out | apply below_alloc | apply pw_below_drewN | apply below_drew1) | exact HB.out)⟩
                                · rw [if_neg c73] at H
                                  exact absurd H (by simp)
                              · rw [if_neg c71] at H
                                exact absurd H (by simp)
                            · replace c70 := Bool.eq_false_iff.mpr c70
                              subst c70
                              rw [if_neg (show ¬ (false = true) by decide)] at H
                              exact absurd ((Option.some.inj H).trans HT.out) (by decide)
                    · rw [if_neg c19] at H
                      exact absurd H (by simp)
                  · rw [if_neg c18] at H
                    exact absurd H (by simp)
                · rw [if_neg c17] at H
                  exact absurd H (by simp)
              · rw [if_neg c16] at H
                exact absurd H (by simp)
            · rw [if_neg c15] at H
              exact absurd H (by simp)
          · replace c14 := Bool.eq_false_iff.mpr c14
            subst c14
            rw [if_neg (show ¬ (false = true) by decide)] at H
            obtain rfl := Option.some.inj H
            go_enter Tryd.func3, Tryd.ntmps3
            go_wp2_with (first | ((with_reducible refine gate_callee (f := 7) rfl ?_); refine goesL_ (some 11) rfl rfl Tryd.func7 (by kernel_rfl) rfl #[] rfl (by (try simp only [List.map_toArray, List.map_cons, List.map_nil]); first | done | rfl | (simp only [List.length_drop, List.length_take]; rfl)) ?_; (with_reducible refine (parallaxlaw3_known.calls k  true _ A5.out).mono ?_); rintro e w92 ⟨rfl, hb⟩; refine ⟨_, rfl, ?_⟩; have n0_ := Aside0.mk (below_step (by repeat (first | (with_reducible first | exact HB.out | apply below_alloc | apply pw_below_drewN | apply below_drew1) | exact HB.out)) hb); clear HB; have HB := n0_; clear n0_; (try clear hb); (try clear hb2); (try clear hk); (try clear hi)) | (go_at_call 8; (with_reducible refine (parallaxhelp_Small.calls k _ _ l3 false _ ?side1 ?side2 A13.out).mono ?_); (case side1 => repeat (first | exact (Kd.C_below HR3.out HB.out) | (with_reducible refine Kd.C_alloc ?_ _) | (with_reducible refine Kd.C_drewN ?_ _) | (with_reducible refine Kd.C_drew ?_))); (case side2 => exact HC3.out); rintro e w' ⟨rfl, ⟨nd, rfl⟩⟩) | (go_at_call 7; (with_reducible refine (parallaxlaw3_known.calls k  true _ A5.out).mono ?_); rintro e w92 ⟨rfl, hb⟩; have n0_ := Aside0.mk (below_step (by repeat (first | (with_reducible first | exact HB.out | apply below_alloc | apply pw_below_drewN | apply below_drew1) | exact HB.out)) hb); clear HB; have HB := n0_; clear n0_; (try clear hb); (try clear hb2); (try clear hk); (try clear hi)))
            (try any_goals (exfalso; have h_ := ‹some undef = some (Value.bool _)›; revert h_; simp [undef]; done))
            go_ret
            exact ⟨by first | rfl | (simp [errW_none, errW_some] <;> rfl) | (simp [*, errW_none, errW_some] <;> rfl), by repeat (first | (with_reducible first | exact HB.out | apply below_alloc | apply pw_below_drewN | apply below_drew1) | exact HB.out)⟩
  · replace c6 := Bool.eq_false_iff.mpr c6
    subst c6
    rw [if_neg (show ¬ (false = true) by decide)] at H
    exact absurd ((Option.some.inj H).trans HT.out) (by decide)

/-- THE ONE PURE STATEMENT of parallaxlaw3_TextTells: yours. -/
def parallaxlaw3_TextTells.Pure : Prop := ∀ (a0 : ByteArray) (a1 : ByteArray) (a2 : ByteArray) (l3 : List ByteArray), a0.size ≤ 140737488351232 → a1.size ≤ 140737488351232 → a2.size ≤ 140737488351232 → (l3.length ≤ 9223372036854775807 ∧ ∀ x0_ ∈ l3, x0_.size ≤ 9223372036854775807) → ∃ k, parallaxlaw3_TextTells.f k a0 a1 a2 l3 = some true

end Go.Proofs.YtjpgnkkfkkpheaaDoor.PTextTells
