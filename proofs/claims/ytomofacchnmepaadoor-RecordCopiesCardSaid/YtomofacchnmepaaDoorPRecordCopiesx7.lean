-- Written by a program of this session (wip/tools/myprint.sh)
import Derived.Test.YtomofacchnmepaaDoorPRecordCopiesx0
import Derived.Test.YtomofacchnmepaaDoorPRecordCopiesx6
namespace Go.Proofs.YtomofacchnmepaaDoor.PRecordCopies
open Go.RowKit Go.Proofs.YtomofacchnmepaaDoorW.PrintWords Go.Proofs.YtomofacchnmepaaDoorW.PrintLast Go.Proofs.YtomofacchnmepaaDoorW.PrintMore
attribute [local go_sem] max2_int min2_int max_two min_two max_three min_three max_four min_four   -- for this text's walks alone
set_option linter.unusedVariables false
set_option linter.unusedSimpArgs false

/-! ### parallaxref1_Visible: function 58 -/
def parallaxref1_Visible.f (a0 : Int) : Option (Bool) := if a0 ≥ 33 then (some (decide (a0 ≤ 126))) else (some false)
set_option maxHeartbeats 8000000 in
set_option maxRecDepth 100000 in
theorem parallaxref1_Visible.calls (a0 : Int) (r : Bool) (w : World) (h : parallaxref1_Visible.f a0 = some r) :
  Calls Tryd.prog 58 #[.int .u8 a0] w fun e w' => e = .returned (.bool r) ∧ Drawn0 w w' := by
 have H : (if a0 ≥ 33 then (some (decide (a0 ≤ 126))) else (some false)) = some r := h
 clear h
 by_cases c2 : a0 ≥ 33
 ·rw [if_pos c2] at H
  have c2b0 : decide (33 ≤ a0) = true := decide_eq_true c2
  clear c2
  obtain rfl := Option.some.inj H
  go_enter Tryd.func58, Tryd.ntmps58
  go_wp2
  go_ret
  exact ⟨by first | rfl | (simp; done) | (simp [*]; done), by repeat (first | exact Drawn0.refl _ | apply Drawn0.step)⟩
 ·rw [if_neg c2] at H
  have c2b0 : decide (33 ≤ a0) = false := decide_eq_false c2
  clear c2
  obtain rfl := Option.some.inj H
  go_enter Tryd.func58, Tryd.ntmps58
  go_wp2
  go_ret
  exact ⟨by first | rfl | (simp; done) | (simp [*]; done), by repeat (first | exact Drawn0.refl _ | apply Drawn0.step)⟩

/-! ### parallaxref1_Text: function 60 -/
def parallaxref1_Text.f (a0 : Int) : Option (Bool) := (parallaxref1_Visible.f a0).bind fun t211 => (if t211 = true then (some true) else ((parallaxref1_Blank.f a0).bind fun t212 => (if t212 = true then (some true) else (some (decide (a0 ≥ 128))))))
set_option maxHeartbeats 8000000 in
set_option maxRecDepth 100000 in
theorem parallaxref1_Text.calls (a0 : Int) (r : Bool) (w : World) (h : parallaxref1_Text.f a0 = some r) :
  Calls Tryd.prog 60 #[.int .u8 a0] w fun e w' => e = .returned (.bool r) ∧ Drawn0 w w' := by
 have H : ((parallaxref1_Visible.f a0).bind fun t211 => (if t211 = true then (some true) else ((parallaxref1_Blank.f a0).bind fun t212 => (if t212 = true then (some true) else (some (decide (a0 ≥ 128))))))) = some r := h
 clear h
 replace H := Option.bind_eq_some_iff.mp H
 obtain ⟨t211, A20, H⟩ := H
 replace H : (if t211 = true then (some true) else ((parallaxref1_Blank.f a0).bind fun t212 => (if t212 = true then (some true) else (some (decide (a0 ≥ 128)))))) = some r := H
 have A2 := Aside0.mk A20
 clear A20
 by_cases c3 : t211 = true
 ·subst c3
  have H1 : (some true) = some r := by rw [if_pos rfl] at H; exact H
  clear H
  have H := H1
  clear H1
  obtain rfl := Option.some.inj H
  go_enter Tryd.func60, Tryd.ntmps60
  go_wp2_with (first | ((with_reducible refine gate_callee (f := 58) rfl ?_); refine goesL_ (some 4) rfl rfl Tryd.func58 (by kernel_rfl) rfl #[.int .u8 a0] rfl (by (try simp only [List.map_toArray, List.map_cons, List.map_nil]); first | done | rfl | (simp only [List.length_drop, List.length_take]; rfl)) ?_; (with_reducible refine (parallaxref1_Visible.calls a0 true _ A2.out).mono ?_); rintro e w' ⟨rfl, ⟨nd, rfl⟩⟩; refine ⟨_, rfl, ?_⟩))
  go_ret
  exact ⟨by first | rfl | (simp; done) | (simp [*]; done), by repeat (first | exact Drawn0.refl _ | apply Drawn0.step)⟩
 ·replace c3 := Bool.eq_false_iff.mpr c3
  subst c3
  have H1 : ((parallaxref1_Blank.f a0).bind fun t212 => (if t212 = true then (some true) else (some (decide (a0 ≥ 128))))) = some r := by rw [if_neg (show ¬ (false = true) by decide)] at H; exact H
  clear H
  have H := H1
  clear H1
  replace H := Option.bind_eq_some_iff.mp H
  obtain ⟨t212, A40, H⟩ := H
  replace H : (if t212 = true then (some true) else (some (decide (a0 ≥ 128)))) = some r := H
  have A4 := Aside0.mk A40
  clear A40
  by_cases c5 : t212 = true
  ·subst c5
   have H1 : (some true) = some r := by rw [if_pos rfl] at H; exact H
   clear H
   have H := H1
   clear H1
   obtain rfl := Option.some.inj H
   go_enter Tryd.func60, Tryd.ntmps60
   go_wp2_with (first | ((with_reducible refine gate_callee (f := 58) rfl ?_); refine goesL_ (some 4) rfl rfl Tryd.func58 (by kernel_rfl) rfl #[.int .u8 a0] rfl (by (try simp only [List.map_toArray, List.map_cons, List.map_nil]); first | done | rfl | (simp only [List.length_drop, List.length_take]; rfl)) ?_; (with_reducible refine (parallaxref1_Visible.calls a0 false _ A2.out).mono ?_); rintro e w' ⟨rfl, ⟨nd, rfl⟩⟩; refine ⟨_, rfl, ?_⟩) | (go_at_call 38; (with_reducible refine (parallaxref1_Blank.calls a0 true _ A4.out).mono ?_); rintro e w' ⟨rfl, ⟨nd, rfl⟩⟩))
   go_ret
   exact ⟨by first | rfl | (simp; done) | (simp [*]; done), by repeat (first | exact Drawn0.refl _ | apply Drawn0.step)⟩
  ·replace c5 := Bool.eq_false_iff.mpr c5
   subst c5
   have H1 : (some (decide (a0 ≥ 128))) = some r := by rw [if_neg (show ¬ (false = true) by decide)] at H; exact H
   clear H
   have H := H1
   clear H1
   obtain rfl := Option.some.inj H
   go_enter Tryd.func60, Tryd.ntmps60
   go_wp2_with (first | ((with_reducible refine gate_callee (f := 58) rfl ?_); refine goesL_ (some 4) rfl rfl Tryd.func58 (by kernel_rfl) rfl #[.int .u8 a0] rfl (by (try simp only [List.map_toArray, List.map_cons, List.map_nil]); first | done | rfl | (simp only [List.length_drop, List.length_take]; rfl)) ?_; (with_reducible refine (parallaxref1_Visible.calls a0 false _ A2.out).mono ?_); rintro e w' ⟨rfl, ⟨nd, rfl⟩⟩; refine ⟨_, rfl, ?_⟩) | (go_at_call 38; (with_reducible refine (parallaxref1_Blank.calls a0 false _ A4.out).mono ?_); rintro e w' ⟨rfl, ⟨nd, rfl⟩⟩))
   go_ret
   exact ⟨by first | rfl | (simp; done) | (simp [*]; done), by repeat (first | exact Drawn0.refl _ | apply Drawn0.step)⟩

/-! ### parallaxref1_is: function 49 -/
def parallaxref1_is.f (k : Nat) (a0 : Int) (a1 : Int) : Option (Bool) := (parallaxref1_Hex.f k a0).bind fun bt213 => (if a1 = 1 then ((parallaxref1_Token.f k a0).bind fun t215 => (some t215)) else (if a1 = 2 then ((parallaxref1_Visible.f a0).bind fun t216 => (some t216)) else (if a1 = 3 then ((parallaxref1_Blank.f a0).bind fun t217 => (some t217)) else (if a1 = 4 then ((parallaxref1_Digit.f a0).bind fun t218 => (some t218)) else (if a1 = 5 then (some bt213.2) else (if a1 = 6 then ((parallaxref1_Text.f a0).bind fun t219 => (some t219)) else (some false)))))))
theorem parallaxref1_is.mono : ∀ a0 a1 k, LeO (parallaxref1_is.f k a0 a1) (parallaxref1_is.f (k + 1) a0 a1) := by
 intro a0 a1 k
 unfold parallaxref1_is.f
 repeat' first
   | (with_reducible exact parallaxref1_Hex.mono _ _)
   | (with_reducible exact parallaxref1_Token.mono _ _)
   | (with_reducible exact LeO.refl _)
   | (with_reducible exact LeO.none _)
   | (with_reducible refine LeO.ite ?_ ?_)
   | (with_reducible refine LeO.bind ?_ (fun _ => ?_))
   | exact parallaxref1_Hex.mono _ _
   | exact parallaxref1_Token.mono _ _
   | exact LeO.none _
   | refine LeO.ite ?_ ?_
   | refine LeO.bind ?_ (fun _ => ?_)
set_option maxHeartbeats 8000000 in
set_option maxRecDepth 100000 in
theorem parallaxref1_is.calls (k : Nat) (a0 : Int) (a1 : Int) (r : Bool) (w : World) (h : parallaxref1_is.f k a0 a1 = some r) :
  Calls Tryd.prog 49 #[.int .u8 a0, .int .i64 a1] w fun e w' => e = .returned (.bool r) ∧ Drawn0 w w' := by
 have H : ((parallaxref1_Hex.f k a0).bind fun bt213 => (if a1 = 1 then ((parallaxref1_Token.f k a0).bind fun t215 => (some t215)) else (if a1 = 2 then ((parallaxref1_Visible.f a0).bind fun t216 => (some t216)) else (if a1 = 3 then ((parallaxref1_Blank.f a0).bind fun t217 => (some t217)) else (if a1 = 4 then ((parallaxref1_Digit.f a0).bind fun t218 => (some t218)) else (if a1 = 5 then (some bt213.2) else (if a1 = 6 then ((parallaxref1_Text.f a0).bind fun t219 => (some t219)) else (some false)))))))) = some r := h
 clear h
 replace H := Option.bind_eq_some_iff.mp H
 obtain ⟨⟨t213, t214⟩, A30, H⟩ := H
 replace H : (if a1 = 1 then ((parallaxref1_Token.f k a0).bind fun t215 => (some t215)) else (if a1 = 2 then ((parallaxref1_Visible.f a0).bind fun t216 => (some t216)) else (if a1 = 3 then ((parallaxref1_Blank.f a0).bind fun t217 => (some t217)) else (if a1 = 4 then ((parallaxref1_Digit.f a0).bind fun t218 => (some t218)) else (if a1 = 5 then (some t214) else (if a1 = 6 then ((parallaxref1_Text.f a0).bind fun t219 => (some t219)) else (some false))))))) = some r := H
 have A3 := Aside0.mk A30
 clear A30
 by_cases c4 : a1 = 1
 ·rw [if_pos c4] at H
  have c4b0 : (a1 == 1) = true := beq_iff_eq.mpr c4
  have c4b1 : (a1 != 1) = false := bne_eq_false_iff_eq.mpr c4
  clear c4
  replace H := Option.bind_eq_some_iff.mp H
  obtain ⟨t215, A50, H⟩ := H
  replace H : (some t215) = some r := H
  have A5 := Aside0.mk A50
  clear A50
  obtain rfl := Option.some.inj H
  go_enter Tryd.func49, Tryd.ntmps49
  go_wp2_with (first | ((with_reducible refine gate_callee (f := 56) rfl ?_); refine goesL_ (some 9) rfl rfl Tryd.func56 (by kernel_rfl) rfl #[.int .u8 a0] rfl (by (try simp only [List.map_toArray, List.map_cons, List.map_nil]); first | done | rfl | (simp only [List.length_drop, List.length_take]; rfl)) ?_; (with_reducible refine (parallaxref1_Hex.calls k a0 t213 t214 _ A3.out).mono ?_); rintro e w' ⟨rfl, ⟨nd, rfl⟩⟩; refine ⟨_, rfl, ?_⟩) | ((with_reducible refine gate_callee (f := 57) rfl ?_); refine goesL_ (some 16) rfl rfl Tryd.func57 (by kernel_rfl) rfl #[.int .u8 a0] rfl (by (try simp only [List.map_toArray, List.map_cons, List.map_nil]); first | done | rfl | (simp only [List.length_drop, List.length_take]; rfl)) ?_; (with_reducible refine (parallaxref1_Token.calls k a0 t215 _ A5.out).mono ?_); rintro e w' ⟨rfl, ⟨nd, rfl⟩⟩; refine ⟨_, rfl, ?_⟩))
  go_ret
  exact ⟨by first | rfl | (simp; done) | (simp [*]; done), by repeat (first | exact Drawn0.refl _ | apply Drawn0.step)⟩
 ·rw [if_neg c4] at H
  have c4b0 : (a1 == 1) = false := beq_eq_false_iff_ne.mpr c4
  have c4b1 : (a1 != 1) = true := bne_iff_ne.mpr c4
  by_cases c6 : a1 = 2
  ·rw [if_pos c6] at H
   have c6b0 : (a1 == 2) = true := beq_iff_eq.mpr c6
   have c6b1 : (a1 != 2) = false := bne_eq_false_iff_eq.mpr c6
   clear c6
   replace H := Option.bind_eq_some_iff.mp H
   obtain ⟨t216, A70, H⟩ := H
   replace H : (some t216) = some r := H
   have A7 := Aside0.mk A70
   clear A70
   obtain rfl := Option.some.inj H
   go_enter Tryd.func49, Tryd.ntmps49
   go_wp2_with (first | ((with_reducible refine gate_callee (f := 56) rfl ?_); refine goesL_ (some 9) rfl rfl Tryd.func56 (by kernel_rfl) rfl #[.int .u8 a0] rfl (by (try simp only [List.map_toArray, List.map_cons, List.map_nil]); first | done | rfl | (simp only [List.length_drop, List.length_take]; rfl)) ?_; (with_reducible refine (parallaxref1_Hex.calls k a0 t213 t214 _ A3.out).mono ?_); rintro e w' ⟨rfl, ⟨nd, rfl⟩⟩; refine ⟨_, rfl, ?_⟩) | ((with_reducible refine gate_callee (f := 58) rfl ?_); refine goesL_ (some 20) rfl rfl Tryd.func58 (by kernel_rfl) rfl #[.int .u8 a0] rfl (by (try simp only [List.map_toArray, List.map_cons, List.map_nil]); first | done | rfl | (simp only [List.length_drop, List.length_take]; rfl)) ?_; (with_reducible refine (parallaxref1_Visible.calls a0 t216 _ A7.out).mono ?_); rintro e w' ⟨rfl, ⟨nd, rfl⟩⟩; refine ⟨_, rfl, ?_⟩))
   go_ret
   exact ⟨by first | rfl | (simp; done) | (simp [*]; done), by repeat (first | exact Drawn0.refl _ | apply Drawn0.step)⟩
  ·rw [if_neg c6] at H
   have c6b0 : (a1 == 2) = false := beq_eq_false_iff_ne.mpr c6
   have c6b1 : (a1 != 2) = true := bne_iff_ne.mpr c6
   by_cases c8 : a1 = 3
   ·rw [if_pos c8] at H
    have c8b0 : (a1 == 3) = true := beq_iff_eq.mpr c8
    have c8b1 : (a1 != 3) = false := bne_eq_false_iff_eq.mpr c8
    clear c8
    replace H := Option.bind_eq_some_iff.mp H
    obtain ⟨t217, A90, H⟩ := H
    replace H : (some t217) = some r := H
    have A9 := Aside0.mk A90
    clear A90
    obtain rfl := Option.some.inj H
    go_enter Tryd.func49, Tryd.ntmps49
    go_wp2_with (first | ((with_reducible refine gate_callee (f := 56) rfl ?_); refine goesL_ (some 9) rfl rfl Tryd.func56 (by kernel_rfl) rfl #[.int .u8 a0] rfl (by (try simp only [List.map_toArray, List.map_cons, List.map_nil]); first | done | rfl | (simp only [List.length_drop, List.length_take]; rfl)) ?_; (with_reducible refine (parallaxref1_Hex.calls k a0 t213 t214 _ A3.out).mono ?_); rintro e w' ⟨rfl, ⟨nd, rfl⟩⟩; refine ⟨_, rfl, ?_⟩) | ((with_reducible refine gate_callee (f := 38) rfl ?_); refine goesL_ (some 24) rfl rfl Tryd.func38 (by kernel_rfl) rfl #[.int .u8 a0] rfl (by (try simp only [List.map_toArray, List.map_cons, List.map_nil]); first | done | rfl | (simp only [List.length_drop, List.length_take]; rfl)) ?_; (with_reducible refine (parallaxref1_Blank.calls a0 t217 _ A9.out).mono ?_); rintro e w' ⟨rfl, ⟨nd, rfl⟩⟩; refine ⟨_, rfl, ?_⟩))
    go_ret
    exact ⟨by first | rfl | (simp; done) | (simp [*]; done), by repeat (first | exact Drawn0.refl _ | apply Drawn0.step)⟩
   ·rw [if_neg c8] at H
    have c8b0 : (a1 == 3) = false := beq_eq_false_iff_ne.mpr c8
    have c8b1 : (a1 != 3) = true := bne_iff_ne.mpr c8
    by_cases c10 : a1 = 4
    ·rw [if_pos c10] at H
     have c10b0 : (a1 == 4) = true := beq_iff_eq.mpr c10
     have c10b1 : (a1 != 4) = false := bne_eq_false_iff_eq.mpr c10
     clear c10
     replace H := Option.bind_eq_some_iff.mp H
     obtain ⟨t218, A110, H⟩ := H
     replace H : (some t218) = some r := H
     have A11 := Aside0.mk A110
     clear A110
     obtain rfl := Option.some.inj H
     go_enter Tryd.func49, Tryd.ntmps49
     go_wp2_with (first | ((with_reducible refine gate_callee (f := 56) rfl ?_); refine goesL_ (some 9) rfl rfl Tryd.func56 (by kernel_rfl) rfl #[.int .u8 a0] rfl (by (try simp only [List.map_toArray, List.map_cons, List.map_nil]); first | done | rfl | (simp only [List.length_drop, List.length_take]; rfl)) ?_; (with_reducible refine (parallaxref1_Hex.calls k a0 t213 t214 _ A3.out).mono ?_); rintro e w' ⟨rfl, ⟨nd, rfl⟩⟩; refine ⟨_, rfl, ?_⟩) | ((with_reducible refine gate_callee (f := 59) rfl ?_); refine goesL_ (some 28) rfl rfl Tryd.func59 (by kernel_rfl) rfl #[.int .u8 a0] rfl (by (try simp only [List.map_toArray, List.map_cons, List.map_nil]); first | done | rfl | (simp only [List.length_drop, List.length_take]; rfl)) ?_; (with_reducible refine (parallaxref1_Digit.calls a0 t218 _ A11.out).mono ?_); rintro e w' ⟨rfl, ⟨nd, rfl⟩⟩; refine ⟨_, rfl, ?_⟩))
     go_ret
     exact ⟨by first | rfl | (simp; done) | (simp [*]; done), by repeat (first | exact Drawn0.refl _ | apply Drawn0.step)⟩
    ·rw [if_neg c10] at H
     have c10b0 : (a1 == 4) = false := beq_eq_false_iff_ne.mpr c10
     have c10b1 : (a1 != 4) = true := bne_iff_ne.mpr c10
     by_cases c12 : a1 = 5
     ·rw [if_pos c12] at H
      have c12b0 : (a1 == 5) = true := beq_iff_eq.mpr c12
      have c12b1 : (a1 != 5) = false := bne_eq_false_iff_eq.mpr c12
      clear c12
      obtain rfl := Option.some.inj H
      go_enter Tryd.func49, Tryd.ntmps49
      go_wp2_with (first | ((with_reducible refine gate_callee (f := 56) rfl ?_); refine goesL_ (some 9) rfl rfl Tryd.func56 (by kernel_rfl) rfl #[.int .u8 a0] rfl (by (try simp only [List.map_toArray, List.map_cons, List.map_nil]); first | done | rfl | (simp only [List.length_drop, List.length_take]; rfl)) ?_; (with_reducible refine (parallaxref1_Hex.calls k a0 t213 t214 _ A3.out).mono ?_); rintro e w' ⟨rfl, ⟨nd, rfl⟩⟩; refine ⟨_, rfl, ?_⟩))
      go_ret
      exact ⟨by first | rfl | (simp; done) | (simp [*]; done), by repeat (first | exact Drawn0.refl _ | apply Drawn0.step)⟩
     ·rw [if_neg c12] at H
      have c12b0 : (a1 == 5) = false := beq_eq_false_iff_ne.mpr c12
      have c12b1 : (a1 != 5) = true := bne_iff_ne.mpr c12
      by_cases c13 : a1 = 6
      ·rw [if_pos c13] at H
       have c13b0 : (a1 == 6) = true := beq_iff_eq.mpr c13
       have c13b1 : (a1 != 6) = false := bne_eq_false_iff_eq.mpr c13
       clear c13
       replace H := Option.bind_eq_some_iff.mp H
       obtain ⟨t219, A140, H⟩ := H
       replace H : (some t219) = some r := H
       have A14 := Aside0.mk A140
       clear A140
       obtain rfl := Option.some.inj H
       go_enter Tryd.func49, Tryd.ntmps49
       go_wp2_with (first | ((with_reducible refine gate_callee (f := 56) rfl ?_); refine goesL_ (some 9) rfl rfl Tryd.func56 (by kernel_rfl) rfl #[.int .u8 a0] rfl (by (try simp only [List.map_toArray, List.map_cons, List.map_nil]); first | done | rfl | (simp only [List.length_drop, List.length_take]; rfl)) ?_; (with_reducible refine (parallaxref1_Hex.calls k a0 t213 t214 _ A3.out).mono ?_); rintro e w' ⟨rfl, ⟨nd, rfl⟩⟩; refine ⟨_, rfl, ?_⟩) | ((with_reducible refine gate_callee (f := 60) rfl ?_); refine goesL_ (some 35) rfl rfl Tryd.func60 (by kernel_rfl) rfl #[.int .u8 a0] rfl (by (try simp only [List.map_toArray, List.map_cons, List.map_nil]); first | done | rfl | (simp only [List.length_drop, List.length_take]; rfl)) ?_; (with_reducible refine (parallaxref1_Text.calls a0 t219 _ A14.out).mono ?_); rintro e w' ⟨rfl, ⟨nd, rfl⟩⟩; refine ⟨_, rfl, ?_⟩))
       go_ret
       exact ⟨by first | rfl | (simp; done) | (simp [*]; done), by repeat (first | exact Drawn0.refl _ | apply Drawn0.step)⟩
      ·rw [if_neg c13] at H
       have c13b0 : (a1 == 6) = false := beq_eq_false_iff_ne.mpr c13
       have c13b1 : (a1 != 6) = true := bne_iff_ne.mpr c13
       obtain rfl := Option.some.inj H
       go_enter Tryd.func49, Tryd.ntmps49
       go_wp2_with (first | ((with_reducible refine gate_callee (f := 56) rfl ?_); refine goesL_ (some 9) rfl rfl Tryd.func56 (by kernel_rfl) rfl #[.int .u8 a0] rfl (by (try simp only [List.map_toArray, List.map_cons, List.map_nil]); first | done | rfl | (simp only [List.length_drop, List.length_take]; rfl)) ?_; (with_reducible refine (parallaxref1_Hex.calls k a0 t213 t214 _ A3.out).mono ?_); rintro e w' ⟨rfl, ⟨nd, rfl⟩⟩; refine ⟨_, rfl, ?_⟩))
       go_ret
       exact ⟨by first | rfl | (simp; done) | (simp [*]; done), by repeat (first | exact Drawn0.refl _ | apply Drawn0.step)⟩

/-! ### parallaxref1_All: function 39 -/
mutual
def parallaxref1_All.l0 : Nat → ByteArray → List Int → Int → Option (Bool)
 | 0, _, _, _ => none
 | k + 1, x0, x1, x5 => if x5 < (x0.size : Int) then (parallaxref1_All.l1 k x0 x1 x5 false 0) else (some true)
def parallaxref1_All.l1 : Nat → ByteArray → List Int → Int → Bool → Int → Option (Bool)
 | 0, _, _, _, _, _ => none
 | k + 1, x0, x1, x5, x6, x7 => if x7 < (x1.length : Int) then (if x6 = true then (parallaxref1_All.l1 k x0 x1 x5 true (wrap64 (x7 + 1))) else (if 0 ≤ x5 then (if x5 < (x0.size : Int) then (if 0 ≤ x7 then ((parallaxref1_is.f k (bt x0 x5) (rd x1 x7)).bind fun t221 => (parallaxref1_All.l1 k x0 x1 x5 t221 (wrap64 (x7 + 1)))) else (none)) else (none)) else (none))) else (if x6 = true then (parallaxref1_All.l0 k x0 x1 (wrap64 (x5 + 1))) else (some false))
end
def parallaxref1_All.f (k : Nat) (a0 : ByteArray) (l1 : List Int) : Option (Bool) := parallaxref1_All.l0 k a0 l1 0
theorem parallaxref1_All.mono_l : ∀ k, (∀ y0 y1 y2, LeO (parallaxref1_All.l0 k y0 y1 y2) (parallaxref1_All.l0 (k + 1) y0 y1 y2)) ∧ (∀ y0 y1 y2 y3 y4, LeO (parallaxref1_All.l1 k y0 y1 y2 y3 y4) (parallaxref1_All.l1 (k + 1) y0 y1 y2 y3 y4))
 | 0 => ⟨fun _ _ _ r h => by simp [parallaxref1_All.l0] at h, fun _ _ _ _ _ r h => by simp [parallaxref1_All.l1] at h⟩
 | k + 1 => by
  obtain ⟨ih0, ih1⟩ := parallaxref1_All.mono_l k
  refine ⟨?_, ?_⟩
  ·intro y0 y1 y2
   unfold parallaxref1_All.l0
   repeat' first
   | (with_reducible exact ih0 _ _ _)
   | (with_reducible exact ih1 _ _ _ _ _)
   | (with_reducible exact parallaxref1_is.mono _ _ _)
   | (with_reducible exact LeO.refl _)
   | (with_reducible exact LeO.none _)
   | (with_reducible refine LeO.ite ?_ ?_)
   | (with_reducible refine LeO.bind ?_ (fun _ => ?_))
   | exact ih0 _ _ _
   | exact ih1 _ _ _ _ _
   | exact parallaxref1_is.mono _ _ _
   | exact LeO.none _
   | refine LeO.ite ?_ ?_
   | refine LeO.bind ?_ (fun _ => ?_)
  ·intro y0 y1 y2 y3 y4
   unfold parallaxref1_All.l1
   repeat' first
   | (with_reducible exact ih0 _ _ _)
   | (with_reducible exact ih1 _ _ _ _ _)
   | (with_reducible exact parallaxref1_is.mono _ _ _)
   | (with_reducible exact LeO.refl _)
   | (with_reducible exact LeO.none _)
   | (with_reducible refine LeO.ite ?_ ?_)
   | (with_reducible refine LeO.bind ?_ (fun _ => ?_))
   | exact ih0 _ _ _
   | exact ih1 _ _ _ _ _
   | exact parallaxref1_is.mono _ _ _
   | exact LeO.none _
   | refine LeO.ite ?_ ?_
   | refine LeO.bind ?_ (fun _ => ?_)
theorem parallaxref1_All.mono : ∀ a0 a1 k, LeO (parallaxref1_All.f k a0 a1) (parallaxref1_All.f (k + 1) a0 a1) := by
 intro a0 a1 k
 obtain ⟨ih0, ih1⟩ := parallaxref1_All.mono_l k
 unfold parallaxref1_All.f
 repeat' first
   | (with_reducible exact ih0 _ _ _)
   | (with_reducible exact ih1 _ _ _ _ _)
   | (with_reducible exact parallaxref1_is.mono _ _ _)
   | (with_reducible exact LeO.refl _)
   | (with_reducible exact LeO.none _)
   | (with_reducible refine LeO.ite ?_ ?_)
   | (with_reducible refine LeO.bind ?_ (fun _ => ?_))
   | exact ih0 _ _ _
   | exact ih1 _ _ _ _ _
   | exact parallaxref1_is.mono _ _ _
   | exact LeO.none _
   | refine LeO.ite ?_ ?_
   | refine LeO.bind ?_ (fun _ => ?_)
set_option maxHeartbeats 8000000 in
set_option maxRecDepth 100000 in
theorem parallaxref1_All.calls (k : Nat) (a0 : ByteArray) (A1 : Option Addr) (c1 : Nat) (l1 : List Int) (r : Bool) (w : World) (hr1 : Kd.C (Kd.int .i64) w A1 l1.length l1) (hc1 : l1.length ≤ c1) (h : parallaxref1_All.f k a0 l1 = some r) :
  Calls Tryd.prog 39 #[.string a0, .slice A1 l1.length c1] w fun e w' => e = .returned (.bool r) ∧ Drawn0 w w' := by
 have HR1 := Aside0.mk hr1
 have HC1 := Aside0.mk hc1
 clear hr1 hc1
 have H : (parallaxref1_All.l0 k a0 l1 0) = some r := h
 clear h
 have H' := Aside0.mk H
 clear H
 go_enter Tryd.func39, Tryd.ntmps39
 go_wp2
 repeat (go_quiet (fail); try go_wp2)
 go_loopg [5] k (fun kq v5 w' => ∃ (x5_1 : Int), v5 = .int .i64 x5_1 ∧ Aside0 (parallaxref1_All.l0 kq a0 l1 x5_1 = some r) ∧ Aside0 (kq ≤ k) ∧ Drawn0 w w')
 case atStart => exact ⟨(0), (by first | rfl | (simp; done) | (simp [*]; done)), H', ⟨Nat.le_refl _⟩, by repeat (first | exact Drawn0.refl _ | apply Drawn0.step)⟩
 case round =>
  clear H'
  try clear c1
  try clear p2
  obtain ⟨x5_1, rfl, HA, HK1, ⟨m1, rfl⟩⟩ := hrel
  cases gk with
  | zero => exact absurd HA.out (by simp [parallaxref1_All.l0])
  | succ k1 =>
   have H := HA.out
   clear HA
   simp only [parallaxref1_All.l0] at H
   by_cases c3 : x5_1 < (a0.size : Int)
   ·rw [if_pos c3] at H
    have c3b0 : decide (x5_1 < (a0.size : Int)) = true := decide_eq_true c3
    clear c3
    have H' := Aside0.mk H
    clear H
    go_wp2
    repeat (go_quiet (fail); try go_wp2)
    go_loopg [6, 7] k1 (fun kq v6 v7 w' => ∃ (x6_2 : Bool) (x7_2 : Int), v6 = .bool x6_2 ∧ v7 = .int .i64 x7_2 ∧ Aside0 (parallaxref1_All.l1 kq a0 l1 x5_1 x6_2 x7_2 = some r) ∧ Aside0 (kq ≤ k1) ∧ Drawn0 w w')
    case atStart => exact ⟨(false), (0), (by first | rfl | (simp; done) | (simp [*]; done)), (by first | rfl | (simp; done) | (simp [*]; done)), H', ⟨Nat.le_refl _⟩, by repeat (first | exact Drawn0.refl _ | apply Drawn0.step)⟩
    case round =>
     clear H'
     try clear c1
     try clear p2
     try clear c3
     try clear c3b0
     try clear p2
     obtain ⟨x6_2, x7_2, rfl, rfl, HA, HK2, ⟨m2, rfl⟩⟩ := hrel
     cases gk with
     | zero => exact absurd HA.out (by simp [parallaxref1_All.l1])
     | succ k2 =>
      have H := HA.out
      clear HA
      simp only [parallaxref1_All.l1] at H
      by_cases c4 : x7_2 < (l1.length : Int)
      ·rw [if_pos c4] at H
       have c4b0 : decide (x7_2 < (l1.length : Int)) = true := decide_eq_true c4
       clear c4
       by_cases c5 : x6_2 = true
       ·subst c5
        have H1 : (parallaxref1_All.l1 k2 a0 l1 x5_1 true (wrap64 (x7_2 + 1))) = some r := by rw [if_pos rfl] at H; exact H
        clear H
        have H := H1
        clear H1
        have H' := Aside0.mk H
        clear H
        go_wp2
        repeat (go_quiet (fail); try go_wp2)
        go_roundg k2
        case measure => have := HK1.out; have := HK2.out; omega
        case rel => exact ⟨(true), (wrap64 (x7_2 + 1)), (by first | rfl | (simp; done) | (simp [*]; done)), (by first | rfl | (simp; done) | (simp [*]; done)), H', ⟨by have := HK1.out; have := HK2.out; omega⟩, by repeat (first | exact Drawn0.refl _ | apply Drawn0.step)⟩
       ·replace c5 := Bool.eq_false_iff.mpr c5
        subst c5
        have H1 : (if 0 ≤ x5_1 then (if x5_1 < (a0.size : Int) then (if 0 ≤ x7_2 then ((parallaxref1_is.f k2 (bt a0 x5_1) (rd l1 x7_2)).bind fun t221 => (parallaxref1_All.l1 k2 a0 l1 x5_1 t221 (wrap64 (x7_2 + 1)))) else (none)) else (none)) else (none)) = some r := by rw [if_neg (show ¬ (false = true) by decide)] at H; exact H
        clear H
        have H := H1
        clear H1
        by_cases c6 : 0 ≤ x5_1
        ·rw [if_pos c6] at H
         have c6b0 : decide (0 ≤ x5_1) = true := decide_eq_true c6
         clear c6
         by_cases c7 : x5_1 < (a0.size : Int)
         ·rw [if_pos c7] at H
          have c7b0 : decide (x5_1 < (a0.size : Int)) = true := decide_eq_true c7
          clear c7
          by_cases c9 : 0 ≤ x7_2
          ·rw [if_pos c9] at H
           have c9b0 : decide (0 ≤ x7_2) = true := decide_eq_true c9
           clear c9
           replace H := Option.bind_eq_some_iff.mp H
           obtain ⟨t221, A100, H⟩ := H
           replace H : (parallaxref1_All.l1 k2 a0 l1 x5_1 t221 (wrap64 (x7_2 + 1))) = some r := H
           have A10 := Aside0.mk A100
           clear A100
           have H' := Aside0.mk H
           clear H
           have p8 : 0 ≤ (x5_1 : Int) := of_decide_eq_true (by first | (with_reducible assumption) | assumption)
           have q8 : x5_1 < (a0.size : Int) := of_decide_eq_true (by first | (with_reducible assumption) | assumption)
           have hx8 := bt_at a0 x5_1
           replace p8 := eq_true p8
           replace q8 := eq_true q8
           have p220 : 0 ≤ (x7_2 : Int) := of_decide_eq_true (by first | (with_reducible assumption) | assumption)
           have q220 : x7_2 < (l1.length : Int) := of_decide_eq_true (by first | (with_reducible assumption) | assumption)
           obtain ⟨ad220, e220, hx220_0⟩ := Kd.at_int HR1.out x7_2 p220 q220
           cases e220
           replace p220 := eq_true p220
           replace q220 := eq_true q220
           go_wp2_with (first | (go_at_call 49; (with_reducible refine (parallaxref1_is.calls k2 (bt a0 x5_1) (rd l1 x7_2) t221 _ A10.out).mono ?_); rintro e w' ⟨rfl, ⟨nd, rfl⟩⟩; (try first | exact ⟨rfl, _, World.drewN_drewN _ _ _⟩ | exact ⟨rfl, _, Eq.trans (World.drewN_drewN _ _ _) (congrArg (World.drewN _) (Nat.add_assoc _ _ _))⟩)))
           repeat (go_quiet (first | (go_at_call 49; (with_reducible refine (parallaxref1_is.calls k2 (bt a0 x5_1) (rd l1 x7_2) t221 _ A10.out).mono ?_); rintro e w' ⟨rfl, ⟨nd, rfl⟩⟩; (try first | exact ⟨rfl, _, World.drewN_drewN _ _ _⟩ | exact ⟨rfl, _, Eq.trans (World.drewN_drewN _ _ _) (congrArg (World.drewN _) (Nat.add_assoc _ _ _))⟩))); try go_wp2_with (first | (go_at_call 49; (with_reducible refine (parallaxref1_is.calls k2 (bt a0 x5_1) (rd l1 x7_2) t221 _ A10.out).mono ?_); rintro e w' ⟨rfl, ⟨nd, rfl⟩⟩; (try first | exact ⟨rfl, _, World.drewN_drewN _ _ _⟩ | exact ⟨rfl, _, Eq.trans (World.drewN_drewN _ _ _) (congrArg (World.drewN _) (Nat.add_assoc _ _ _))⟩))))
           go_roundg k2
           case measure => have := HK1.out; have := HK2.out; omega
           case rel => exact ⟨(t221), (wrap64 (x7_2 + 1)), (by first | rfl | (simp; done) | (simp [*]; done)), (by first | rfl | (simp; done) | (simp [*]; done)), H', ⟨by have := HK1.out; have := HK2.out; omega⟩, by repeat (first | exact Drawn0.refl _ | apply Drawn0.step)⟩
          ·rw [if_neg c9] at H
           exact absurd H (by simp)
         ·rw [if_neg c7] at H
          exact absurd H (by simp)
        ·rw [if_neg c6] at H
         exact absurd H (by simp)
      ·rw [if_neg c4] at H
       have c4b0 : decide (x7_2 < (l1.length : Int)) = false := decide_eq_false c4
       clear c4
       by_cases c11 : x6_2 = true
       ·subst c11
        have H1 : (parallaxref1_All.l0 k2 a0 l1 (wrap64 (x5_1 + 1))) = some r := by rw [if_pos rfl] at H; exact H
        clear H
        have H := H1
        clear H1
        have H' := Aside0.mk H
        clear H
        go_wp2
        repeat (go_quiet (fail); try go_wp2)
        go_roundg k2
        case measure => have := HK1.out; have := HK2.out; omega
        case rel => exact ⟨(wrap64 (x5_1 + 1)), (by first | rfl | (simp; done) | (simp [*]; done)), H', ⟨by have := HK1.out; have := HK2.out; omega⟩, by repeat (first | exact Drawn0.refl _ | apply Drawn0.step)⟩
       ·replace c11 := Bool.eq_false_iff.mpr c11
        subst c11
        have H1 : (some false) = some r := by rw [if_neg (show ¬ (false = true) by decide)] at H; exact H
        clear H
        have H := H1
        clear H1
        obtain rfl := Option.some.inj H
        go_wp2
        repeat (go_quiet (fail); try go_wp2)
        go_ret
        exact ⟨by first | rfl | (simp; done) | (simp [*]; done), by repeat (first | exact Drawn0.refl _ | apply Drawn0.step)⟩
   ·rw [if_neg c3] at H
    have c3b0 : decide (x5_1 < (a0.size : Int)) = false := decide_eq_false c3
    clear c3
    obtain rfl := Option.some.inj H
    go_wp2
    repeat (go_quiet (fail); try go_wp2)
    go_ret
    exact ⟨by first | rfl | (simp; done) | (simp [*]; done), by repeat (first | exact Drawn0.refl _ | apply Drawn0.step)⟩

end Go.Proofs.YtomofacchnmepaaDoor.PRecordCopies
