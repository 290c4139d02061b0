-- Written by a program of this session (wip/tools/myprint.sh)
import Derived.Test.YtclaaacdmaeblaaDoorPRequestExtendsx0
import Derived.Test.YtclaaacdmaeblaaDoorPRequestExtendsx1
import Derived.Test.YtclaaacdmaeblaaDoorPRequestExtendsx2
import Derived.Test.YtclaaacdmaeblaaDoorPRequestExtendsx3
import Derived.Test.YtclaaacdmaeblaaDoorPRequestExtendsx6
namespace Go.Proofs.YtclaaacdmaeblaaDoor.PRequestExtends
open Go.RowKit Go.Proofs.YtclaaacdmaeblaaDoorW.PrintWords Go.Proofs.YtclaaacdmaeblaaDoorW.PrintLast Go.Proofs.YtclaaacdmaeblaaDoorW.PrintMore
attribute [local go_sem] max2_int min2_int max_two min_two max_three min_three max_four min_four   -- for this text's walks alone
set_option linter.unusedVariables false
set_option linter.unusedSimpArgs false

/-! ### request_goes: function 20 -/
def request_goes.l0 : Nat → ByteArray → ByteArray → Bool → Bool → Int → Int → Option (Bool)
  | 0, _, _, _, _, _, _ => none
  | k + 1, x0, x1, x7, x8, x18, x19 => if x19 < x18 then (if 0 ≤ x19 then (if x19 < (x1.size : Int) then ((octet_Visible.f (bt x1 x19)).bind fun t230 => (if t230 = true then (request_goes.l0 k x0 x1 x7 x8 x18 (wrap64 (x19 + 1))) else (if x7 = true then ((octet_Blank.f (bt x1 x19)).bind fun t231 => (if t231 = true then (request_goes.l0 k x0 x1 x7 x8 x18 (wrap64 (x19 + 1))) else (if x8 = true then ((octet_Control.f (bt x1 x19)).bind fun t232 => (if t232 = true then (request_goes.l0 k x0 x1 x7 x8 x18 (wrap64 (x19 + 1))) else (some false))) else (some false)))) else (if x8 = true then ((octet_Control.f (bt x1 x19)).bind fun t233 => (if t233 = true then (request_goes.l0 k x0 x1 x7 x8 x18 (wrap64 (x19 + 1))) else (some false))) else (some false))))) else (none)) else (none)) else (if x1.toList = ([] : List UInt8) then (some (x1.toList != ([] : List UInt8))) else (if x7 = true then (some (x1.toList != ([] : List UInt8))) else (if x8 = true then (some (x1.toList != ([] : List UInt8))) else ((target_Parse.f k x0 x1).bind fun bt223 => (some (bt223.2.2.2.2.2 == 0))))))
def request_goes.f (k : Nat) (a0 : ByteArray) (a1 : ByteArray) (a2 : Int) : Option (Bool) := (quirks_Has.f a2 7).bind fun t221 => ((quirks_Has.f a2 8).bind fun t222 => (request_goes.l0 k a0 a1 t221 t222 (a1.size : Int) 0))
theorem request_goes.mono_l : ∀ k, (∀ y0 y1 y2 y3 y4 y5, LeO (request_goes.l0 k y0 y1 y2 y3 y4 y5) (request_goes.l0 (k + 1) y0 y1 y2 y3 y4 y5))
  | 0 => fun _ _ _ _ _ _ r h => by simp [request_goes.l0] at h
  | k + 1 => by
    have ih0 := request_goes.mono_l k
    · intro y0 y1 y2 y3 y4 y5
      unfold request_goes.l0
      repeat' first
      | (with_reducible exact ih0 _ _ _ _ _ _)
      | (with_reducible exact target_Parse.mono _ _ _)
      | (with_reducible exact LeO.refl _)
      | (with_reducible exact LeO.none _)
      | (with_reducible refine LeO.ite ?_ ?_)
      | (with_reducible refine LeO.bind ?_ (fun _ => ?_))
      | exact ih0 _ _ _ _ _ _
      | exact target_Parse.mono _ _ _
      | exact LeO.none _
      | refine LeO.ite ?_ ?_
      | refine LeO.bind ?_ (fun _ => ?_)
theorem request_goes.mono : ∀ a0 a1 a2 k, LeO (request_goes.f k a0 a1 a2) (request_goes.f (k + 1) a0 a1 a2) := by
  intro a0 a1 a2 k
  have ih0 := request_goes.mono_l k
  unfold request_goes.f
  repeat' first
      | (with_reducible exact ih0 _ _ _ _ _ _)
      | (with_reducible exact target_Parse.mono _ _ _)
      | (with_reducible exact LeO.refl _)
      | (with_reducible exact LeO.none _)
      | (with_reducible refine LeO.ite ?_ ?_)
      | (with_reducible refine LeO.bind ?_ (fun _ => ?_))
      | exact ih0 _ _ _ _ _ _
      | exact target_Parse.mono _ _ _
      | exact LeO.none _
      | refine LeO.ite ?_ ?_
      | refine LeO.bind ?_ (fun _ => ?_)
set_option maxHeartbeats 8000000 in
set_option maxRecDepth 100000 in
theorem request_goes.calls (k : Nat) (a0 : ByteArray) (a1 : ByteArray) (a2 : Int) (r : Bool) (w : World) (h : request_goes.f k a0 a1 a2 = some r) :
    Calls Tryd.prog 20 #[.string a0, .string a1, .int .u32 a2] w fun e w' => e = .returned (.bool r) ∧ Below w.heap.size w w' := by
  have hu59 := Tryd.underlying59
  have HB := Aside0.mk (Below.refl w.heap.size w)
  have H : ((quirks_Has.f a2 7).bind fun t221 => ((quirks_Has.f a2 8).bind fun t222 => (request_goes.l0 k a0 a1 t221 t222 (a1.size : Int) 0))) = some r := h
  clear h
  replace H := Option.bind_eq_some_iff.mp H
  obtain ⟨t221, A40, H⟩ := H
  replace H : ((quirks_Has.f a2 8).bind fun t222 => (request_goes.l0 k a0 a1 t221 t222 (a1.size : Int) 0)) = some r := H
  have A4 := Aside0.mk A40
  clear A40
  replace H := Option.bind_eq_some_iff.mp H
  obtain ⟨t222, A50, H⟩ := H
  replace H : (request_goes.l0 k a0 a1 t221 t222 (a1.size : Int) 0) = some r := H
  have A5 := Aside0.mk A50
  clear A50
  have H' := Aside0.mk H
  clear H
  go_enter Tryd.func20, Tryd.ntmps20
  go_wp2_with (first | ((with_reducible refine gate_callee (f := 29) rfl ?_); refine goesL_ (some 14) rfl rfl Tryd.func29 (by kernel_rfl) rfl #[.int .u32 a2, .int .i64 7] rfl (by (try simp only [List.map_toArray, List.map_cons, List.map_nil]); first | done | rfl | (simp only [List.length_drop, List.length_take]; rfl)) ?_; (with_reducible refine (quirks_Has.calls a2 7 t221 _ A4.out).mono ?_); rintro e w' ⟨rfl, ⟨nd, rfl⟩⟩; refine ⟨_, rfl, ?_⟩) | ((with_reducible refine gate_callee (f := 29) rfl ?_); refine goesL_ (some 16) rfl rfl Tryd.func29 (by kernel_rfl) rfl #[.int .u32 a2, .int .i64 8] rfl (by (try simp only [List.map_toArray, List.map_cons, List.map_nil]); first | done | rfl | (simp only [List.length_drop, List.length_take]; rfl)) ?_; (with_reducible refine (quirks_Has.calls a2 8 t222 _ A5.out).mono ?_); rintro e w' ⟨rfl, ⟨nd, rfl⟩⟩; refine ⟨_, rfl, ?_⟩))
  go_loopg [19] k (fun kq v19 w' => ∃ (x19_1 : Int), v19 = .int .i64 x19_1 ∧ Aside0 (request_goes.l0 kq a0 a1 t221 t222 (a1.size : Int) x19_1 = some r) ∧ Aside0 (kq ≤ k) ∧ Aside0 (Below w.heap.size w w'))
  case atStart => exact ⟨(0), (by first | rfl | (simp; done) | (simp [*]; done)), H', ⟨Nat.le_refl _⟩, ⟨by repeat (first | (with_reducible first | exact HB.out | apply below_alloc | apply pw_below_drewN | apply below_drew1) | exact HB.out)⟩⟩
  case round =>
    clear H'
    try clear c2
    try clear p2
    obtain ⟨x19_1, rfl, HA, HK1, HB⟩ := hrel
    cases gk with
    | zero => exact absurd HA.out (by simp [request_goes.l0])
    | succ k1 =>
      have H := HA.out
      clear HA
      simp only [request_goes.l0] at H
      by_cases c6 : x19_1 < (a1.size : Int)
      · rw [if_pos c6] at H
        have c6b0 : decide (x19_1 < (a1.size : Int)) = true := decide_eq_true c6
        clear c6
        by_cases c7 : 0 ≤ x19_1
        · rw [if_pos c7] at H
          have c7b0 : decide (0 ≤ x19_1) = true := decide_eq_true c7
          clear c7
          by_cases c8 : x19_1 < (a1.size : Int)
          · rw [if_pos c8] at H
            have c8b0 : decide (x19_1 < (a1.size : Int)) = true := decide_eq_true c8
            clear c8
            replace H := Option.bind_eq_some_iff.mp H
            obtain ⟨t230, A100, H⟩ := H
            replace H : (if t230 = true then (request_goes.l0 k1 a0 a1 t221 t222 (a1.size : Int) (wrap64 (x19_1 + 1))) else (if t221 = true then ((octet_Blank.f (bt a1 x19_1)).bind fun t231 => (if t231 = true then (request_goes.l0 k1 a0 a1 t221 t222 (a1.size : Int) (wrap64 (x19_1 + 1))) else (if t222 = true then ((octet_Control.f (bt a1 x19_1)).bind fun t232 => (if t232 = true then (request_goes.l0 k1 a0 a1 t221 t222 (a1.size : Int) (wrap64 (x19_1 + 1))) else (some false))) else (some false)))) else (if t222 = true then ((octet_Control.f (bt a1 x19_1)).bind fun t233 => (if t233 = true then (request_goes.l0 k1 a0 a1 t221 t222 (a1.size : Int) (wrap64 (x19_1 + 1))) else (some false))) else (some false)))) = some r := H
            have A10 := Aside0.mk A100
            clear A100
            by_cases c11 : t230 = true
            · subst c11
              have H1 : (request_goes.l0 k1 a0 a1 t221 t222 (a1.size : Int) (wrap64 (x19_1 + 1))) = some r := by rw [if_pos rfl] at H; exact H
              clear H
              have H := H1
              clear H1
              have H' := Aside0.mk H
              clear H
              have p9 : 0 ≤ (x19_1 : Int) := of_decide_eq_true (by first | (with_reducible assumption) | assumption)
              have q9 : x19_1 < (a1.size : Int) := of_decide_eq_true (by first | (with_reducible assumption) | assumption)
              have hx9 := bt_at a1 x19_1
              replace p9 := eq_true p9
              replace q9 := eq_true q9
              go_wp2_with (first | ((with_reducible refine gate_callee (f := 35) rfl ?_); refine goesL_ (some 26) rfl rfl Tryd.func35 (by kernel_rfl) rfl #[.int .u8 (bt a1 x19_1)] rfl (by (try simp only [List.map_toArray, List.map_cons, List.map_nil]); first | done | rfl | (simp only [List.length_drop, List.length_take]; rfl)) ?_; (with_reducible refine (octet_Visible.calls (bt a1 x19_1) true _ A10.out).mono ?_); rintro e w' ⟨rfl, ⟨nd, rfl⟩⟩; refine ⟨_, rfl, ?_⟩))
              go_roundg k1
              case measure => have := HK1.out; omega
              case rel => exact ⟨(wrap64 (x19_1 + 1)), (by first | rfl | (simp; done) | (simp [*]; done)), H', ⟨by have := HK1.out; omega⟩, ⟨by repeat (first | (with_reducible first | exact HB.out | apply below_alloc | apply pw_below_drewN | apply below_drew1) | exact HB.out)⟩⟩
            · replace c11 := Bool.eq_false_iff.mpr c11
              subst c11
              have H1 : (if t221 = true then ((octet_Blank.f (bt a1 x19_1)).bind fun t231 => (if t231 = true then (request_goes.l0 k1 a0 a1 t221 t222 (a1.size : Int) (wrap64 (x19_1 + 1))) else (if t222 = true then ((octet_Control.f (bt a1 x19_1)).bind fun t232 => (if t232 = true then (request_goes.l0 k1 a0 a1 t221 t222 (a1.size : Int) (wrap64 (x19_1 + 1))) else (some false))) else (some false)))) else (if t222 = true then ((octet_Control.f (bt a1 x19_1)).bind fun t233 => (if t233 = true then (request_goes.l0 k1 a0 a1 t221 t222 (a1.size : Int) (wrap64 (x19_1 + 1))) else (some false))) else (some false))) = some r := by rw [if_neg (show ¬ (false = true) by decide)] at H; exact H
              clear H
              have H := H1
              clear H1
              by_cases c12 : t221 = true
              · subst c12
                have H1 : ((octet_Blank.f (bt a1 x19_1)).bind fun t231 => (if t231 = true then (request_goes.l0 k1 a0 a1 true t222 (a1.size : Int) (wrap64 (x19_1 + 1))) else (if t222 = true then ((octet_Control.f (bt a1 x19_1)).bind fun t232 => (if t232 = true then (request_goes.l0 k1 a0 a1 true t222 (a1.size : Int) (wrap64 (x19_1 + 1))) else (some false))) else (some false)))) = some r := by rw [if_pos rfl] at H; exact H
                clear H
                have H := H1
                clear H1
                replace H := Option.bind_eq_some_iff.mp H
                obtain ⟨t231, A130, H⟩ := H
                replace H : (if t231 = true then (request_goes.l0 k1 a0 a1 true t222 (a1.size : Int) (wrap64 (x19_1 + 1))) else (if t222 = true then ((octet_Control.f (bt a1 x19_1)).bind fun t232 => (if t232 = true then (request_goes.l0 k1 a0 a1 true t222 (a1.size : Int) (wrap64 (x19_1 + 1))) else (some false))) else (some false))) = some r := H
                have A13 := Aside0.mk A130
                clear A130
                by_cases c14 : t231 = true
                · subst c14
                  have H1 : (request_goes.l0 k1 a0 a1 true t222 (a1.size : Int) (wrap64 (x19_1 + 1))) = some r := by rw [if_pos rfl] at H; exact H
                  clear H
                  have H := H1
                  clear H1
                  have H' := Aside0.mk H
                  clear H
                  have p9 : 0 ≤ (x19_1 : Int) := of_decide_eq_true (by first | (with_reducible assumption) | assumption)
                  have q9 : x19_1 < (a1.size : Int) := of_decide_eq_true (by first | (with_reducible assumption) | assumption)
                  have hx9 := bt_at a1 x19_1
                  replace p9 := eq_true p9
                  replace q9 := eq_true q9
                  go_wp2_with (first | ((with_reducible refine gate_callee (f := 35) rfl ?_); refine goesL_ (some 26) rfl rfl Tryd.func35 (by kernel_rfl) rfl #[.int .u8 (bt a1 x19_1)] rfl (by (try simp only [List.map_toArray, List.map_cons, List.map_nil]); first | done | rfl | (simp only [List.length_drop, List.length_take]; rfl)) ?_; (with_reducible refine (octet_Visible.calls (bt a1 x19_1) false _ A10.out).mono ?_); rintro e w' ⟨rfl, ⟨nd, rfl⟩⟩; refine ⟨_, rfl, ?_⟩) | (go_at_call 36; (with_reducible refine (octet_Blank.calls (bt a1 x19_1) true _ A13.out).mono ?_); rintro e w' ⟨rfl, ⟨nd, rfl⟩⟩))
                  go_roundg k1
                  case measure => have := HK1.out; omega
                  case rel => exact ⟨(wrap64 (x19_1 + 1)), (by first | rfl | (simp; done) | (simp [*]; done)), H', ⟨by have := HK1.out; omega⟩, ⟨by repeat (first | (with_reducible first | exact HB.out | apply below_alloc | apply pw_below_drewN | apply below_drew1) | exact HB.out)⟩⟩
                · replace c14 := Bool.eq_false_iff.mpr c14
                  subst c14
                  have H1 : (if t222 = true then ((octet_Control.f (bt a1 x19_1)).bind fun t232 => (if t232 = true then (request_goes.l0 k1 a0 a1 true t222 (a1.size : Int) (wrap64 (x19_1 + 1))) else (some false))) else (some false)) = some r := by rw [if_neg (show ¬ (false = true) by decide)] at H; exact H
                  clear H
                  have H := H1
                  clear H1
                  by_cases c15 : t222 = true
                  · subst c15
                    have H1 : ((octet_Control.f (bt a1 x19_1)).bind fun t232 => (if t232 = true then (request_goes.l0 k1 a0 a1 true true (a1.size : Int) (wrap64 (x19_1 + 1))) else (some false))) = some r := by rw [if_pos rfl] at H; exact H
                    clear H
                    have H := H1
                    clear H1
                    replace H := Option.bind_eq_some_iff.mp H
                    obtain ⟨t232, A160, H⟩ := H
                    replace H : (if t232 = true then (request_goes.l0 k1 a0 a1 true true (a1.size : Int) (wrap64 (x19_1 + 1))) else (some false)) = some r := H
                    have A16 := Aside0.mk A160
                    clear A160
                    by_cases c17 : t232 = true
                    · subst c17
                      have H1 : (request_goes.l0 k1 a0 a1 true true (a1.size : Int) (wrap64 (x19_1 + 1))) = some r := by rw [if_pos rfl] at H; exact H
                      clear H
                      have H := H1
                      clear H1
                      have H' := Aside0.mk H
                      clear H
                      have p9 : 0 ≤ (x19_1 : Int) := of_decide_eq_true (by first | (with_reducible assumption) | assumption)
                      have q9 : x19_1 < (a1.size : Int) := of_decide_eq_true (by first | (with_reducible assumption) | assumption)
                      have hx9 := bt_at a1 x19_1
                      replace p9 := eq_true p9
                      replace q9 := eq_true q9
                      go_wp2_with (first | ((with_reducible refine gate_callee (f := 35) rfl ?_); refine goesL_ (some 26) rfl rfl Tryd.func35 (by kernel_rfl) rfl #[.int .u8 (bt a1 x19_1)] rfl (by (try simp only [List.map_toArray, List.map_cons, List.map_nil]); first | done | rfl | (simp only [List.length_drop, List.length_take]; rfl)) ?_; (with_reducible refine (octet_Visible.calls (bt a1 x19_1) false _ A10.out).mono ?_); rintro e w' ⟨rfl, ⟨nd, rfl⟩⟩; refine ⟨_, rfl, ?_⟩) | (go_at_call 36; (with_reducible refine (octet_Blank.calls (bt a1 x19_1) false _ A13.out).mono ?_); rintro e w' ⟨rfl, ⟨nd, rfl⟩⟩) | (go_at_call 37; (with_reducible refine (octet_Control.calls (bt a1 x19_1) true _ A16.out).mono ?_); rintro e w' ⟨rfl, ⟨nd, rfl⟩⟩))
                      go_roundg k1
                      case measure => have := HK1.out; omega
                      case rel => exact ⟨(wrap64 (x19_1 + 1)), (by first | rfl | (simp; done) | (simp [*]; done)), H', ⟨by have := HK1.out; omega⟩, ⟨by repeat (first | (with_reducible first | exact HB.out | apply below_alloc | apply pw_below_drewN | apply below_drew1) | exact HB.out)⟩⟩
                    · replace c17 := Bool.eq_false_iff.mpr c17
                      subst c17
                      have H1 : (some false) = some r := by rw [if_neg (show ¬ (false = true) by decide)] at H; exact H
                      clear H
                      have H := H1
                      clear H1
                      obtain rfl := Option.some.inj H
                      have p9 : 0 ≤ (x19_1 : Int) := of_decide_eq_true (by first | (with_reducible assumption) | assumption)
                      have q9 : x19_1 < (a1.size : Int) := of_decide_eq_true (by first | (with_reducible assumption) | assumption)
                      have hx9 := bt_at a1 x19_1
                      replace p9 := eq_true p9
                      replace q9 := eq_true q9
                      go_wp2_with (first | ((with_reducible refine gate_callee (f := 35) rfl ?_); refine goesL_ (some 26) rfl rfl Tryd.func35 (by kernel_rfl) rfl #[.int .u8 (bt a1 x19_1)] rfl (by (try simp only [List.map_toArray, List.map_cons, List.map_nil]); first | done | rfl | (simp only [List.length_drop, List.length_take]; rfl)) ?_; (with_reducible refine (octet_Visible.calls (bt a1 x19_1) false _ A10.out).mono ?_); rintro e w' ⟨rfl, ⟨nd, rfl⟩⟩; refine ⟨_, rfl, ?_⟩) | (go_at_call 36; (with_reducible refine (octet_Blank.calls (bt a1 x19_1) false _ A13.out).mono ?_); rintro e w' ⟨rfl, ⟨nd, rfl⟩⟩) | (go_at_call 37; (with_reducible refine (octet_Control.calls (bt a1 x19_1) false _ A16.out).mono ?_); rintro e w' ⟨rfl, ⟨nd, rfl⟩⟩))
                      go_ret
                      exact ⟨by first | rfl | (simp [errW_none, errW_some] <;> rfl) | (simp [*, errW_none, errW_some] <;> rfl), by repeat (first | (with_reducible first | exact HB.out | apply below_alloc | apply pw_below_drewN | apply below_drew1) | exact HB.out)⟩
                  · replace c15 := Bool.eq_false_iff.mpr c15
                    subst c15
                    have H1 : (some false) = some r := by rw [if_neg (show ¬ (false = true) by decide)] at H; exact H
                    clear H
                    have H := H1
                    clear H1
                    obtain rfl := Option.some.inj H
                    have p9 : 0 ≤ (x19_1 : Int) := of_decide_eq_true (by first | (with_reducible assumption) | assumption)
                    have q9 : x19_1 < (a1.size : Int) := of_decide_eq_true (by first | (with_reducible assumption) | assumption)
                    have hx9 := bt_at a1 x19_1
                    replace p9 := eq_true p9
                    replace q9 := eq_true q9
                    go_wp2_with (first | ((with_reducible refine gate_callee (f := 35) rfl ?_); refine goesL_ (some 26) rfl rfl Tryd.func35 (by kernel_rfl) rfl #[.int .u8 (bt a1 x19_1)] rfl (by (try simp only [List.map_toArray, List.map_cons, List.map_nil]); first | done | rfl | (simp only [List.length_drop, List.length_take]; rfl)) ?_; (with_reducible refine (octet_Visible.calls (bt a1 x19_1) false _ A10.out).mono ?_); rintro e w' ⟨rfl, ⟨nd, rfl⟩⟩; refine ⟨_, rfl, ?_⟩) | (go_at_call 36; (with_reducible refine (octet_Blank.calls (bt a1 x19_1) false _ A13.out).mono ?_); rintro e w' ⟨rfl, ⟨nd, rfl⟩⟩))
                    go_ret
                    exact ⟨by first | rfl | (simp [errW_none, errW_some] <;> rfl) | (simp [*, errW_none, errW_some] <;> rfl), by repeat (first | (with_reducible first | exact HB.out | apply below_alloc | apply pw_below_drewN | apply below_drew1) | exact HB.out)⟩
              · replace c12 := Bool.eq_false_iff.mpr c12
                subst c12
                have H1 : (if t222 = true then ((octet_Control.f (bt a1 x19_1)).bind fun t233 => (if t233 = true then (request_goes.l0 k1 a0 a1 false t222 (a1.size : Int) (wrap64 (x19_1 + 1))) else (some false))) else (some false)) = some r := by rw [if_neg (show ¬ (false = true) by decide)] at H; exact H
                clear H
                have H := H1
                clear H1
                by_cases c18 : t222 = true
                · subst c18
                  have H1 : ((octet_Control.f (bt a1 x19_1)).bind fun t233 => (if t233 = true then (request_goes.l0 k1 a0 a1 false true (a1.size : Int) (wrap64 (x19_1 + 1))) else (some false))) = some r := by rw [if_pos rfl] at H; exact H
                  clear H
                  have H := H1
                  clear H1
                  replace H := Option.bind_eq_some_iff.mp H
                  obtain ⟨t233, A190, H⟩ := H
                  replace H : (if t233 = true then (request_goes.l0 k1 a0 a1 false true (a1.size : Int) (wrap64 (x19_1 + 1))) else (some false)) = some r := H
                  have A19 := Aside0.mk A190
                  clear A190
                  by_cases c20 : t233 = true
                  · subst c20
                    have H1 : (request_goes.l0 k1 a0 a1 false true (a1.size : Int) (wrap64 (x19_1 + 1))) = some r := by rw [if_pos rfl] at H; exact H
                    clear H
                    have H := H1
                    clear H1
                    have H' := Aside0.mk H
                    clear H
                    have p9 : 0 ≤ (x19_1 : Int) := of_decide_eq_true (by first | (with_reducible assumption) | assumption)
                    have q9 : x19_1 < (a1.size : Int) := of_decide_eq_true (by first | (with_reducible assumption) | assumption)
                    have hx9 := bt_at a1 x19_1
                    replace p9 := eq_true p9
                    replace q9 := eq_true q9
                    go_wp2_with (first | ((with_reducible refine gate_callee (f := 35) rfl ?_); refine goesL_ (some 26) rfl rfl Tryd.func35 (by kernel_rfl) rfl #[.int .u8 (bt a1 x19_1)] rfl (by (try simp only [List.map_toArray, List.map_cons, List.map_nil]); first | done | rfl | (simp only [List.length_drop, List.length_take]; rfl)) ?_; (with_reducible refine (octet_Visible.calls (bt a1 x19_1) false _ A10.out).mono ?_); rintro e w' ⟨rfl, ⟨nd, rfl⟩⟩; refine ⟨_, rfl, ?_⟩) | (go_at_call 37; (with_reducible refine (octet_Control.calls (bt a1 x19_1) true _ A19.out).mono ?_); rintro e w' ⟨rfl, ⟨nd, rfl⟩⟩))
                    go_roundg k1
                    case measure => have := HK1.out; omega
                    case rel => exact ⟨(wrap64 (x19_1 + 1)), (by first | rfl | (simp; done) | (simp [*]; done)), H', ⟨by have := HK1.out; omega⟩, ⟨by repeat (first | (with_reducible first | exact HB.out | apply below_alloc | apply pw_below_drewN | apply below_drew1) | exact HB.out)⟩⟩
                  · replace c20 := Bool.eq_false_iff.mpr c20
                    subst c20
                    have H1 : (some false) = some r := by rw [if_neg (show ¬ (false = true) by decide)] at H; exact H
                    clear H
                    have H := H1
                    clear H1
                    obtain rfl := Option.some.inj H
                    have p9 : 0 ≤ (x19_1 : Int) := of_decide_eq_true (by first | (with_reducible assumption) | assumption)
                    have q9 : x19_1 < (a1.size : Int) := of_decide_eq_true (by first | (with_reducible assumption) | assumption)
                    have hx9 := bt_at a1 x19_1
                    replace p9 := eq_true p9
                    replace q9 := eq_true q9
                    go_wp2_with (first | ((with_reducible refine gate_callee (f := 35) rfl ?_); refine goesL_ (some 26) rfl rfl Tryd.func35 (by kernel_rfl) rfl #[.int .u8 (bt a1 x19_1)] rfl (by (try simp only [List.map_toArray, List.map_cons, List.map_nil]); first | done | rfl | (simp only [List.length_drop, List.length_take]; rfl)) ?_; (with_reducible refine (octet_Visible.calls (bt a1 x19_1) false _ A10.out).mono ?_); rintro e w' ⟨rfl, ⟨nd, rfl⟩⟩; refine ⟨_, rfl, ?_⟩) | (go_at_call 37; (with_reducible refine (octet_Control.calls (bt a1 x19_1) false _ A19.out).mono ?_); rintro e w' ⟨rfl, ⟨nd, rfl⟩⟩))
                    go_ret
                    exact ⟨by first | rfl | (simp [errW_none, errW_some] <;> rfl) | (simp [*, errW_none, errW_some] <;> rfl), by repeat (first | (with_reducible first | exact HB.out | apply below_alloc | apply pw_below_drewN | apply below_drew1) | exact HB.out)⟩
                · replace c18 := Bool.eq_false_iff.mpr c18
                  subst c18
                  have H1 : (some false) = some r := by rw [if_neg (show ¬ (false = true) by decide)] at H; exact H
                  clear H
                  have H := H1
                  clear H1
                  obtain rfl := Option.some.inj H
                  have p9 : 0 ≤ (x19_1 : Int) := of_decide_eq_true (by first | (with_reducible assumption) | assumption)
                  have q9 : x19_1 < (a1.size : Int) := of_decide_eq_true (by first | (with_reducible assumption) | assumption)
                  have hx9 := bt_at a1 x19_1
                  replace p9 := eq_true p9
                  replace q9 := eq_true q9
                  go_wp2_with (first | ((with_reducible refine gate_callee (f := 35) rfl ?_); refine goesL_ (some 26) rfl rfl Tryd.func35 (by kernel_rfl) rfl #[.int .u8 (bt a1 x19_1)] rfl (by (try simp only [List.map_toArray, List.map_cons, List.map_nil]); first | done | rfl | (simp only [List.length_drop, List.length_take]; rfl)) ?_; (with_reducible refine (octet_Visible.calls (bt a1 x19_1) false _ A10.out).mono ?_); rintro e w' ⟨rfl, ⟨nd, rfl⟩⟩; refine ⟨_, rfl, ?_⟩))
                  go_ret
                  exact ⟨by first | rfl | (simp [errW_none, errW_some] <;> rfl) | (simp [*, errW_none, errW_some] <;> rfl), by repeat (first | (with_reducible first | exact HB.out | apply below_alloc | apply pw_below_drewN | apply below_drew1) | exact HB.out)⟩
          · rw [if_neg c8] at H
            exact absurd H (by simp)
        · rw [if_neg c7] at H
          exact absurd H (by simp)
      · rw [if_neg c6] at H
        have c6b0 : decide (x19_1 < (a1.size : Int)) = false := decide_eq_false c6
        clear c6
        by_cases c21 : a1.toList = ([] : List UInt8)
        · rw [if_pos c21] at H
          have c21b0 : (a1.toList == ([] : List UInt8)) = true := beq_iff_eq.mpr c21
          have c21b1 : (a1.toList != ([] : List UInt8)) = false := bne_eq_false_iff_eq.mpr c21
          clear c21
          obtain rfl := Option.some.inj H
          go_wp2
          go_ret
          exact ⟨by first | rfl | (simp [errW_none, errW_some] <;> rfl) | (simp [*, errW_none, errW_some] <;> rfl), by repeat (first | (with_reducible first | exact HB.out | apply below_alloc | apply pw_below_drewN | apply below_drew1) | exact HB.out)⟩
        · rw [if_neg c21] at H
          have c21b0 : (a1.toList == ([] : List UInt8)) = false := beq_eq_false_iff_ne.mpr c21
          have c21b1 : (a1.toList != ([] : List UInt8)) = true := bne_iff_ne.mpr c21
          by_cases c22 : t221 = true
          · subst c22
            have H1 : (some (a1.toList != ([] : List UInt8))) = some r := by rw [if_pos rfl] at H; exact H
            clear H
            have H := H1
            clear H1
            obtain rfl := Option.some.inj H
            go_wp2
            go_ret
            exact ⟨by first | rfl | (simp [errW_none, errW_some] <;> rfl) | (simp [*, errW_none, errW_some] <;> rfl), by repeat (first | (with_reducible first | exact HB.out | apply below_alloc | apply pw_below_drewN | apply below_drew1) | exact HB.out)⟩
          · replace c22 := Bool.eq_false_iff.mpr c22
            subst c22
            have H1 : (if t222 = true then (some (a1.toList != ([] : List UInt8))) else ((target_Parse.f k1 a0 a1).bind fun bt223 => (some (bt223.2.2.2.2.2 == 0)))) = some r := by rw [if_neg (show ¬ (false = true) by decide)] at H; exact H
            clear H
            have H := H1
            clear H1
            by_cases c23 : t222 = true
            · subst c23
              have H1 : (some (a1.toList != ([] : List UInt8))) = some r := by rw [if_pos rfl] at H; exact H
              clear H
              have H := H1
              clear H1
              obtain rfl := Option.some.inj H
              go_wp2
              go_ret
              exact ⟨by first | rfl | (simp [errW_none, errW_some] <;> rfl) | (simp [*, errW_none, errW_some] <;> rfl), by repeat (first | (with_reducible first | exact HB.out | apply below_alloc | apply pw_below_drewN | apply below_drew1) | exact HB.out)⟩
            · replace c23 := Bool.eq_false_iff.mpr c23
              subst c23
              have H1 : ((target_Parse.f k1 a0 a1).bind fun bt223 => (some (bt223.2.2.2.2.2 == 0))) = some r := by rw [if_neg (show ¬ (false = true) by decide)] at H; exact H
              clear H
              have H := H1
              clear H1
              replace H := Option.bind_eq_some_iff.mp H
              obtain ⟨⟨t223, t224, t225, t226, t227, t228⟩, A240, H⟩ := H
              replace H : (some (t228 == 0)) = some r := H
              have A24 := Aside0.mk A240
              clear A240
              obtain rfl := Option.some.inj H
              go_wp2_with (first | ((with_reducible refine gate_callee (f := 38) rfl ?_); refine goesL_ (some 58) rfl rfl Tryd.func38 (by kernel_rfl) rfl #[.string a0, .string a1] rfl (by (try simp only [List.map_toArray, List.map_cons, List.map_nil]); first | done | rfl | (simp only [List.length_drop, List.length_take]; rfl)) ?_; (with_reducible refine (target_Parse.calls k1 a0 a1 t223 t224 t225 t226 t227 t228 _ A24.out).mono ?_); rintro e w25 ⟨rfl, hb⟩; refine ⟨_, rfl, ?_⟩; have n0_ := Aside0.mk (below_step (by repeat (first | (with_reducible first | exact HB.out | apply below_alloc | apply pw_below_drewN | apply below_drew1) | exact HB.out)) hb); clear HB; have HB := n0_; clear n0_; (try clear hb); (try clear hb2); (try clear hk); (try clear hi)) | ((with_reducible refine gate_dst (N := 11) rfl ?_); refine box_event ?hg (N := 11) ?hd (cs := #[.int .i64 0, .string (⟨#[]⟩ : ByteArray), .string (⟨#[]⟩ : ByteArray), .string (⟨#[]⟩ : ByteArray), .bool false]) (t := 59) ?hr ?_; (case hd => rfl); (case hg => rfl); (case hr => first | (go_simp; done) | (go_simp; rfl)); intro gb229 hg w26 hbox hb; have n0_ := Aside0.mk (below_step (by repeat (first | (with_reducible first | exact HB.out | apply below_alloc | apply pw_below_drewN | apply below_drew1) | exact HB.out)) hb); have n1_ := Aside0.mk (hbox); have n2_ := Aside0.mk ((by rw [hg]; exact (below_size (by repeat (first | (with_reducible first | exact HB.out | apply below_alloc | apply pw_below_drewN | apply below_drew1) | exact HB.out))) : w.heap.size ≤ gb229)); have n3_ := Aside0.mk ((by rw [hg]; exact (below_size (by repeat (first | (with_reducible first | exact HB.out | apply below_alloc | apply pw_below_drewN | apply below_drew1) | exact HB.out))) : w.heap.size ≤ gb229)); clear HB; have HB := n0_; have BK229 := n1_; have GW229 := n2_; have GE229 := n3_; clear n0_ n1_ n2_ n3_; clear hb hbox hg; have hcz27_0 : w26.cell? ⟨gb229, 0, none⟩ = some (.int .i64 0) := (blk_cell BK229.out 0).trans rfl; have hcz27_1 : w26.cell? ⟨gb229, 1, none⟩ = some (.string (⟨#[]⟩ : ByteArray)) := (blk_cell BK229.out 1).trans rfl; have hcz27_2 : w26.cell? ⟨gb229, 2, none⟩ = some (.string (⟨#[]⟩ : ByteArray)) := (blk_cell BK229.out 2).trans rfl; have hcz27_3 : w26.cell? ⟨gb229, 3, none⟩ = some (.string (⟨#[]⟩ : ByteArray)) := (blk_cell BK229.out 3).trans rfl; have hcz27_4 : w26.cell? ⟨gb229, 4, none⟩ = some (.bool false) := (blk_cell BK229.out 4).trans rfl; have hfz27_0 := blk_frozen BK229.out 0; have hfz27_1 := blk_frozen BK229.out 1; have hfz27_2 := blk_frozen BK229.out 2; have hfz27_3 := blk_frozen BK229.out 3; have hfz27_4 := blk_frozen BK229.out 4))
              go_ret
              exact ⟨by first | rfl | (simp [errW_none, errW_some] <;> rfl) | (simp [*, errW_none, errW_some] <;> rfl), by repeat (first | (with_reducible first | exact HB.out | apply below_alloc | apply pw_below_drewN | apply below_drew1 | refine below_set ?_ GE229.out) | exact HB.out)⟩

/-! ### request_minor: function 21 -/
def request_minor.j0 : Nat → ByteArray → Int → Bool → Int → Bool → Option (Int × Bool)
  | 0, _, _, _, _, _ => none
  | k + 1, x0, x1, x2, x8, x40 => if x40 = true then (some (0, false)) else (if 0 ≤ x8 then (if x8 < (x0.size : Int) then (if (bt x0 x8) = 48 then (some (0, x2)) else (if (bt x0 x8) = 49 then (some (1, true)) else ((quirks_Has.f x1 4).bind fun t237 => (some (1, t237))))) else (none)) else (none))
def request_minor.f (k : Nat) (a0 : ByteArray) (a1 : Int) (a2 : Bool) : Option (Int × Bool) := if a0.toList = ([] : List UInt8) then (some (0, a2)) else (if (a0.size : Int) = (7 + 1) then (if 7 < (a0.size : Int) then ((octet_Digit.f (bt a0 7)).bind fun t234 => (if t234 = true then (if 0 ≤ 7 then (if 7 ≤ (a0.size : Int) then (if (a0.extract 0 7).toList = ([72, 84, 84, 80, 47, 49, 46] : List UInt8) then (request_minor.j0 k a0 a1 a2 7 false) else ((quirks_Has.f a1 5).bind fun t235 => (if t235 = true then ((text_Same.f (a0.extract 0 7) (⟨#[72, 84, 84, 80, 47, 49, 46]⟩ : ByteArray)).bind fun t236 => (request_minor.j0 k a0 a1 a2 7 (!t236))) else (request_minor.j0 k a0 a1 a2 7 (!false))))) else (none)) else (none)) else (request_minor.j0 k a0 a1 a2 7 true))) else (none)) else (request_minor.j0 k a0 a1 a2 7 true))
theorem request_minor.mono_l : ∀ k, (∀ y0 y1 y2 y3 y4, LeO (request_minor.j0 k y0 y1 y2 y3 y4) (request_minor.j0 (k + 1) y0 y1 y2 y3 y4))
  | 0 => fun _ _ _ _ _ r h => by simp [request_minor.j0] at h
  | k + 1 => by
    have ih0 := request_minor.mono_l k
    · intro y0 y1 y2 y3 y4
      unfold request_minor.j0
      repeat' first
      | (with_reducible exact ih0 _ _ _ _ _)
      | (with_reducible exact LeO.refl _)
      | (with_reducible exact LeO.none _)
      | (with_reducible refine LeO.ite ?_ ?_)
      | (with_reducible refine LeO.bind ?_ (fun _ => ?_))
      | exact ih0 _ _ _ _ _
      | exact LeO.none _
      | refine LeO.ite ?_ ?_
      | refine LeO.bind ?_ (fun _ => ?_)
theorem request_minor.mono : ∀ a0 a1 a2 k, LeO (request_minor.f k a0 a1 a2) (request_minor.f (k + 1) a0 a1 a2) := by
  intro a0 a1 a2 k
  have ih0 := request_minor.mono_l k
  unfold request_minor.f
  repeat' first
      | (with_reducible exact ih0 _ _ _ _ _)
      | (with_reducible exact LeO.refl _)
      | (with_reducible exact LeO.none _)
      | (with_reducible refine LeO.ite ?_ ?_)
      | (with_reducible refine LeO.bind ?_ (fun _ => ?_))
      | exact ih0 _ _ _ _ _
      | exact LeO.none _
      | refine LeO.ite ?_ ?_
      | refine LeO.bind ?_ (fun _ => ?_)
set_option maxHeartbeats 8000000 in
set_option maxRecDepth 100000 in
theorem request_minor.calls (k : Nat) (a0 : ByteArray) (a1 : Int) (a2 : Bool) (r1 : Int) (r2 : Bool) (w : World) (h : request_minor.f k a0 a1 a2 = some (r1, r2)) :
    Calls Tryd.prog 21 #[.string a0, .int .u32 a1, .bool a2] w fun e w' => e = .returned (.tuple #[.int .i64 r1, .bool r2]) ∧ Below w.heap.size w w' := by
  have HB := Aside0.mk (Below.refl w.heap.size w)
  have H : (if a0.toList = ([] : List UInt8) then (some (0, a2)) else (if (a0.size : Int) = (7 + 1) then (if 7 < (a0.size : Int) then ((octet_Digit.f (bt a0 7)).bind fun t234 => (if t234 = true then (if 0 ≤ 7 then (if 7 ≤ (a0.size : Int) then (if (a0.extract 0 7).toList = ([72, 84, 84, 80, 47, 49, 46] : List UInt8) then (request_minor.j0 k a0 a1 a2 7 false) else ((quirks_Has.f a1 5).bind fun t235 => (if t235 = true then ((text_Same.f (a0.extract 0 7) (⟨#[72, 84, 84, 80, 47, 49, 46]⟩ : ByteArray)).bind fun t236 => (request_minor.j0 k a0 a1 a2 7 (!t236))) else (request_minor.j0 k a0 a1 a2 7 (!false))))) else (none)) else (none)) else (request_minor.j0 k a0 a1 a2 7 true))) else (none)) else (request_minor.j0 k a0 a1 a2 7 true))) = some (r1, r2) := h
  clear h
  by_cases c4 : a0.toList = ([] : List UInt8)
  · rw [if_pos c4] at H
    have c4b0 : (a0.toList == ([] : List UInt8)) = true := beq_iff_eq.mpr c4
    have c4b1 : (a0.toList != ([] : List UInt8)) = false := bne_eq_false_iff_eq.mpr c4
    clear c4
    simp only [Option.some.injEq, Prod.mk.injEq] at H
    obtain ⟨rfl, rfl⟩ := H
    go_enter Tryd.func21, Tryd.ntmps21
    go_wp2
    go_ret2
    exact ⟨by first | rfl | (simp [errW_none, errW_some] <;> rfl) | (simp [*, errW_none, errW_some] <;> rfl), by repeat (first | (with_reducible first | exact HB.out | apply below_alloc | apply pw_below_drewN | apply below_drew1) | exact HB.out)⟩
  · rw [if_neg c4] at H
    have c4b0 : (a0.toList == ([] : List UInt8)) = false := beq_eq_false_iff_ne.mpr c4
    have c4b1 : (a0.toList != ([] : List UInt8)) = true := bne_iff_ne.mpr c4
    have HC5 := Aside0.mk H
    clear H
    go_enter Tryd.func21, Tryd.ntmps21
    go_upto_region 4 with (fail)
    go_cut [40] (fun v40 wc => ∃ (kq : Nat) (x40_4 : Bool), v40 = .bool x40_4 ∧ Aside0 (request_minor.j0 kq a0 a1 a2 7 x40_4 = some (r1, r2)) ∧ Aside0 (kq ≤ k) ∧ Aside0 (Below w.heap.size w wc))
    case first =>
      have H := HC5.out
      clear HC5
      by_cases c6 : (a0.size : Int) = (7 + 1)
      · rw [if_pos c6] at H
        have c6b0 : ((a0.size : Int) == (7 + 1)) = true := beq_iff_eq.mpr c6
        have c6b0v : ((a0.size : Int) == 8) = true := by simpa using c6b0
        have c6b1 : ((a0.size : Int) != (7 + 1)) = false := bne_eq_false_iff_eq.mpr c6
        have c6b1v : ((a0.size : Int) != 8) = false := by simpa using c6b1
        clear c6
        (first | rw [c6b0] | (simp only [i64_w, i32_w]; rw [c6b0]) | skip)
        by_cases c7 : 7 < (a0.size : Int)
        · rw [if_pos c7] at H
          have c7b0 : decide (7 < (a0.size : Int)) = true := decide_eq_true c7
          have c7b1 : decide (7 < a0.size) = true := decide_eq_true (by omega)
          clear c7
          replace H := Option.bind_eq_some_iff.mp H
          obtain ⟨t234, A90, H⟩ := H
          replace H : (if t234 = true then (if 0 ≤ 7 then (if 7 ≤ (a0.size : Int) then (if (a0.extract 0 7).toList = ([72, 84, 84, 80, 47, 49, 46] : List UInt8) then (request_minor.j0 k a0 a1 a2 7 false) else ((quirks_Has.f a1 5).bind fun t235 => (if t235 = true then ((text_Same.f (a0.extract 0 7) (⟨#[72, 84, 84, 80, 47, 49, 46]⟩ : ByteArray)).bind fun t236 => (request_minor.j0 k a0 a1 a2 7 (!t236))) else (request_minor.j0 k a0 a1 a2 7 (!false))))) else (none)) else (none)) else (request_minor.j0 k a0 a1 a2 7 true)) = some (r1, r2) := H
          have A9 := Aside0.mk A90
          clear A90
          by_cases c10 : t234 = true
          · subst c10
            have H1 : (if 0 ≤ 7 then (if 7 ≤ (a0.size : Int) then (if (a0.extract 0 7).toList = ([72, 84, 84, 80, 47, 49, 46] : List UInt8) then (request_minor.j0 k a0 a1 a2 7 false) else ((quirks_Has.f a1 5).bind fun t235 => (if t235 = true then ((text_Same.f (a0.extract 0 7) (⟨#[72, 84, 84, 80, 47, 49, 46]⟩ : ByteArray)).bind fun t236 => (request_minor.j0 k a0 a1 a2 7 (!t236))) else (request_minor.j0 k a0 a1 a2 7 (!false))))) else (none)) else (none)) = some (r1, r2) := by rw [if_pos rfl] at H; exact H
            clear H
            have H := H1
            clear H1
            by_cases c11 : 0 ≤ 7
            · rw [if_pos c11] at H
              have c11b0 := eq_true c11
              have c11b1 : decide (0 ≤ 7) = true := decide_eq_true c11
              clear c11
              by_cases c12 : 7 ≤ (a0.size : Int)
              · rw [if_pos c12] at H
                have c12b0 := eq_true c12
                have c12b1 : decide (7 ≤ (a0.size : Int)) = true := decide_eq_true c12
                clear c12
                by_cases c13 : (a0.extract 0 7).toList = ([72, 84, 84, 80, 47, 49, 46] : List UInt8)
                · rw [if_pos c13] at H
                  have c13b0 : ((a0.extract 0 7).toList == ([72, 84, 84, 80, 47, 49, 46] : List UInt8)) = true := beq_iff_eq.mpr c13
                  have c13b1 : ((a0.extract 0 7).toList != ([72, 84, 84, 80, 47, 49, 46] : List UInt8)) = false := bne_eq_false_iff_eq.mpr c13
                  clear c13
                  have H' := Aside0.mk H
                  clear H
                  have p8 : 0 ≤ (7 : Int) := (by omega)
                  have q8 : 7 < a0.size := (by have : (7 : Int) < (a0.size : Int) := of_decide_eq_true (by first | (with_reducible assumption) | assumption); omega)
                  have hx8 : ∀ h : 7 < a0.size, ((a0[7]'h).toNat : Int) = bt a0 7 := bt_at a0 7
                  clear p8
                  have qi8 : (7 < (a0.size : Int)) = True := eq_true (of_decide_eq_true (by first | (with_reducible assumption) | assumption))
                  replace q8 := eq_true q8
                  go_wp2_with (first | (go_at_call 39; (with_reducible refine (octet_Digit.calls (bt a0 7) true _ A9.out).mono ?_); rintro e w' ⟨rfl, ⟨nd, rfl⟩⟩))
                  go_meet
                  case rel => exact ⟨_, (false), (by first | rfl | (simp; done) | (simp [*]; done)), H', ⟨by first | omega | exact Nat.le_refl _⟩, ⟨by repeat (first | (with_reducible first | exact HB.out | apply below_alloc | apply pw_below_drewN | apply below_drew1) | exact HB.out)⟩⟩
                · rw [if_neg c13] at H
                  have c13b0 : ((a0.extract 0 7).toList == ([72, 84, 84, 80, 47, 49, 46] : List UInt8)) = false := beq_eq_false_iff_ne.mpr c13
                  have c13b1 : ((a0.extract 0 7).toList != ([72, 84, 84, 80, 47, 49, 46] : List UInt8)) = true := bne_iff_ne.mpr c13
                  replace H := Option.bind_eq_some_iff.mp H
                  obtain ⟨t235, A140, H⟩ := H
                  replace H : (if t235 = true then ((text_Same.f (a0.extract 0 7) (⟨#[72, 84, 84, 80, 47, 49, 46]⟩ : ByteArray)).bind fun t236 => (request_minor.j0 k a0 a1 a2 7 (!t236))) else (request_minor.j0 k a0 a1 a2 7 (!false))) = some (r1, r2) := H
                  have A14 := Aside0.mk A140
                  clear A140
                  by_cases c15 : t235 = true
                  · subst c15
                    have H1 : ((text_Same.f (a0.extract 0 7) (⟨#[72, 84, 84, 80, 47, 49, 46]⟩ : ByteArray)).bind fun t236 => (request_minor.j0 k a0 a1 a2 7 (!t236))) = some (r1, r2) := by rw [if_pos rfl] at H; exact H
                    clear H
                    have H := H1
                    clear H1
                    have c16b0 := eq_true (of_decide_eq_true (by first | (with_reducible assumption) | assumption) : 0 ≤ 7)
                    have c17b0 := eq_true (of_decide_eq_true (by first | (with_reducible assumption) | assumption) : 7 ≤ (a0.size : Int))
                    replace H := Option.bind_eq_some_iff.mp H
                    obtain ⟨t236, A180, H⟩ := H
                    replace H : (request_minor.j0 k a0 a1 a2 7 (!t236)) = some (r1, r2) := H
                    have A18 := Aside0.mk A180
                    clear A180
                    have H' := Aside0.mk H
                    clear H
                    have p8 : 0 ≤ (7 : Int) := (by omega)
                    have q8 : 7 < a0.size := (by have : (7 : Int) < (a0.size : Int) := of_decide_eq_true (by first | (with_reducible assumption) | assumption); omega)
                    have hx8 : ∀ h : 7 < a0.size, ((a0[7]'h).toNat : Int) = bt a0 7 := bt_at a0 7
                    clear p8
                    have qi8 : (7 < (a0.size : Int)) = True := eq_true (of_decide_eq_true (by first | (with_reducible assumption) | assumption))
                    replace q8 := eq_true q8
                    go_wp2_with (first | (go_at_call 39; (with_reducible refine (octet_Digit.calls (bt a0 7) true _ A9.out).mono ?_); rintro e w' ⟨rfl, ⟨nd, rfl⟩⟩) | (go_at_call 29; (with_reducible refine (quirks_Has.calls a1 5 true _ A14.out).mono ?_); rintro e w' ⟨rfl, ⟨nd, rfl⟩⟩) | (go_at_call 40; (with_reducible refine (text_Same.calls (a0.extract 0 7) (⟨#[72, 84, 84, 80, 47, 49, 46]⟩ : ByteArray) t236 _ A18.out).mono ?_); rintro e w19 ⟨rfl, hb⟩; have n0_ := Aside0.mk (below_step (by repeat (first | (with_reducible first | exact HB.out | apply below_alloc | apply pw_below_drewN | apply below_drew1) | exact HB.out)) hb); clear HB; have HB := n0_; clear n0_; (try clear hb); (try clear hb2); (try clear hk); (try clear hi)))
                    go_meet
                    case rel => exact ⟨_, (!t236), (by first | rfl | (simp; done) | (simp [*]; done)), H', ⟨by first | omega | exact Nat.le_refl _⟩, ⟨by repeat (first | (with_reducible first | exact HB.out | apply below_alloc | apply pw_below_drewN | apply below_drew1) | exact HB.out)⟩⟩
                  · replace c15 := Bool.eq_false_iff.mpr c15
                    subst c15
                    have H1 : (request_minor.j0 k a0 a1 a2 7 (!false)) = some (r1, r2) := by rw [if_neg (show ¬ (false = true) by decide)] at H; exact H
                    clear H
                    have H := H1
                    clear H1
                    have H' := Aside0.mk H
                    clear H
                    have p8 : 0 ≤ (7 : Int) := (by omega)
                    have q8 : 7 < a0.size := (by have : (7 : Int) < (a0.size : Int) := of_decide_eq_true (by first | (with_reducible assumption) | assumption); omega)
                    have hx8 : ∀ h : 7 < a0.size, ((a0[7]'h).toNat : Int) = bt a0 7 := bt_at a0 7
                    clear p8
                    have qi8 : (7 < (a0.size : Int)) = True := eq_true (of_decide_eq_true (by first | (with_reducible assumption) | assumption))
                    replace q8 := eq_true q8
                    go_wp2_with (first | (go_at_call 39; (with_reducible refine (octet_Digit.calls (bt a0 7) true _ A9.out).mono ?_); rintro e w' ⟨rfl, ⟨nd, rfl⟩⟩) | (go_at_call 29; (with_reducible refine (quirks_Has.calls a1 5 false _ A14.out).mono ?_); rintro e w' ⟨rfl, ⟨nd, rfl⟩⟩))
                    go_meet
                    case rel => exact ⟨_, (!false), (by first | rfl | (simp; done) | (simp [*]; done)), H', ⟨by first | omega | exact Nat.le_refl _⟩, ⟨by repeat (first | (with_reducible first | exact HB.out | apply below_alloc | apply pw_below_drewN | apply below_drew1) | exact HB.out)⟩⟩
              · rw [if_neg c12] at H
                exact absurd H (by simp)
            · rw [if_neg c11] at H
              exact absurd H (by simp)
          · replace c10 := Bool.eq_false_iff.mpr c10
            subst c10
            have H1 : (request_minor.j0 k a0 a1 a2 7 true) = some (r1, r2) := by rw [if_neg (show ¬ (false = true) by decide)] at H; exact H
            clear H
            have H := H1
            clear H1
            have H' := Aside0.mk H
            clear H
            have p8 : 0 ≤ (7 : Int) := (by omega)
            have q8 : 7 < a0.size := (by have : (7 : Int) < (a0.size : Int) := of_decide_eq_true (by first | (with_reducible assumption) | assumption); omega)
            have hx8 : ∀ h : 7 < a0.size, ((a0[7]'h).toNat : Int) = bt a0 7 := bt_at a0 7
            clear p8
            have qi8 : (7 < (a0.size : Int)) = True := eq_true (of_decide_eq_true (by first | (with_reducible assumption) | assumption))
            replace q8 := eq_true q8
            go_wp2_with (first | (go_at_call 39; (with_reducible refine (octet_Digit.calls (bt a0 7) false _ A9.out).mono ?_); rintro e w' ⟨rfl, ⟨nd, rfl⟩⟩))
            go_meet
            case rel => exact ⟨_, (true), (by first | rfl | (simp; done) | (simp [*]; done)), H', ⟨by first | omega | exact Nat.le_refl _⟩, ⟨by repeat (first | (with_reducible first | exact HB.out | apply below_alloc | apply pw_below_drewN | apply below_drew1) | exact HB.out)⟩⟩
        · rw [if_neg c7] at H
          exact absurd H (by simp)
      · rw [if_neg c6] at H
        have c6b0 : ((a0.size : Int) == (7 + 1)) = false := beq_eq_false_iff_ne.mpr c6
        have c6b0v : ((a0.size : Int) == 8) = false := by simpa using c6b0
        have c6b1 : ((a0.size : Int) != (7 + 1)) = true := bne_iff_ne.mpr c6
        have c6b1v : ((a0.size : Int) != 8) = true := by simpa using c6b1
        (first | rw [c6b0] | (simp only [i64_w, i32_w]; rw [c6b0]) | skip)
        have H' := Aside0.mk H
        clear H
        go_wp2
        go_meet
        case rel => exact ⟨_, (true), (by first | rfl | (simp; done) | (simp [*]; done)), H', ⟨by first | omega | exact Nat.le_refl _⟩, ⟨by repeat (first | (with_reducible first | exact HB.out | apply below_alloc | apply pw_below_drewN | apply below_drew1) | exact HB.out)⟩⟩
    case rest =>
      clear HC5
      try clear c1
      try clear c2
      try clear p2
      try clear c4
      try clear c4b0
      try clear c4b1
      try clear c6
      try clear c6b0
      try clear c6b1
      try clear c7
      try clear c7b0
      try clear c7b1
      try clear p8
      try clear q8
      try clear hx8
      try clear qi8
      try clear c10
      try clear c11
      try clear c11b0
      try clear c11b1
      try clear c12
      try clear c12b0
      try clear c12b1
      try clear c13
      try clear c13b0
      try clear c13b1
      try clear c15
      try clear c16
      try clear c16b0
      try clear c17
      try clear c17b0
      try clear p8
      try clear q8
      obtain ⟨kq, x40_4, rfl, HA, HJ4, HB⟩ := hcut
      cases kq with
      | zero => exact absurd HA.out (by simp [request_minor.j0])
      | succ kj4 =>
        have H := HA.out
        clear HA
        simp only [request_minor.j0] at H
        by_cases c20 : x40_4 = true
        · subst c20
          have H1 : (some (0, false)) = some (r1, r2) := by rw [if_pos rfl] at H; exact H
          clear H
          have H := H1
          clear H1
          simp only [Option.some.injEq, Prod.mk.injEq] at H
          obtain ⟨rfl, rfl⟩ := H
          go_wp2
          go_ret2
          exact ⟨by first | rfl | (simp [errW_none, errW_some] <;> rfl) | (simp [*, errW_none, errW_some] <;> rfl), by repeat (first | (with_reducible first | exact HB.out | apply below_alloc | apply pw_below_drewN | apply below_drew1) | exact HB.out)⟩
        · replace c20 := Bool.eq_false_iff.mpr c20
          subst c20
          have H1 : (if 0 ≤ 7 then (if 7 < (a0.size : Int) then (if (bt a0 7) = 48 then (some (0, a2)) else (if (bt a0 7) = 49 then (some (1, true)) else ((quirks_Has.f a1 4).bind fun t237 => (some (1, t237))))) else (none)) else (none)) = some (r1, r2) := by rw [if_neg (show ¬ (false = true) by decide)] at H; exact H
          clear H
          have H := H1
          clear H1
          by_cases c21 : 0 ≤ 7
          · rw [if_pos c21] at H
            have c21b0 : decide (0 ≤ 7) = true := decide_eq_true c21
            clear c21
            by_cases c22 : 7 < (a0.size : Int)
            · rw [if_pos c22] at H
              have c22b0 : decide (7 < (a0.size : Int)) = true := decide_eq_true c22
              have c22b1 : decide (7 < a0.size) = true := decide_eq_true (by omega)
              clear c22
              by_cases c24 : (bt a0 7) = 48
              · rw [if_pos c24] at H
                have c24b0 : ((bt a0 7) == 48) = true := beq_iff_eq.mpr c24
                have c24b1 : ((bt a0 7) != 48) = false := bne_eq_false_iff_eq.mpr c24
                clear c24
                simp only [Option.some.injEq, Prod.mk.injEq] at H
                obtain ⟨rfl, rfl⟩ := H
                have p23 : 0 ≤ (7 : Int) := (by omega)
                have q23 : 7 < a0.size := (by have : (7 : Int) < (a0.size : Int) := of_decide_eq_true (by first | (with_reducible assumption) | assumption); omega)
                have hx23 : ∀ h : 7 < a0.size, ((a0[7]'h).toNat : Int) = bt a0 7 := bt_at a0 7
                clear p23
                have qi23 : (7 < (a0.size : Int)) = True := eq_true (of_decide_eq_true (by first | (with_reducible assumption) | assumption))
                replace q23 := eq_true q23
                go_wp2
                go_ret2
                exact ⟨by first | rfl | (simp [errW_none, errW_some] <;> rfl) | (simp [*, errW_none, errW_some] <;> rfl), by repeat (first | (with_reducible first | exact HB.out | apply below_alloc | apply pw_below_drewN | apply below_drew1) | exact HB.out)⟩
              · rw [if_neg c24] at H
                have c24b0 : ((bt a0 7) == 48) = false := beq_eq_false_iff_ne.mpr c24
                have c24b1 : ((bt a0 7) != 48) = true := bne_iff_ne.mpr c24
                by_cases c25 : (bt a0 7) = 49
                · rw [if_pos c25] at H
                  have c25b0 : ((bt a0 7) == 49) = true := beq_iff_eq.mpr c25
                  have c25b1 : ((bt a0 7) != 49) = false := bne_eq_false_iff_eq.mpr c25
                  clear c25
                  simp only [Option.some.injEq, Prod.mk.injEq] at H
                  obtain ⟨rfl, rfl⟩ := H
                  have p23 : 0 ≤ (7 : Int) := (by omega)
                  have q23 : 7 < a0.size := (by have : (7 : Int) < (a0.size : Int) := of_decide_eq_true (by first | (with_reducible assumption) | assumption); omega)
                  have hx23 : ∀ h : 7 < a0.size, ((a0[7]'h).toNat : Int) = bt a0 7 := bt_at a0 7
                  clear p23
                  have qi23 : (7 < (a0.size : Int)) = True := eq_true (of_decide_eq_true (by first | (with_reducible assumption) | assumption))
                  replace q23 := eq_true q23
                  go_wp2
                  go_ret2
                  exact ⟨by first | rfl | (simp [errW_none, errW_some] <;> rfl) | (simp [*, errW_none, errW_some] <;> rfl), by repeat (first | (with_reducible first | exact HB.out | apply below_alloc | apply pw_below_drewN | apply below_drew1) | exact HB.out)⟩
                · rw [if_neg c25] at H
                  have c25b0 : ((bt a0 7) == 49) = false := beq_eq_false_iff_ne.mpr c25
                  have c25b1 : ((bt a0 7) != 49) = true := bne_iff_ne.mpr c25
                  replace H := Option.bind_eq_some_iff.mp H
                  obtain ⟨t237, A260, H⟩ := H
                  replace H : (some (1, t237)) = some (r1, r2) := H
                  have A26 := Aside0.mk A260
                  clear A260
                  simp only [Option.some.injEq, Prod.mk.injEq] at H
                  obtain ⟨rfl, rfl⟩ := H
                  have p23 : 0 ≤ (7 : Int) := (by omega)
                  have q23 : 7 < a0.size := (by have : (7 : Int) < (a0.size : Int) := of_decide_eq_true (by first | (with_reducible assumption) | assumption); omega)
                  have hx23 : ∀ h : 7 < a0.size, ((a0[7]'h).toNat : Int) = bt a0 7 := bt_at a0 7
                  clear p23
                  have qi23 : (7 < (a0.size : Int)) = True := eq_true (of_decide_eq_true (by first | (with_reducible assumption) | assumption))
                  replace q23 := eq_true q23
                  go_wp2_with (first | ((with_reducible refine gate_callee (f := 29) rfl ?_); refine goesL_ (some 50) rfl rfl Tryd.func29 (by kernel_rfl) rfl #[.int .u32 a1, .int .i64 4] rfl (by (try simp only [List.map_toArray, List.map_cons, List.map_nil]); first | done | rfl | (simp only [List.length_drop, List.length_take]; rfl)) ?_; (with_reducible refine (quirks_Has.calls a1 4 t237 _ A26.out).mono ?_); rintro e w' ⟨rfl, ⟨nd, rfl⟩⟩; refine ⟨_, rfl, ?_⟩))
                  go_ret2
                  exact ⟨by first | rfl | (simp [errW_none, errW_some] <;> rfl) | (simp [*, errW_none, errW_some] <;> rfl), by repeat (first | (with_reducible first | exact HB.out | apply below_alloc | apply pw_below_drewN | apply below_drew1) | exact HB.out)⟩
            · rw [if_neg c22] at H
              exact absurd H (by simp)
          · rw [if_neg c21] at H
            exact absurd H (by simp)

end Go.Proofs.YtclaaacdmaeblaaDoor.PRequestExtends
