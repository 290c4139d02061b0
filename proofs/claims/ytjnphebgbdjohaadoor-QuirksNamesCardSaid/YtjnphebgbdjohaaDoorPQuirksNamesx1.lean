-- Written by a program of this session (wip/tools/myprint.sh)
import Derived.Test.YtjnphebgbdjohaaDoorPQuirksNamesx0
namespace Go.Proofs.YtjnphebgbdjohaaDoor.PQuirksNames
open Go.RowKit Go.Proofs.YtjnphebgbdjohaaDoorW.PrintWords Go.Proofs.YtjnphebgbdjohaaDoorW.PrintLast Go.Proofs.YtjnphebgbdjohaaDoorW.PrintMore
attribute [local go_sem] max2_int min2_int max_two min_two max_three min_three max_four min_four   -- for this text's walks alone
set_option linter.unusedVariables false
set_option linter.unusedSimpArgs false

/-! ### quirks_known: function 25 -/
def quirks_known.f (a0 : Int) : Option (Bool) := if a0 ≥ 0 then (some (decide (a0 < 30))) else (some false)
set_option maxHeartbeats 8000000 in
set_option maxRecDepth 100000 in
theorem quirks_known.calls (a0 : Int) (r : Bool) (w : World) (h : quirks_known.f a0 = some r) :
    Calls Tryd.prog 25 #[.int .i64 a0] w fun e w' => e = .returned (.bool r) ∧ Drawn0 w w' := by
  have H : (if a0 ≥ 0 then (some (decide (a0 < 30))) else (some false)) = some r := h
  clear h
  by_cases c2 : a0 ≥ 0
  · rw [if_pos c2] at H
    have c2b0 : decide (0 ≤ a0) = true := decide_eq_true c2
    clear c2
    obtain rfl := Option.some.inj H
    go_enter Tryd.func25, Tryd.ntmps25
    go_wp2
    go_ret
    exact ⟨by first | rfl | (simp; done) | (simp [*]; done), by repeat (first | exact Drawn0.refl _ | apply Drawn0.step)⟩
  · rw [if_neg c2] at H
    have c2b0 : decide (0 ≤ a0) = false := decide_eq_false c2
    clear c2
    obtain rfl := Option.some.inj H
    go_enter Tryd.func25, Tryd.ntmps25
    go_wp2
    go_ret
    exact ⟨by first | rfl | (simp; done) | (simp [*]; done), by repeat (first | exact Drawn0.refl _ | apply Drawn0.step)⟩

/-! ### quirks_Has: function 9 -/
def quirks_Has.f (a0 : Int) (a1 : Int) : Option (Bool) := (quirks_known.f a1).bind fun t101 => (if t101 = true then (if 0 ≤ a1 then (some ((Go.bits .and .u32 (shr .u32 a0 a1) 1) == 1)) else (none)) else (some false))
set_option maxHeartbeats 8000000 in
set_option maxRecDepth 100000 in
theorem quirks_Has.calls (a0 : Int) (a1 : Int) (r : Bool) (w : World) (h : quirks_Has.f a0 a1 = some r) :
    Calls Tryd.prog 9 #[.int .u32 a0, .int .i64 a1] w fun e w' => e = .returned (.bool r) ∧ Drawn0 w w' := by
  have H : ((quirks_known.f a1).bind fun t101 => (if t101 = true then (if 0 ≤ a1 then (some ((Go.bits .and .u32 (shr .u32 a0 a1) 1) == 1)) else (none)) else (some false))) = some r := h
  clear h
  replace H := Option.bind_eq_some_iff.mp H
  obtain ⟨t101, A30, H⟩ := H
  replace H : (if t101 = true then (if 0 ≤ a1 then (some ((Go.bits .and .u32 (shr .u32 a0 a1) 1) == 1)) else (none)) else (some false)) = some r := H
  have A3 := Aside0.mk A30
  clear A30
  by_cases c4 : t101 = true
  · subst c4
    have H1 : (if 0 ≤ a1 then (some ((Go.bits .and .u32 (shr .u32 a0 a1) 1) == 1)) else (none)) = some r := by rw [if_pos rfl] at H; exact H
    clear H
    have H := H1
    clear H1
    by_cases c5 : 0 ≤ a1
    · rw [if_pos c5] at H
      have c5b0 := eq_true c5
      have c5b1 : decide (0 ≤ a1) = true := decide_eq_true c5
      clear c5
      obtain ⟨ji6, hji6⟩ : ∃ j_ : Int, (shr .u32 a0 a1) = j_ := ⟨_, rfl⟩
      replace H : (some ((Go.bits .and .u32 (ji6) 1) == 1)) = some r := by first | (rw [hji6] at H; exact H) | (simp only [hji6] at H ⊢; exact H)
      (try rw [hji6] at A3)
      have hji6_ : (a0 / 2 ^ min a1.toNat 32) = ji6 := hji6
      have hji6z : a1 ≤ 32 → (a0 / 2 ^ a1.toNat) = ji6 := shr_small hji6
      obtain rfl := Option.some.inj H
      go_enter Tryd.func9, Tryd.ntmps9
      go_wp2_with (first | ((with_reducible refine gate_callee (f := 25) rfl ?_); refine goesL_ (some 6) rfl rfl Tryd.func25 (by kernel_rfl) rfl #[.int .i64 a1] rfl (by (try simp only [List.map_toArray, List.map_cons, List.map_nil]); first | done | rfl | (simp only [List.length_drop, List.length_take]; rfl)) ?_; (with_reducible refine (quirks_known.calls a1 true _ A3.out).mono ?_); rintro e w' ⟨rfl, ⟨nd, rfl⟩⟩; refine ⟨_, rfl, ?_⟩))
      go_ret
      exact ⟨by first | rfl | (simp; done) | (simp only [← hji6] <;> (first | rfl | simp)) | (simp [*]; done), by repeat (first | exact Drawn0.refl _ | apply Drawn0.step)⟩
    · rw [if_neg c5] at H
      exact absurd H (by simp)
  · replace c4 := Bool.eq_false_iff.mpr c4
    subst c4
    have H1 : (some false) = some r := by rw [if_neg (show ¬ (false = true) by decide)] at H; exact H
    clear H
    have H := H1
    clear H1
    obtain rfl := Option.some.inj H
    go_enter Tryd.func9, Tryd.ntmps9
    go_wp2_with (first | ((with_reducible refine gate_callee (f := 25) rfl ?_); refine goesL_ (some 6) rfl rfl Tryd.func25 (by kernel_rfl) rfl #[.int .i64 a1] rfl (by (try simp only [List.map_toArray, List.map_cons, List.map_nil]); first | done | rfl | (simp only [List.length_drop, List.length_take]; rfl)) ?_; (with_reducible refine (quirks_known.calls a1 false _ A3.out).mono ?_); rintro e w' ⟨rfl, ⟨nd, rfl⟩⟩; refine ⟨_, rfl, ?_⟩))
    go_ret
    exact ⟨by first | rfl | (simp; done) | (simp [*]; done), by repeat (first | exact Drawn0.refl _ | apply Drawn0.step)⟩

/-! ### strings_Fields: function 30 -/
def strings_Fields.f (a0 : ByteArray) : Option (List ByteArray) := if a0.size < 4294967281 ∧ (a0.data.toList.all fun b => decide (b.toNat < 128)) = true ∧ (Lib.fields a0.data.toList).length ≤ 9223372036854775807 then some ((Lib.fields a0.data.toList).map fun l => (⟨l.toArray⟩ : ByteArray)) else none
theorem strings_Fields.calls (a0 : ByteArray) (r : List ByteArray) (w : World) (hL : Laid.LaidX w) (h : strings_Fields.f a0 = some r) :
    Calls Tryd.prog 30 #[.string a0] w fun e w' => ∃ v0_ : Value, e = .returned (v0_) ∧ Kd.R Kd.string 9 w' w.heap.size (fun _ => True) v0_ r ∧ Below w.heap.size w w' := by
  unfold strings_Fields.f at h
  split at h
  · rename_i hc
    obtain rfl := Option.some.inj h
    refine (Tryd.strings_Fields_laid a0 w hc.1 (fun j b hb => by have := List.all_eq_true.mp hc.2.1 b (List.mem_of_getElem? hb); simpa using this) (Laid.asciiSpace hL)).mono ?_
    rintro e w' ⟨rfl, rfl⟩
    exact Laid.fields_row _ _ _ hc.2.2
  · cases h

/-! ### quirks_names: function 26 -/
def quirks_names.f  : Option (List ByteArray) := (strings_Fields.f (⟨#[101, 109, 112, 116, 121, 32, 98, 97, 114, 101, 108, 102, 32, 98, 97, 114, 101, 99, 114, 32, 98, 108, 97, 110, 107, 115, 32, 109, 105, 110, 111, 114, 32, 97, 110, 121, 99, 97, 115, 101, 32, 110, 111, 118, 101, 114, 115, 105, 111, 110, 32, 115, 112, 97, 99, 101, 115, 32, 99, 111, 110, 116, 114, 111, 108, 115, 32, 99, 111, 108, 111, 110, 115, 112, 97, 99, 101, 32, 110, 97, 109, 101, 98, 121, 116, 101, 115, 32, 110, 111, 99, 111, 108, 111, 110, 32, 110, 111, 110, 97, 109, 101, 32, 102, 111, 108, 100, 32, 118, 97, 108, 117, 101, 98, 121, 116, 101, 115, 32, 110, 111, 104, 111, 115, 116, 32, 109, 97, 110, 121, 104, 111, 115, 116, 115, 32, 116, 101, 98, 108, 97, 110, 107, 115, 32, 116, 101, 108, 105, 115, 116, 32, 116, 101, 105, 103, 110, 111, 114, 101, 32, 116, 101, 111, 108, 100, 32, 116, 101, 119, 105, 110, 115, 32, 99, 108, 119, 105, 110, 115, 32, 99, 108, 112, 108, 117, 115, 32, 99, 108, 99, 111, 109, 109, 97, 32, 99, 108, 102, 105, 114, 115, 116, 32, 99, 108, 108, 97, 115, 116, 32, 99, 104, 117, 110, 107, 104, 101, 120, 32, 99, 104, 117, 110, 107, 98, 108, 97, 110, 107, 115, 32, 99, 104, 117, 110, 107, 101, 110, 100]⟩ : ByteArray)).bind fun t102 => (some t102)
set_option maxHeartbeats 8000000 in
set_option maxRecDepth 100000 in
theorem quirks_names.calls  (r : List ByteArray) (w : World) (hL : Laid.LaidX w) (h : quirks_names.f  = some r) :
    Calls Tryd.prog 26 #[] w fun e w' => ∃ v0_ : Value, e = .returned (v0_) ∧ Kd.R Kd.string 9 w' w.heap.size (fun _ => True) v0_ r ∧ Below w.heap.size w w' := by
  have HB := Aside0.mk (Below.refl w.heap.size w)
  have HLX := Aside0.mk hL
  clear hL
  have H : ((strings_Fields.f (⟨#[101, 109, 112, 116, 121, 32, 98, 97, 114, 101, 108, 102, 32, 98, 97, 114, 101, 99, 114, 32, 98, 108, 97, 110, 107, 115, 32, 109, 105, 110, 111, 114, 32, 97, 110, 121, 99, 97, 115, 101, 32, 110, 111, 118, 101, 114, 115, 105, 111, 110, 32, 115, 112, 97, 99, 101, 115, 32, 99, 111, 110, 116, 114, 111, 108, 115, 32, 99, 111, 108, 111, 110, 115, 112, 97, 99, 101, 32, 110, 97, 109, 101, 98, 121, 116, 101, 115, 32, 110, 111, 99, 111, 108, 111, 110, 32, 110, 111, 110, 97, 109, 101, 32, 102, 111, 108, 100, 32, 118, 97, 108, 117, 101, 98, 121, 116, 101, 115, 32, 110, 111, 104, 111, 115, 116, 32, 109, 97, 110, 121, 104, 111, 115, 116, 115, 32, 116, 101, 98, 108, 97, 110, 107, 115, 32, 116, 101, 108, 105, 115, 116, 32, 116, 101, 105, 103, 110, 111, 114, 101, 32, 116, 101, 111, 108, 100, 32, 116, 101, 119, 105, 110, 115, 32, 99, 108, 119, 105, 110, 115, 32, 99, 108, 112, 108, 117, 115, 32, 99, 108, 99, 111, 109, 109, 97, 32, 99, 108, 102, 105, 114, 115, 116, 32, 99, 108, 108, 97, 115, 116, 32, 99, 104, 117, 110, 107, 104, 101, 120, 32, 99, 104, 117, 110, 107, 98, 108, 97, 110, 107, 115, 32, 99, 104, 117, 110, 107, 101, 110, 100]⟩ : ByteArray)).bind fun t102 => (some t102)) = some r := h
  clear h
  replace H := Option.bind_eq_some_iff.mp H
  obtain ⟨t102, A10, H⟩ := H
  replace H : (some t102) = some r := H
  have A1 := Aside0.mk A10
  clear A10
  obtain rfl := Option.some.inj H
  go_enter Tryd.func26, Tryd.ntmps26
  go_wp2_with (first | ((with_reducible refine gate_callee (f := 30) rfl ?_); refine goesL_ (some 1) rfl rfl Tryd.func30 (by kernel_rfl) rfl #[.string (⟨#[101, 109, 112, 116, 121, 32, 98, 97, 114, 101, 108, 102, 32, 98, 97, 114, 101, 99, 114, 32, 98, 108, 97, 110, 107, 115, 32, 109, 105, 110, 111, 114, 32, 97, 110, 121, 99, 97, 115, 101, 32, 110, 111, 118, 101, 114, 115, 105, 111, 110, 32, 115, 112, 97, 99, 101, 115, 32, 99, 111, 110, 116, 114, 111, 108, 115, 32, 99, 111, 108, 111, 110, 115, 112, 97, 99, 101, 32, 110, 97, 109, 101, 98, 121, 116, 101, 115, 32, 110, 111, 99, 111, 108, 111, 110, 32, 110, 111, 110, 97, 109, 101, 32, 102, 111, 108, 100, 32, 118, 97, 108, 117, 101, 98, 121, 116, 101, 115, 32, 110, 111, 104, 111, 115, 116, 32, 109, 97, 110, 121, 104, 111, 115, 116, 115, 32, 116, 101, 98, 108, 97, 110, 107, 115, 32, 116, 101, 108, 105, 115, 116, 32, 116, 101, 105, 103, 110, 111, 114, 101, 32, 116, 101, 111, 108, 100, 32, 116, 101, 119, 105, 110, 115, 32, 99, 108, 119, 105, 110, 115, 32, 99, 108, 112, 108, 117, 115, 32, 99, 108, 99, 111, 109, 109, 97, 32, 99, 108, 102, 105, 114, 115, 116, 32, 99, 108, 108, 97, 115, 116, 32, 99, 104, 117, 110, 107, 104, 101, 120, 32, 99, 104, 117, 110, 107, 98, 108, 97, 110, 107, 115, 32, 99, 104, 117, 110, 107, 101, 110, 100]⟩ : ByteArray)] rfl (by (try simp only [List.map_toArray, List.map_cons, List.map_nil]); first | done | rfl | (simp only [List.length_drop, List.length_take]; rfl)) ?_; (with_reducible refine (strings_Fields.calls (⟨#[101, 109, 112, 116, 121, 32, 98, 97, 114, 101, 108, 102, 32, 98, 97, 114, 101, 99, 114, 32, 98, 108, 97, 110, 107, 115, 32, 109, 105, 110, 111, 114, 32, 97, 110, 121, 99, 97, 115, 101, 32, 110, 111, 118, 101, 114, 115, 105, 111, 110, 32, 115, 112, 97, 99, 101, 115, 32, 99, 111, 110, 116, 114, 111, 108, 115, 32, 99, 111, 108, 111, 110, 115, 112, 97, 99, 101, 32, 110, 97, 109, 101, 98, 121, 116, 101, 115, 32, 110, 111, 99, 111, 108, 111, 110, 32, 110, 111, 110, 97, 109, 101, 32, 102, 111, 108, 100, 32, 118, 97, 108, 117, 101, 98, 121, 116, 101, 115, 32, 110, 111, 104, 111, 115, 116, 32, 109, 97, 110, 121, 104, 111, 115, 116, 115, 32, 116, 101, 98, 108, 97, 110, 107, 115, 32, 116, 101, 108, 105, 115, 116, 32, 116, 101, 105, 103, 110, 111, 114, 101, 32, 116, 101, 111, 108, 100, 32, 116, 101, 119, 105, 110, 115, 32, 99, 108, 119, 105, 110, 115, 32, 99, 108, 112, 108, 117, 115, 32, 99, 108, 99, 111, 109, 109, 97, 32, 99, 108, 102, 105, 114, 115, 116, 32, 99, 108, 108, 97, 115, 116, 32, 99, 104, 117, 110, 107, 104, 101, 120, 32, 99, 104, 117, 110, 107, 98, 108, 97, 110, 107, 115, 32, 99, 104, 117, 110, 107, 101, 110, 100]⟩ : ByteArray) t102 _ ?side1 A1.out).mono ?_); (case side1 => exact Laid.below HLX.out (by repeat (first | (with_reducible first | exact HB.out | apply below_alloc | apply pw_below_drewN | apply below_drew1) | exact HB.out))); rintro e w2 ⟨v103, rfl, ho0, hb⟩; refine ⟨_, rfl, ?_⟩; have n0_ := Aside0.mk (Kd.R_lower ho0 (below_size (by repeat (first | (with_reducible first | exact HB.out | apply below_alloc | apply pw_below_drewN | apply below_drew1) | exact HB.out)))); have n1_ := Aside0.mk (below_step (by repeat (first | (with_reducible first | exact HB.out | apply below_alloc | apply pw_below_drewN | apply below_drew1) | exact HB.out)) hb); clear HB; have HO104 := n0_; have HB := n1_; clear n0_ n1_; (try clear hb); (try clear hb2); (try clear hk); (try clear hi); (try clear ho0)))
  go_ret
  exact ⟨_, by first | rfl | (simp [errW_none, errW_some] <;> rfl) | (simp [*, errW_none, errW_some] <;> rfl), by (with_reducible repeat (first | apply Kd.R_alloc | apply Kd.R_drewN | apply Kd.R_drew)); exact HO104.out, by repeat (first | (with_reducible first | exact HB.out | apply below_alloc | apply pw_below_drewN | apply below_drew1) | exact HB.out)⟩

/-! ### quirks_Name: function 11 -/
def quirks_Name.f (a0 : Int) : Option (ByteArray) := (quirks_known.f a0).bind fun t105 => (if t105 = true then ((quirks_names.f).bind fun t106 => (if 0 ≤ a0 then (if a0 < (t106.length : Int) then (some (rdOf ByteArray.empty t106 a0)) else (none)) else (none))) else (some (⟨#[]⟩ : ByteArray)))
set_option maxHeartbeats 8000000 in
set_option maxRecDepth 100000 in
theorem quirks_Name.calls (a0 : Int) (r : ByteArray) (w : World) (hL : Laid.LaidX w) (h : quirks_Name.f a0 = some r) :
    Calls Tryd.prog 11 #[.int .i64 a0] w fun e w' => e = .returned (.string r) ∧ Below w.heap.size w w' := by
  have HB := Aside0.mk (Below.refl w.heap.size w)
  have HLX := Aside0.mk hL
  clear hL
  have H : ((quirks_known.f a0).bind fun t105 => (if t105 = true then ((quirks_names.f).bind fun t106 => (if 0 ≤ a0 then (if a0 < (t106.length : Int) then (some (rdOf ByteArray.empty t106 a0)) else (none)) else (none))) else (some (⟨#[]⟩ : ByteArray)))) = some r := h
  clear h
  replace H := Option.bind_eq_some_iff.mp H
  obtain ⟨t105, A20, H⟩ := H
  replace H : (if t105 = true then ((quirks_names.f).bind fun t106 => (if 0 ≤ a0 then (if a0 < (t106.length : Int) then (some (rdOf ByteArray.empty t106 a0)) else (none)) else (none))) else (some (⟨#[]⟩ : ByteArray))) = some r := H
  have A2 := Aside0.mk A20
  clear A20
  by_cases c3 : t105 = true
  · subst c3
    have H1 : ((quirks_names.f).bind fun t106 => (if 0 ≤ a0 then (if a0 < (t106.length : Int) then (some (rdOf ByteArray.empty t106 a0)) else (none)) else (none))) = some r := by rw [if_pos rfl] at H; exact H
    clear H
    have H := H1
    clear H1
    replace H := Option.bind_eq_some_iff.mp H
    obtain ⟨t106, A40, H⟩ := H
    replace H : (if 0 ≤ a0 then (if a0 < (t106.length : Int) then (some (rdOf ByteArray.empty t106 a0)) else (none)) else (none)) = some r := H
    have A4 := Aside0.mk A40
    clear A40
    by_cases c5 : 0 ≤ a0
    · rw [if_pos c5] at H
      have c5b0 : decide (0 ≤ a0) = true := decide_eq_true c5
      clear c5
      by_cases c6 : a0 < (t106.length : Int)
      · rw [if_pos c6] at H
        have c6b0 : decide (a0 < (t106.length : Int)) = true := decide_eq_true c6
        clear c6
        obtain rfl := Option.some.inj H
        go_enter Tryd.func11, Tryd.ntmps11
        go_wp2_with (first | ((with_reducible refine gate_callee (f := 25) rfl ?_); refine goesL_ (some 4) rfl rfl Tryd.func25 (by kernel_rfl) rfl #[.int .i64 a0] rfl (by (try simp only [List.map_toArray, List.map_cons, List.map_nil]); first | done | rfl | (simp only [List.length_drop, List.length_take]; rfl)) ?_; (with_reducible refine (quirks_known.calls a0 true _ A2.out).mono ?_); rintro e w' ⟨rfl, ⟨nd, rfl⟩⟩; refine ⟨_, rfl, ?_⟩) | ((with_reducible refine gate_callee (f := 26) rfl ?_); refine goesL_ (some 6) rfl rfl Tryd.func26 (by kernel_rfl) rfl #[] rfl (by (try simp only [List.map_toArray, List.map_cons, List.map_nil]); first | done | rfl | (simp only [List.length_drop, List.length_take]; rfl)) ?_; (with_reducible refine (quirks_names.calls  t106 _ ?side1 A4.out).mono ?_); (case side1 => exact Laid.below HLX.out (by repeat (first | (with_reducible first | exact HB.out | apply below_alloc | apply pw_below_drewN | apply below_drew1) | exact HB.out))); rintro e w7 ⟨v107, rfl, ho0, hb⟩; refine ⟨_, rfl, ?_⟩; have n0_ := Aside0.mk (Kd.R_lower ho0 (below_size (by repeat (first | (with_reducible first | exact HB.out | apply below_alloc | apply pw_below_drewN | apply below_drew1) | exact HB.out)))); have n1_ := Aside0.mk (below_step (by repeat (first | (with_reducible first | exact HB.out | apply below_alloc | apply pw_below_drewN | apply below_drew1) | exact HB.out)) hb); clear HB; have HO108 := n0_; have HB := n1_; clear n0_ n1_; (try clear hb); (try clear hb2); (try clear hk); (try clear hi); (try clear ho0); obtain ⟨Ao8, co8, eo8⟩ := Kd.R_slice HO108.out; subst eo8; have p109 : 0 ≤ (a0 : Int) := of_decide_eq_true (by first | (with_reducible assumption) | assumption); have q109 : a0 < (t106.length : Int) := of_decide_eq_true (by first | (with_reducible assumption) | assumption); obtain ⟨ad109, e109, hx109_0⟩ := Kd.at_string (Kd.R_reads' HO108.out).2.2 a0 p109 q109; cases e109; replace p109 := eq_true p109; replace q109 := eq_true q109))
        go_ret
        exact ⟨by first | rfl | (simp [errW_none, errW_some] <;> rfl) | (simp [*, errW_none, errW_some] <;> rfl), by repeat (first | (with_reducible first | exact HB.out | apply below_alloc | apply pw_below_drewN | apply below_drew1) | exact HB.out)⟩
      · rw [if_neg c6] at H
        exact absurd H (by simp)
    · rw [if_neg c5] at H
      exact absurd H (by simp)
  · replace c3 := Bool.eq_false_iff.mpr c3
    subst c3
    have H1 : (some (⟨#[]⟩ : ByteArray)) = some r := by rw [if_neg (show ¬ (false = true) by decide)] at H; exact H
    clear H
    have H := H1
    clear H1
    obtain rfl := Option.some.inj H
    go_enter Tryd.func11, Tryd.ntmps11
    go_wp2_with (first | ((with_reducible refine gate_callee (f := 25) rfl ?_); refine goesL_ (some 4) rfl rfl Tryd.func25 (by kernel_rfl) rfl #[.int .i64 a0] rfl (by (try simp only [List.map_toArray, List.map_cons, List.map_nil]); first | done | rfl | (simp only [List.length_drop, List.length_take]; rfl)) ?_; (with_reducible refine (quirks_known.calls a0 false _ A2.out).mono ?_); rintro e w' ⟨rfl, ⟨nd, rfl⟩⟩; refine ⟨_, rfl, ?_⟩))
    go_ret
    exact ⟨by first | rfl | (simp [errW_none, errW_some] <;> rfl) | (simp [*, errW_none, errW_some] <;> rfl), by repeat (first | (with_reducible first | exact HB.out | apply below_alloc | apply pw_below_drewN | apply below_drew1) | exact HB.out)⟩

/-! ### quirks_Needs: function 13 -/
def quirks_Needs.j0 : Nat → Int → Int → Int → Bool → Int → Int → Int → Int → Int → Int → Int → Int → Bool → Bool → Option (Bool)
  | 0, _, _, _, _, _, _, _, _, _, _, _, _, _, _ => none
  | k + 1, x0, x1, x7, x16, x111000, x111001, x111002, x111003, x111004, x111005, x111006, x111007, x111008, x111009 => if x16 = true then (some x111008) else (if x7 = 20 then (if x111009 = true then (if x111008 = true then (some true) else ((quirks_Has.f x1 19).bind fun t112 => (if t112 = true then (some true) else ((quirks_Has.f x1 22).bind fun t113 => (if t113 = true then ((quirks_Has.f x1 21).bind fun t114 => (some (!t114))) else (some false)))))) else (some false)) else (if x7 = 26 then ((quirks_Has.f x1 25).bind fun t115 => (some (!t115))) else (if x7 = 22 then ((quirks_Has.f x1 21).bind fun t116 => (some (!t116))) else ((quirks_known.f x0).bind fun t117 => (some t117)))))
def quirks_Needs.f (k : Nat) (a0 : Int) (a1 : Int) (a2_0 : Int) (a2_1 : Int) (a2_2 : Int) (a2_3 : Int) (a2_4 : Int) (a2_5 : Int) (a2_6 : Int) (a2_7 : Int) (a2_8 : Bool) (a2_9 : Bool) : Option (Bool) := if a0 = 6 then (some a2_9) else (if a0 = 17 then ((quirks_Has.f a1 14).bind fun t111 => (some t111)) else (if a0 = 18 then (quirks_Needs.j0 k a0 a1 a0 (a0 == 18) a2_0 a2_1 a2_2 a2_3 a2_4 a2_5 a2_6 a2_7 a2_8 a2_9) else (if a0 = 21 then (quirks_Needs.j0 k a0 a1 a0 (a0 == 21) a2_0 a2_1 a2_2 a2_3 a2_4 a2_5 a2_6 a2_7 a2_8 a2_9) else (if a0 = 27 then (quirks_Needs.j0 k a0 a1 a0 (a0 == 27) a2_0 a2_1 a2_2 a2_3 a2_4 a2_5 a2_6 a2_7 a2_8 a2_9) else (if a0 = 28 then (quirks_Needs.j0 k a0 a1 a0 (a0 == 28) a2_0 a2_1 a2_2 a2_3 a2_4 a2_5 a2_6 a2_7 a2_8 a2_9) else (quirks_Needs.j0 k a0 a1 a0 (a0 == 29) a2_0 a2_1 a2_2 a2_3 a2_4 a2_5 a2_6 a2_7 a2_8 a2_9))))))
theorem quirks_Needs.mono_l : ∀ k, (∀ y0 y1 y2 y3 y4 y5 y6 y7 y8 y9 y10 y11 y12 y13, LeO (quirks_Needs.j0 k y0 y1 y2 y3 y4 y5 y6 y7 y8 y9 y10 y11 y12 y13) (quirks_Needs.j0 (k + 1) y0 y1 y2 y3 y4 y5 y6 y7 y8 y9 y10 y11 y12 y13))
  | 0 => fun _ _ _ _ _ _ _ _ _ _ _ _ _ _ r h => by simp [quirks_Needs.j0] at h
  | k + 1 => by
    have ih0 := quirks_Needs.mono_l k
    · intro y0 y1 y2 y3 y4 y5 y6 y7 y8 y9 y10 y11 y12 y13
      unfold quirks_Needs.j0
      repeat' first
      | (with_reducible exact ih0 _ _ _ _ _ _ _ _ _ _ _ _ _ _)
      | (with_reducible exact LeO.refl _)
      | (with_reducible exact LeO.none _)
      | (with_reducible refine LeO.ite ?_ ?_)
      | (with_reducible refine LeO.bind ?_ (fun _ => ?_))
      | exact ih0 _ _ _ _ _ _ _ _ _ _ _ _ _ _
      | exact LeO.none _
      | refine LeO.ite ?_ ?_
      | refine LeO.bind ?_ (fun _ => ?_)
theorem quirks_Needs.mono : ∀ a0 a1 a2 a3 a4 a5 a6 a7 a8 a9 a10 a11 k, LeO (quirks_Needs.f k a0 a1 a2 a3 a4 a5 a6 a7 a8 a9 a10 a11) (quirks_Needs.f (k + 1) a0 a1 a2 a3 a4 a5 a6 a7 a8 a9 a10 a11) := by
  intro a0 a1 a2 a3 a4 a5 a6 a7 a8 a9 a10 a11 k
  have ih0 := quirks_Needs.mono_l k
  unfold quirks_Needs.f
  repeat' first
      | (with_reducible exact ih0 _ _ _ _ _ _ _ _ _ _ _ _ _ _)
      | (with_reducible exact LeO.refl _)
      | (with_reducible exact LeO.none _)
      | (with_reducible refine LeO.ite ?_ ?_)
      | (with_reducible refine LeO.bind ?_ (fun _ => ?_))
      | exact ih0 _ _ _ _ _ _ _ _ _ _ _ _ _ _
      | exact LeO.none _
      | refine LeO.ite ?_ ?_
      | refine LeO.bind ?_ (fun _ => ?_)
set_option maxHeartbeats 8000000 in
set_option maxRecDepth 100000 in
theorem quirks_Needs.calls (k : Nat) (a0 : Int) (a1 : Int) (a2_0 : Int) (a2_1 : Int) (a2_2 : Int) (a2_3 : Int) (a2_4 : Int) (a2_5 : Int) (a2_6 : Int) (a2_7 : Int) (a2_8 : Bool) (a2_9 : Bool) (r : Bool) (w : World) (h : quirks_Needs.f k a0 a1 a2_0 a2_1 a2_2 a2_3 a2_4 a2_5 a2_6 a2_7 a2_8 a2_9 = some r) :
    Calls Tryd.prog 13 #[.int .i64 a0, .int .u32 a1, .agg #[.int .i64 a2_0, .int .i64 a2_1, .int .i64 a2_2, .int .i64 a2_3, .int .i64 a2_4, .int .i64 a2_5, .int .i64 a2_6, .int .i64 a2_7, .bool a2_8, .bool a2_9]] w fun e w' => e = .returned (.bool r) ∧ Below w.heap.size w w' := by
  have hu25 := Tryd.underlying25
  have HB := Aside0.mk (Below.refl w.heap.size w)
  have H : (if a0 = 6 then (some a2_9) else (if a0 = 17 then ((quirks_Has.f a1 14).bind fun t111 => (some t111)) else (if a0 = 18 then (quirks_Needs.j0 k a0 a1 a0 (a0 == 18) a2_0 a2_1 a2_2 a2_3 a2_4 a2_5 a2_6 a2_7 a2_8 a2_9) else (if a0 = 21 then (quirks_Needs.j0 k a0 a1 a0 (a0 == 21) a2_0 a2_1 a2_2 a2_3 a2_4 a2_5 a2_6 a2_7 a2_8 a2_9) else (if a0 = 27 then (quirks_Needs.j0 k a0 a1 a0 (a0 == 27) a2_0 a2_1 a2_2 a2_3 a2_4 a2_5 a2_6 a2_7 a2_8 a2_9) else (if a0 = 28 then (quirks_Needs.j0 k a0 a1 a0 (a0 == 28) a2_0 a2_1 a2_2 a2_3 a2_4 a2_5 a2_6 a2_7 a2_8 a2_9) else (quirks_Needs.j0 k a0 a1 a0 (a0 == 29) a2_0 a2_1 a2_2 a2_3 a2_4 a2_5 a2_6 a2_7 a2_8 a2_9))))))) = some r := h
  clear h
  by_cases c4 : a0 = 6
  · rw [if_pos c4] at H
    have c4b0 : (a0 == 6) = true := beq_iff_eq.mpr c4
    have c4b1 : (a0 != 6) = false := bne_eq_false_iff_eq.mpr c4
    clear c4
    obtain rfl := Option.some.inj H
    go_enter Tryd.func13, Tryd.ntmps13
    go_wp2_with (first | ((with_reducible refine gate_dst (N := 5) rfl ?_); refine box_event ?hg (N := 5) ?hd (cs := #[.int .i64 a2_0, .int .i64 a2_1, .int .i64 a2_2, .int .i64 a2_3, .int .i64 a2_4, .int .i64 a2_5, .int .i64 a2_6, .int .i64 a2_7, .bool a2_8, .bool a2_9]) (t := 25) ?hr ?_; (case hd => rfl); (case hg => rfl); (case hr => first | (go_simp; done) | (go_simp; rfl)); intro gb110 hg w5 hbox hb; have n0_ := Aside0.mk (below_step (by repeat (first | (with_reducible first | exact HB.out | apply below_alloc | apply pw_below_drewN | apply below_drew1) | exact HB.out)) hb); have n1_ := Aside0.mk (hbox); have n2_ := Aside0.mk ((by rw [hg]; exact (below_size (by repeat (first | (with_reducible first | exact HB.out | apply below_alloc | apply pw_below_drewN | apply below_drew1) | exact HB.out))) : w.heap.size ≤ gb110)); have n3_ := Aside0.mk ((by rw [hg]; exact (below_size (by repeat (first | (with_reducible first | exact HB.out | apply below_alloc | apply pw_below_drewN | apply below_drew1) | exact HB.out))) : w.heap.size ≤ gb110)); clear HB; have HB := n0_; have BK110 := n1_; have GW110 := n2_; have GE110 := n3_; clear n0_ n1_ n2_ n3_; clear hb hbox hg; have hcz6_0 : w5.cell? ⟨gb110, 0, none⟩ = some (.int .i64 a2_0) := (blk_cell BK110.out 0).trans rfl; have hcz6_1 : w5.cell? ⟨gb110, 1, none⟩ = some (.int .i64 a2_1) := (blk_cell BK110.out 1).trans rfl; have hcz6_2 : w5.cell? ⟨gb110, 2, none⟩ = some (.int .i64 a2_2) := (blk_cell BK110.out 2).trans rfl; have hcz6_3 : w5.cell? ⟨gb110, 3, none⟩ = some (.int .i64 a2_3) := (blk_cell BK110.out 3).trans rfl; have hcz6_4 : w5.cell? ⟨gb110, 4, none⟩ = some (.int .i64 a2_4) := (blk_cell BK110.out 4).trans rfl; have hcz6_5 : w5.cell? ⟨gb110, 5, none⟩ = some (.int .i64 a2_5) := (blk_cell BK110.out 5).trans rfl; have hcz6_6 : w5.cell? ⟨gb110, 6, none⟩ = some (.int .i64 a2_6) := (blk_cell BK110.out 6).trans rfl; have hcz6_7 : w5.cell? ⟨gb110, 7, none⟩ = some (.int .i64 a2_7) := (blk_cell BK110.out 7).trans rfl; have hcz6_8 : w5.cell? ⟨gb110, 8, none⟩ = some (.bool a2_8) := (blk_cell BK110.out 8).trans rfl; have hcz6_9 : w5.cell? ⟨gb110, 9, none⟩ = some (.bool a2_9) := (blk_cell BK110.out 9).trans rfl; have hfz6_0 := blk_frozen BK110.out 0; have hfz6_1 := blk_frozen BK110.out 1; have hfz6_2 := blk_frozen BK110.out 2; have hfz6_3 := blk_frozen BK110.out 3; have hfz6_4 := blk_frozen BK110.out 4; have hfz6_5 := blk_frozen BK110.out 5; have hfz6_6 := blk_frozen BK110.out 6; have hfz6_7 := blk_frozen BK110.out 7; have hfz6_8 := blk_frozen BK110.out 8; have hfz6_9 := blk_frozen BK110.out 9))
    go_ret
    exact ⟨by first | rfl | (simp [errW_none, errW_some] <;> rfl) | (simp [*, errW_none, errW_some] <;> rfl), by repeat (first | (with_reducible first | exact HB.out | apply below_alloc | apply pw_below_drewN | apply below_drew1 | refine below_set ?_ GE110.out) | exact HB.out)⟩
  · rw [if_neg c4] at H
    have c4b0 : (a0 == 6) = false := beq_eq_false_iff_ne.mpr c4
    have c4b1 : (a0 != 6) = true := bne_iff_ne.mpr c4
    by_cases c7 : a0 = 17
    · rw [if_pos c7] at H
      have c7b0 : (a0 == 17) = true := beq_iff_eq.mpr c7
      have c7b1 : (a0 != 17) = false := bne_eq_false_iff_eq.mpr c7
      clear c7
      replace H := Option.bind_eq_some_iff.mp H
      obtain ⟨t111, A80, H⟩ := H
      replace H : (some t111) = some r := H
      have A8 := Aside0.mk A80
      clear A80
      obtain rfl := Option.some.inj H
      go_enter Tryd.func13, Tryd.ntmps13
      go_wp2_with (first | ((with_reducible refine gate_dst (N := 5) rfl ?_); refine box_event ?hg (N := 5) ?hd (cs := #[.int .i64 a2_0, .int .i64 a2_1, .int .i64 a2_2, .int .i64 a2_3, .int .i64 a2_4, .int .i64 a2_5, .int .i64 a2_6, .int .i64 a2_7, .bool a2_8, .bool a2_9]) (t := 25) ?hr ?_; (case hd => rfl); (case hg => rfl); (case hr => first | (go_simp; done) | (go_simp; rfl)); intro gb110 hg w9 hbox hb; have n0_ := Aside0.mk (below_step (by repeat (first | (with_reducible first | exact HB.out | apply below_alloc | apply pw_below_drewN | apply below_drew1) | exact HB.out)) hb); have n1_ := Aside0.mk (hbox); have n2_ := Aside0.mk ((by rw [hg]; exact (below_size (by repeat (first | (with_reducible first | exact HB.out | apply below_alloc | apply pw_below_drewN | apply below_drew1) | exact HB.out))) : w.heap.size ≤ gb110)); have n3_ := Aside0.mk ((by rw [hg]; exact (below_size (by repeat (first | (with_reducible first | exact HB.out | apply below_alloc | apply pw_below_drewN | apply below_drew1) | exact HB.out))) : w.heap.size ≤ gb110)); clear HB; have HB := n0_; have BK110 := n1_; have GW110 := n2_; have GE110 := n3_; clear n0_ n1_ n2_ n3_; clear hb hbox hg) | ((with_reducible refine gate_callee (f := 9) rfl ?_); refine goesL_ (some 15) rfl rfl Tryd.func9 (by kernel_rfl) rfl #[.int .u32 a1, .int .i64 14] rfl (by (try simp only [List.map_toArray, List.map_cons, List.map_nil]); first | done | rfl | (simp only [List.length_drop, List.length_take]; rfl)) ?_; (with_reducible refine (quirks_Has.calls a1 14 t111 _ A8.out).mono ?_); rintro e w' ⟨rfl, ⟨nd, rfl⟩⟩; refine ⟨_, rfl, ?_⟩))
      go_ret
      exact ⟨by first | rfl | (simp [errW_none, errW_some] <;> rfl) | (simp [*, errW_none, errW_some] <;> rfl), by repeat (first | (with_reducible first | exact HB.out | apply below_alloc | apply pw_below_drewN | apply below_drew1 | refine below_set ?_ GE110.out) | exact HB.out)⟩
    · rw [if_neg c7] at H
      have c7b0 : (a0 == 17) = false := beq_eq_false_iff_ne.mpr c7
      have c7b1 : (a0 != 17) = true := bne_iff_ne.mpr c7
      have HC10 := Aside0.mk H
      clear H
      go_enter Tryd.func13, Tryd.ntmps13
      go_upto_if 16 with (first | ((with_reducible refine gate_dst (N := 5) rfl ?_); refine box_event ?hg (N := 5) ?hd (cs := #[.int .i64 a2_0, .int .i64 a2_1, .int .i64 a2_2, .int .i64 a2_3, .int .i64 a2_4, .int .i64 a2_5, .int .i64 a2_6, .int .i64 a2_7, .bool a2_8, .bool a2_9]) (t := 25) ?hr ?_; (case hd => rfl); (case hg => rfl); (case hr => first | (go_simp; done) | (go_simp; rfl)); intro gb110 hg w11 hbox hb; have n0_ := Aside0.mk (below_step (by repeat (first | (with_reducible first | exact HB.out | apply below_alloc | apply pw_below_drewN | apply below_drew1) | exact HB.out)) hb); have n1_ := Aside0.mk (hbox); have n2_ := Aside0.mk ((by rw [hg]; exact (below_size (by repeat (first | (with_reducible first | exact HB.out | apply below_alloc | apply pw_below_drewN | apply below_drew1) | exact HB.out))) : w.heap.size ≤ gb110)); have n3_ := Aside0.mk ((by rw [hg]; exact (below_size (by repeat (first | (with_reducible first | exact HB.out | apply below_alloc | apply pw_below_drewN | apply below_drew1) | exact HB.out))) : w.heap.size ≤ gb110)); clear HB; have HB := n0_; have BK110 := n1_; have GW110 := n2_; have GE110 := n3_; clear n0_ n1_ n2_ n3_; clear hb hbox hg))
      (try simp only [Act.put, List.setIfInBounds_toArray, List.set_cons_zero, List.set_cons_succ])
      go_cut [16] (fun v16 wc => ∃ (kq : Nat) (x16_9 : Bool), v16 = .bool x16_9 ∧ Aside0 (quirks_Needs.j0 kq a0 a1 a0 x16_9 a2_0 a2_1 a2_2 a2_3 a2_4 a2_5 a2_6 a2_7 a2_8 a2_9 = some r) ∧ Aside0 (kq ≤ k) ∧ Aside0 (wc.heap[gb110]? = some (.cells #[.int .i64 a2_0, .int .i64 a2_1, .int .i64 a2_2, .int .i64 a2_3, .int .i64 a2_4, .int .i64 a2_5, .int .i64 a2_6, .int .i64 a2_7, .bool a2_8, .bool a2_9] 25 (0, 0))) ∧ Aside0 (Below w.heap.size w wc))
      case first =>
        have H := HC10.out
        clear HC10
        by_cases c12 : a0 = 18
        · rw [if_pos c12] at H
          have c12b0 : (a0 == 18) = true := beq_iff_eq.mpr c12
          have c12b1 : (a0 != 18) = false := bne_eq_false_iff_eq.mpr c12
          clear c12
          (first | rw [c12b0] | (simp only [i64_w, i32_w]; rw [c12b0]) | skip)
          have H' := Aside0.mk H
          clear H
          go_wp2
          go_meet
          case rel => exact ⟨_, ((a0 == 18)), (by first | rfl | (simp; done) | (simp [*]; done)), H', ⟨by first | omega | exact Nat.le_refl _⟩, ⟨by (with_reducible repeat (first | refine blk_drewN ?_ _ | refine blk_drew ?_ | refine blk_alloc ?_ _)); exact BK110.out⟩, ⟨by repeat (first | (with_reducible first | exact HB.out | apply below_alloc | apply pw_below_drewN | apply below_drew1 | refine below_set ?_ GE110.out) | exact HB.out)⟩⟩
        · rw [if_neg c12] at H
          have c12b0 : (a0 == 18) = false := beq_eq_false_iff_ne.mpr c12
          have c12b1 : (a0 != 18) = true := bne_iff_ne.mpr c12
          (first | rw [c12b0] | (simp only [i64_w, i32_w]; rw [c12b0]) | skip)
          by_cases c13 : a0 = 21
          · rw [if_pos c13] at H
            have c13b0 : (a0 == 21) = true := beq_iff_eq.mpr c13
            have c13b1 : (a0 != 21) = false := bne_eq_false_iff_eq.mpr c13
            clear c13
            have H' := Aside0.mk H
            clear H
            go_wp2
            go_meet
            case rel => exact ⟨_, ((a0 == 21)), (by first | rfl | (simp; done) | (simp [*]; done)), H', ⟨by first | omega | exact Nat.le_refl _⟩, ⟨by (with_reducible repeat (first | refine blk_drewN ?_ _ | refine blk_drew ?_ | refine blk_alloc ?_ _)); exact BK110.out⟩, ⟨by repeat (first | (with_reducible first | exact HB.out | apply below_alloc | apply pw_below_drewN | apply below_drew1 | refine below_set ?_ GE110.out) | exact HB.out)⟩⟩
          · rw [if_neg c13] at H
            have c13b0 : (a0 == 21) = false := beq_eq_false_iff_ne.mpr c13
            have c13b1 : (a0 != 21) = true := bne_iff_ne.mpr c13
            by_cases c14 : a0 = 27
            · rw [if_pos c14] at H
              have c14b0 : (a0 == 27) = true := beq_iff_eq.mpr c14
              have c14b1 : (a0 != 27) = false := bne_eq_false_iff_eq.mpr c14
              clear c14
              have H' := Aside0.mk H
              clear H
              go_wp2
              go_meet
              case rel => exact ⟨_, ((a0 == 27)), (by first | rfl | (simp; done) | (simp [*]; done)), H', ⟨by first | omega | exact Nat.le_refl _⟩, ⟨by (with_reducible repeat (first | refine blk_drewN ?_ _ | refine blk_drew ?_ | refine blk_alloc ?_ _)); exact BK110.out⟩, ⟨by repeat (first | (with_reducible first | exact HB.out | apply below_alloc | apply pw_below_drewN | apply below_drew1 | refine below_set ?_ GE110.out) | exact HB.out)⟩⟩
            · rw [if_neg c14] at H
              have c14b0 : (a0 == 27) = false := beq_eq_false_iff_ne.mpr c14
              have c14b1 : (a0 != 27) = true := bne_iff_ne.mpr c14
              by_cases c15 : a0 = 28
              · rw [if_pos c15] at H
                have c15b0 : (a0 == 28) = true := beq_iff_eq.mpr c15
                have c15b1 : (a0 != 28) = false := bne_eq_false_iff_eq.mpr c15
                clear c15
                have H' := Aside0.mk H
                clear H
                go_wp2
                go_meet
                case rel => exact ⟨_, ((a0 == 28)), (by first | rfl | (simp; done) | (simp [*]; done)), H', ⟨by first | omega | exact Nat.le_refl _⟩, ⟨by (with_reducible repeat (first | refine blk_drewN ?_ _ | refine blk_drew ?_ | refine blk_alloc ?_ _)); exact BK110.out⟩, ⟨by repeat (first | (with_reducible first | exact HB.out | apply below_alloc | apply pw_below_drewN | apply below_drew1 | refine below_set ?_ GE110.out) | exact HB.out)⟩⟩
              · rw [if_neg c15] at H
                have c15b0 : (a0 == 28) = false := beq_eq_false_iff_ne.mpr c15
                have c15b1 : (a0 != 28) = true := bne_iff_ne.mpr c15
                have H' := Aside0.mk H
                clear H
                go_wp2
                go_meet
                case rel => exact ⟨_, ((a0 == 29)), (by first | rfl | (simp; done) | (simp [*]; done)), H', ⟨by first | omega | exact Nat.le_refl _⟩, ⟨by (with_reducible repeat (first | refine blk_drewN ?_ _ | refine blk_drew ?_ | refine blk_alloc ?_ _)); exact BK110.out⟩, ⟨by repeat (first | (with_reducible first | exact HB.out | apply below_alloc | apply pw_below_drewN | apply below_drew1 | refine below_set ?_ GE110.out) | exact HB.out)⟩⟩
      case rest =>
        clear HC10
        try clear c1
        try clear p2
        try clear c4
        try clear c4b0
        try clear c4b1
        try clear c7
        try clear c7b0
        try clear c7b1
        try clear c9
        try clear c12
        try clear c12b0
        try clear c12b1
        try clear c13
        try clear c13b0
        try clear c13b1
        try clear c14
        try clear c14b0
        try clear c14b1
        try clear c15
        try clear c15b0
        try clear c15b1
        try clear hcz6_0
        try clear hcz6_1
        try clear hcz6_2
        try clear hcz6_3
        try clear hcz6_4
        try clear hcz6_5
        try clear hcz6_6
        try clear hcz6_7
        try clear hcz6_8
        try clear hcz6_9
        try clear hfz6_0
        try clear hfz6_1
        try clear hfz6_2
        try clear hfz6_3
        try clear hfz6_4
        try clear hfz6_5
        try clear hfz6_6
        try clear hfz6_7
        try clear hfz6_8
        try clear hfz6_9
        obtain ⟨kq, x16_9, rfl, HA, HJ9, BK110, HB⟩ := hcut
        cases kq with
        | zero => exact absurd HA.out (by simp [quirks_Needs.j0])
        | succ kj9 =>
          have H := HA.out
          clear HA
          simp only [quirks_Needs.j0] at H
          by_cases c16 : x16_9 = true
          · subst c16
            have H1 : (some a2_8) = some r := by rw [if_pos rfl] at H; exact H
            clear H
            have H := H1
            clear H1
            obtain rfl := Option.some.inj H
            have hcz17_0 : wc.cell? ⟨gb110, 0, none⟩ = some (.int .i64 a2_0) := (blk_cell BK110.out 0).trans rfl
            have hcz17_1 : wc.cell? ⟨gb110, 1, none⟩ = some (.int .i64 a2_1) := (blk_cell BK110.out 1).trans rfl
            have hcz17_2 : wc.cell? ⟨gb110, 2, none⟩ = some (.int .i64 a2_2) := (blk_cell BK110.out 2).trans rfl
            have hcz17_3 : wc.cell? ⟨gb110, 3, none⟩ = some (.int .i64 a2_3) := (blk_cell BK110.out 3).trans rfl
            have hcz17_4 : wc.cell? ⟨gb110, 4, none⟩ = some (.int .i64 a2_4) := (blk_cell BK110.out 4).trans rfl
            have hcz17_5 : wc.cell? ⟨gb110, 5, none⟩ = some (.int .i64 a2_5) := (blk_cell BK110.out 5).trans rfl
            have hcz17_6 : wc.cell? ⟨gb110, 6, none⟩ = some (.int .i64 a2_6) := (blk_cell BK110.out 6).trans rfl
            have hcz17_7 : wc.cell? ⟨gb110, 7, none⟩ = some (.int .i64 a2_7) := (blk_cell BK110.out 7).trans rfl
            have hcz17_8 : wc.cell? ⟨gb110, 8, none⟩ = some (.bool a2_8) := (blk_cell BK110.out 8).trans rfl
            have hcz17_9 : wc.cell? ⟨gb110, 9, none⟩ = some (.bool a2_9) := (blk_cell BK110.out 9).trans rfl
            have hfz17_0 := blk_frozen BK110.out 0
            have hfz17_1 := blk_frozen BK110.out 1
            have hfz17_2 := blk_frozen BK110.out 2
            have hfz17_3 := blk_frozen BK110.out 3
            have hfz17_4 := blk_frozen BK110.out 4
            have hfz17_5 := blk_frozen BK110.out 5
            have hfz17_6 := blk_frozen BK110.out 6
            have hfz17_7 := blk_frozen BK110.out 7
            have hfz17_8 := blk_frozen BK110.out 8
            have hfz17_9 := blk_frozen BK110.out 9
            go_wp2
            go_ret
            exact ⟨by first | rfl | (simp [errW_none, errW_some] <;> rfl) | (simp [*, errW_none, errW_some] <;> rfl), by repeat (first | (with_reducible first | exact HB.out | apply below_alloc | apply pw_below_drewN | apply below_drew1 | refine below_set ?_ GE110.out) | exact HB.out)⟩
          · replace c16 := Bool.eq_false_iff.mpr c16
            subst c16
            have H1 : (if a0 = 20 then (if a2_9 = true then (if a2_8 = true then (some true) else ((quirks_Has.f a1 19).bind fun t112 => (if t112 = true then (some true) else ((quirks_Has.f a1 22).bind fun t113 => (if t113 = true then ((quirks_Has.f a1 21).bind fun t114 => (some (!t114))) else (some false)))))) else (some false)) else (if a0 = 26 then ((quirks_Has.f a1 25).bind fun t115 => (some (!t115))) else (if a0 = 22 then ((quirks_Has.f a1 21).bind fun t116 => (some (!t116))) else ((quirks_known.f a0).bind fun t117 => (some t117))))) = some r := by rw [if_neg (show ¬ (false = true) by decide)] at H; exact H
            clear H
            have H := H1
            clear H1
            by_cases c18 : a0 = 20
            · rw [if_pos c18] at H
              have c18b0 : (a0 == 20) = true := beq_iff_eq.mpr c18
              have c18b1 : (a0 != 20) = false := bne_eq_false_iff_eq.mpr c18
              clear c18
              by_cases c19 : a2_9 = true
              · subst c19
                have H1 : (if a2_8 = true then (some true) else ((quirks_Has.f a1 19).bind fun t112 => (if t112 = true then (some true) else ((quirks_Has.f a1 22).bind fun t113 => (if t113 = true then ((quirks_Has.f a1 21).bind fun t114 => (some (!t114))) else (some false)))))) = some r := by rw [if_pos rfl] at H; exact H
                clear H
                have H := H1
                clear H1
                by_cases c20 : a2_8 = true
                · subst c20
                  have H1 : (some true) = some r := by rw [if_pos rfl] at H; exact H
                  clear H
                  have H := H1
                  clear H1
                  obtain rfl := Option.some.inj H
                  have hcz21_0 : wc.cell? ⟨gb110, 0, none⟩ = some (.int .i64 a2_0) := (blk_cell BK110.out 0).trans rfl
                  have hcz21_1 : wc.cell? ⟨gb110, 1, none⟩ = some (.int .i64 a2_1) := (blk_cell BK110.out 1).trans rfl
                  have hcz21_2 : wc.cell? ⟨gb110, 2, none⟩ = some (.int .i64 a2_2) := (blk_cell BK110.out 2).trans rfl
                  have hcz21_3 : wc.cell? ⟨gb110, 3, none⟩ = some (.int .i64 a2_3) := (blk_cell BK110.out 3).trans rfl
                  have hcz21_4 : wc.cell? ⟨gb110, 4, none⟩ = some (.int .i64 a2_4) := (blk_cell BK110.out 4).trans rfl
                  have hcz21_5 : wc.cell? ⟨gb110, 5, none⟩ = some (.int .i64 a2_5) := (blk_cell BK110.out 5).trans rfl
                  have hcz21_6 : wc.cell? ⟨gb110, 6, none⟩ = some (.int .i64 a2_6) := (blk_cell BK110.out 6).trans rfl
                  have hcz21_7 : wc.cell? ⟨gb110, 7, none⟩ = some (.int .i64 a2_7) := (blk_cell BK110.out 7).trans rfl
                  have hcz21_8 : wc.cell? ⟨gb110, 8, none⟩ = some (.bool true) := (blk_cell BK110.out 8).trans rfl
                  have hcz21_9 : wc.cell? ⟨gb110, 9, none⟩ = some (.bool true) := (blk_cell BK110.out 9).trans rfl
                  have hfz21_0 := blk_frozen BK110.out 0
                  have hfz21_1 := blk_frozen BK110.out 1
                  have hfz21_2 := blk_frozen BK110.out 2
                  have hfz21_3 := blk_frozen BK110.out 3
                  have hfz21_4 := blk_frozen BK110.out 4
                  have hfz21_5 := blk_frozen BK110.out 5
                  have hfz21_6 := blk_frozen BK110.out 6
                  have hfz21_7 := blk_frozen BK110.out 7
                  have hfz21_8 := blk_frozen BK110.out 8
                  have hfz21_9 := blk_frozen BK110.out 9
                  go_wp2
                  go_ret
                  exact ⟨by first | rfl | (simp [errW_none, errW_some] <;> rfl) | (simp [*, errW_none, errW_some] <;> rfl), by repeat (first | (with_reducible first | exact HB.out | apply below_alloc | apply pw_below_drewN | apply below_drew1 | refine below_set ?_ GE110.out) | exact HB.out)⟩
                · replace c20 := Bool.eq_false_iff.mpr c20
                  subst c20
                  have H1 : ((quirks_Has.f a1 19).bind fun t112 => (if t112 = true then (some true) else ((quirks_Has.f a1 22).bind fun t113 => (if t113 = true then ((quirks_Has.f a1 21).bind fun t114 => (some (!t114))) else (some false))))) = some r := by rw [if_neg (show ¬ (false = true) by decide)] at H; exact H
                  clear H
                  have H := H1
                  clear H1
                  replace H := Option.bind_eq_some_iff.mp H
                  obtain ⟨t112, A220, H⟩ := H
                  replace H : (if t112 = true then (some true) else ((quirks_Has.f a1 22).bind fun t113 => (if t113 = true then ((quirks_Has.f a1 21).bind fun t114 => (some (!t114))) else (some false)))) = some r := H
                  have A22 := Aside0.mk A220
                  clear A220
                  by_cases c23 : t112 = true
                  · subst c23
                    have H1 : (some true) = some r := by rw [if_pos rfl] at H; exact H
                    clear H
                    have H := H1
                    clear H1
                    obtain rfl := Option.some.inj H
                    have hcz24_0 : wc.cell? ⟨gb110, 0, none⟩ = some (.int .i64 a2_0) := (blk_cell BK110.out 0).trans rfl
                    have hcz24_1 : wc.cell? ⟨gb110, 1, none⟩ = some (.int .i64 a2_1) := (blk_cell BK110.out 1).trans rfl
                    have hcz24_2 : wc.cell? ⟨gb110, 2, none⟩ = some (.int .i64 a2_2) := (blk_cell BK110.out 2).trans rfl
                    have hcz24_3 : wc.cell? ⟨gb110, 3, none⟩ = some (.int .i64 a2_3) := (blk_cell BK110.out 3).trans rfl
                    have hcz24_4 : wc.cell? ⟨gb110, 4, none⟩ = some (.int .i64 a2_4) := (blk_cell BK110.out 4).trans rfl
                    have hcz24_5 : wc.cell? ⟨gb110, 5, none⟩ = some (.int .i64 a2_5) := (blk_cell BK110.out 5).trans rfl
                    have hcz24_6 : wc.cell? ⟨gb110, 6, none⟩ = some (.int .i64 a2_6) := (blk_cell BK110.out 6).trans rfl
                    have hcz24_7 : wc.cell? ⟨gb110, 7, none⟩ = some (.int .i64 a2_7) := (blk_cell BK110.out 7).trans rfl
                    have hcz24_8 : wc.cell? ⟨gb110, 8, none⟩ = some (.bool false) := (blk_cell BK110.out 8).trans rfl
                    have hcz24_9 : wc.cell? ⟨gb110, 9, none⟩ = some (.bool true) := (blk_cell BK110.out 9).trans rfl
                    have hfz24_0 := blk_frozen BK110.out 0
                    have hfz24_1 := blk_frozen BK110.out 1
                    have hfz24_2 := blk_frozen BK110.out 2
                    have hfz24_3 := blk_frozen BK110.out 3
                    have hfz24_4 := blk_frozen BK110.out 4
                    have hfz24_5 := blk_frozen BK110.out 5
                    have hfz24_6 := blk_frozen BK110.out 6
                    have hfz24_7 := blk_frozen BK110.out 7
                    have hfz24_8 := blk_frozen BK110.out 8
                    have hfz24_9 := blk_frozen BK110.out 9
                    go_wp2_with (first | (go_at_call 9; (with_reducible refine (quirks_Has.calls a1 19 true _ A22.out).mono ?_); rintro e w' ⟨rfl, ⟨nd, rfl⟩⟩))
                    go_ret
                    exact ⟨by first | rfl | (simp [errW_none, errW_some] <;> rfl) | (simp [*, errW_none, errW_some] <;> rfl), by repeat (first | (with_reducible first | exact HB.out | apply below_alloc | apply pw_below_drewN | apply below_drew1 | refine below_set ?_ GE110.out) | exact HB.out)⟩
                  · replace c23 := Bool.eq_false_iff.mpr c23
                    subst c23
                    have H1 : ((quirks_Has.f a1 22).bind fun t113 => (if t113 = true then ((quirks_Has.f a1 21).bind fun t114 => (some (!t114))) else (some false))) = some r := by rw [if_neg (show ¬ (false = true) by decide)] at H; exact H
                    clear H
                    have H := H1
                    clear H1
                    replace H := Option.bind_eq_some_iff.mp H
                    obtain ⟨t113, A250, H⟩ := H
                    replace H : (if t113 = true then ((quirks_Has.f a1 21).bind fun t114 => (some (!t114))) else (some false)) = some r := H
                    have A25 := Aside0.mk A250
                    clear A250
                    by_cases c26 : t113 = true
                    · subst c26
                      have H1 : ((quirks_Has.f a1 21).bind fun t114 => (some (!t114))) = some r := by rw [if_pos rfl] at H; exact H
                      clear H
                      have H := H1
                      clear H1
                      replace H := Option.bind_eq_some_iff.mp H
                      obtain ⟨t114, A270, H⟩ := H
                      replace H : (some (!t114)) = some r := H
                      have A27 := Aside0.mk A270
                      clear A270
                      obtain rfl := Option.some.inj H
                      have hcz28_0 : wc.cell? ⟨gb110, 0, none⟩ = some (.int .i64 a2_0) := (blk_cell BK110.out 0).trans rfl
                      have hcz28_1 : wc.cell? ⟨gb110, 1, none⟩ = some (.int .i64 a2_1) := (blk_cell BK110.out 1).trans rfl
                      have hcz28_2 : wc.cell? ⟨gb110, 2, none⟩ = some (.int .i64 a2_2) := (blk_cell BK110.out 2).trans rfl
                      have hcz28_3 : wc.cell? ⟨gb110, 3, none⟩ = some (.int .i64 a2_3) := (blk_cell BK110.out 3).trans rfl
                      have hcz28_4 : wc.cell? ⟨gb110, 4, none⟩ = some (.int .i64 a2_4) := (blk_cell BK110.out 4).trans rfl
                      have hcz28_5 : wc.cell? ⟨gb110, 5, none⟩ = some (.int .i64 a2_5) := (blk_cell BK110.out 5).trans rfl
                      have hcz28_6 : wc.cell? ⟨gb110, 6, none⟩ = some (.int .i64 a2_6) := (blk_cell BK110.out 6).trans rfl
                      have hcz28_7 : wc.cell? ⟨gb110, 7, none⟩ = some (.int .i64 a2_7) := (blk_cell BK110.out 7).trans rfl
                      have hcz28_8 : wc.cell? ⟨gb110, 8, none⟩ = some (.bool false) := (blk_cell BK110.out 8).trans rfl
                      have hcz28_9 : wc.cell? ⟨gb110, 9, none⟩ = some (.bool true) := (blk_cell BK110.out 9).trans rfl
                      have hfz28_0 := blk_frozen BK110.out 0
                      have hfz28_1 := blk_frozen BK110.out 1
                      have hfz28_2 := blk_frozen BK110.out 2
                      have hfz28_3 := blk_frozen BK110.out 3
                      have hfz28_4 := blk_frozen BK110.out 4
                      have hfz28_5 := blk_frozen BK110.out 5
                      have hfz28_6 := blk_frozen BK110.out 6
                      have hfz28_7 := blk_frozen BK110.out 7
                      have hfz28_8 := blk_frozen BK110.out 8
                      have hfz28_9 := blk_frozen BK110.out 9
                      go_wp2_with (first | (go_at_call 9; (with_reducible refine (quirks_Has.calls a1 19 false _ A22.out).mono ?_); rintro e w' ⟨rfl, ⟨nd, rfl⟩⟩) | (go_at_call 9; (with_reducible refine (quirks_Has.calls a1 22 true _ A25.out).mono ?_); rintro e w' ⟨rfl, ⟨nd, rfl⟩⟩) | (go_at_call 9; (with_reducible refine (quirks_Has.calls a1 21 t114 _ A27.out).mono ?_); rintro e w' ⟨rfl, ⟨nd, rfl⟩⟩))
                      go_ret
                      exact ⟨by first | rfl | (simp [errW_none, errW_some] <;> rfl) | (simp [*, errW_none, errW_some] <;> rfl), by repeat (first | (with_reducible first | exact HB.out | apply below_alloc | apply pw_below_drewN | apply below_drew1 | refine below_set ?_ GE110.out) | exact HB.out)⟩
                    · replace c26 := Bool.eq_false_iff.mpr c26
                      subst c26
                      have H1 : (some false) = some r := by rw [if_neg (show ¬ (false = true) by decide)] at H; exact H
                      clear H
                      have H := H1
                      clear H1
                      obtain rfl := Option.some.inj H
                      have hcz29_0 : wc.cell? ⟨gb110, 0, none⟩ = some (.int .i64 a2_0) := (blk_cell BK110.out 0).trans rfl
                      have hcz29_1 : wc.cell? ⟨gb110, 1, none⟩ = some (.int .i64 a2_1) := (blk_cell BK110.out 1).trans rfl
                      have hcz29_2 : wc.cell? ⟨gb110, 2, none⟩ = some (.int .i64 a2_2) := (blk_cell BK110.out 2).trans rfl
                      have hcz29_3 : wc.cell? ⟨gb110, 3, none⟩ = some (.int .i64 a2_3) := (blk_cell BK110.out 3).trans rfl
                      have hcz29_4 : wc.cell? ⟨gb110, 4, none⟩ = some (.int .i64 a2_4) := (blk_cell BK110.out 4).trans rfl
                      have hcz29_5 : wc.cell? ⟨gb110, 5, none⟩ = some (.int .i64 a2_5) := (blk_cell BK110.out 5).trans rfl
                      have hcz29_6 : wc.cell? ⟨gb110, 6, none⟩ = some (.int .i64 a2_6) := (blk_cell BK110.out 6).trans rfl
                      have hcz29_7 : wc.cell? ⟨gb110, 7, none⟩ = some (.int .i64 a2_7) := (blk_cell BK110.out 7).trans rfl
                      have hcz29_8 : wc.cell? ⟨gb110, 8, none⟩ = some (.bool false) := (blk_cell BK110.out 8).trans rfl
                      have hcz29_9 : wc.cell? ⟨gb110, 9, none⟩ = some (.bool true) := (blk_cell BK110.out 9).trans rfl
                      have hfz29_0 := blk_frozen BK110.out 0
                      have hfz29_1 := blk_frozen BK110.out 1
                      have hfz29_2 := blk_frozen BK110.out 2
                      have hfz29_3 := blk_frozen BK110.out 3
                      have hfz29_4 := blk_frozen BK110.out 4
                      have hfz29_5 := blk_frozen BK110.out 5
                      have hfz29_6 := blk_frozen BK110.out 6
                      have hfz29_7 := blk_frozen BK110.out 7
                      have hfz29_8 := blk_frozen BK110.out 8
                      have hfz29_9 := blk_frozen BK110.out 9
                      go_wp2_with (first | (go_at_call 9; (with_reducible refine (quirks_Has.calls a1 19 false _ A22.out).mono ?_); rintro e w' ⟨rfl, ⟨nd, rfl⟩⟩) | (go_at_call 9; (with_reducible refine (quirks_Has.calls a1 22 false _ A25.out).mono ?_); rintro e w' ⟨rfl, ⟨nd, rfl⟩⟩))
                      go_ret
                      exact ⟨by first | rfl | (simp [errW_none, errW_some] <;> rfl) | (simp [*, errW_none, errW_some] <;> rfl), by repeat (first | (with_reducible first | exact HB.out | apply below_alloc | apply pw_below_drewN | apply below_drew1 | refine below_set ?_ GE110.out) | exact HB.out)⟩
              · replace c19 := Bool.eq_false_iff.mpr c19
                subst c19
                have H1 : (some false) = some r := by rw [if_neg (show ¬ (false = true) by decide)] at H; exact H
                clear H
                have H := H1
                clear H1
                obtain rfl := Option.some.inj H
                have hcz30_0 : wc.cell? ⟨gb110, 0, none⟩ = some (.int .i64 a2_0) := (blk_cell BK110.out 0).trans rfl
                have hcz30_1 : wc.cell? ⟨gb110, 1, none⟩ = some (.int .i64 a2_1) := (blk_cell BK110.out 1).trans rfl
                have hcz30_2 : wc.cell? ⟨gb110, 2, none⟩ = some (.int .i64 a2_2) := (blk_cell BK110.out 2).trans rfl
                have hcz30_3 : wc.cell? ⟨gb110, 3, none⟩ = some (.int .i64 a2_3) := (blk_cell BK110.out 3).trans rfl
                have hcz30_4 : wc.cell? ⟨gb110, 4, none⟩ = some (.int .i64 a2_4) := (blk_cell BK110.out 4).trans rfl
                have hcz30_5 : wc.cell? ⟨gb110, 5, none⟩ = some (.int .i64 a2_5) := (blk_cell BK110.out 5).trans rfl
                have hcz30_6 : wc.cell? ⟨gb110, 6, none⟩ = some (.int .i64 a2_6) := (blk_cell BK110.out 6).trans rfl
                have hcz30_7 : wc.cell? ⟨gb110, 7, none⟩ = some (.int .i64 a2_7) := (blk_cell BK110.out 7).trans rfl
                have hcz30_8 : wc.cell? ⟨gb110, 8, none⟩ = some (.bool a2_8) := (blk_cell BK110.out 8).trans rfl
                have hcz30_9 : wc.cell? ⟨gb110, 9, none⟩ = some (.bool false) := (blk_cell BK110.out 9).trans rfl
                have hfz30_0 := blk_frozen BK110.out 0
                have hfz30_1 := blk_frozen BK110.out 1
                have hfz30_2 := blk_frozen BK110.out 2
                have hfz30_3 := blk_frozen BK110.out 3
                have hfz30_4 := blk_frozen BK110.out 4
                have hfz30_5 := blk_frozen BK110.out 5
                have hfz30_6 := blk_frozen BK110.out 6
                have hfz30_7 := blk_frozen BK110.out 7
                have hfz30_8 := blk_frozen BK110.out 8
                have hfz30_9 := blk_frozen BK110.out 9
                go_wp2
                go_ret
                exact ⟨by first | rfl | (simp [errW_none, errW_some] <;> rfl) | (simp [*, errW_none, errW_some] <;> rfl), by repeat (first | (with_reducible first | exact HB.out | apply below_alloc | apply pw_below_drewN | apply below_drew1 | refine below_set ?_ GE110.out) | exact HB.out)⟩
            · rw [if_neg c18] at H
              have c18b0 : (a0 == 20) = false := beq_eq_false_iff_ne.mpr c18
              have c18b1 : (a0 != 20) = true := bne_iff_ne.mpr c18
              by_cases c31 : a0 = 26
              · rw [if_pos c31] at H
                have c31b0 : (a0 == 26) = true := beq_iff_eq.mpr c31
                have c31b1 : (a0 != 26) = false := bne_eq_false_iff_eq.mpr c31
                clear c31
                replace H := Option.bind_eq_some_iff.mp H
                obtain ⟨t115, A320, H⟩ := H
                replace H : (some (!t115)) = some r := H
                have A32 := Aside0.mk A320
                clear A320
                obtain rfl := Option.some.inj H
                go_wp2_with (first | ((with_reducible refine gate_callee (f := 9) rfl ?_); refine goesL_ (some 48) rfl rfl Tryd.func9 (by kernel_rfl) rfl #[.int .u32 a1, .int .i64 25] rfl (by (try simp only [List.map_toArray, List.map_cons, List.map_nil]); first | done | rfl | (simp only [List.length_drop, List.length_take]; rfl)) ?_; (with_reducible refine (quirks_Has.calls a1 25 t115 _ A32.out).mono ?_); rintro e w' ⟨rfl, ⟨nd, rfl⟩⟩; refine ⟨_, rfl, ?_⟩))
                go_ret
                exact ⟨by first | rfl | (simp [errW_none, errW_some] <;> rfl) | (simp [*, errW_none, errW_some] <;> rfl), by repeat (first | (with_reducible first | exact HB.out | apply below_alloc | apply pw_below_drewN | apply below_drew1 | refine below_set ?_ GE110.out) | exact HB.out)⟩
              · rw [if_neg c31] at H
                have c31b0 : (a0 == 26) = false := beq_eq_false_iff_ne.mpr c31
                have c31b1 : (a0 != 26) = true := bne_iff_ne.mpr c31
                by_cases c33 : a0 = 22
                · rw [if_pos c33] at H
                  have c33b0 : (a0 == 22) = true := beq_iff_eq.mpr c33
                  have c33b1 : (a0 != 22) = false := bne_eq_false_iff_eq.mpr c33
                  clear c33
                  replace H := Option.bind_eq_some_iff.mp H
                  obtain ⟨t116, A340, H⟩ := H
                  replace H : (some (!t116)) = some r := H
                  have A34 := Aside0.mk A340
                  clear A340
                  obtain rfl := Option.some.inj H
                  go_wp2_with (first | ((with_reducible refine gate_callee (f := 9) rfl ?_); refine goesL_ (some 53) rfl rfl Tryd.func9 (by kernel_rfl) rfl #[.int .u32 a1, .int .i64 21] rfl (by (try simp only [List.map_toArray, List.map_cons, List.map_nil]); first | done | rfl | (simp only [List.length_drop, List.length_take]; rfl)) ?_; (with_reducible refine (quirks_Has.calls a1 21 t116 _ A34.out).mono ?_); rintro e w' ⟨rfl, ⟨nd, rfl⟩⟩; refine ⟨_, rfl, ?_⟩))
                  go_ret
                  exact ⟨by first | rfl | (simp [errW_none, errW_some] <;> rfl) | (simp [*, errW_none, errW_some] <;> rfl), by repeat (first | (with_reducible first | exact HB.out | apply below_alloc | apply pw_below_drewN | apply below_drew1 | refine below_set ?_ GE110.out) | exact HB.out)⟩
                · rw [if_neg c33] at H
                  have c33b0 : (a0 == 22) = false := beq_eq_false_iff_ne.mpr c33
                  have c33b1 : (a0 != 22) = true := bne_iff_ne.mpr c33
                  replace H := Option.bind_eq_some_iff.mp H
                  obtain ⟨t117, A350, H⟩ := H
                  replace H : (some t117) = some r := H
                  have A35 := Aside0.mk A350
                  clear A350
                  obtain rfl := Option.some.inj H
                  go_wp2_with (first | ((with_reducible refine gate_callee (f := 25) rfl ?_); refine goesL_ (some 56) rfl rfl Tryd.func25 (by kernel_rfl) rfl #[.int .i64 a0] rfl (by (try simp only [List.map_toArray, List.map_cons, List.map_nil]); first | done | rfl | (simp only [List.length_drop, List.length_take]; rfl)) ?_; (with_reducible refine (quirks_known.calls a0 t117 _ A35.out).mono ?_); rintro e w' ⟨rfl, ⟨nd, rfl⟩⟩; refine ⟨_, rfl, ?_⟩))
                  go_ret
                  exact ⟨by first | rfl | (simp [errW_none, errW_some] <;> rfl) | (simp [*, errW_none, errW_some] <;> rfl), by repeat (first | (with_reducible first | exact HB.out | apply below_alloc | apply pw_below_drewN | apply below_drew1 | refine below_set ?_ GE110.out) | exact HB.out)⟩

/-! ### slices_Index_string_string: function 29 -/
def slices_Index_string_string.l0 : Nat → List ByteArray → ByteArray → Int → Int → Option (Int)
  | 0, _, _, _, _ => none
  | k + 1, x0, x1, x7, x8 => if x8 < x7 then (if 0 ≤ x8 then (if x8 < (x0.length : Int) then (if x1.toList = (rdOf ByteArray.empty x0 x8).toList then (some x8) else (slices_Index_string_string.l0 k x0 x1 x7 (wrap64 (x8 + 1)))) else (none)) else (none)) else (some (-1))
def slices_Index_string_string.f (k : Nat) (l0 : List ByteArray) (a1 : ByteArray) : Option (Int) := slices_Index_string_string.l0 k l0 a1 (l0.length : Int) 0
theorem slices_Index_string_string.mono_l : ∀ k, (∀ y0 y1 y2 y3, LeO (slices_Index_string_string.l0 k y0 y1 y2 y3) (slices_Index_string_string.l0 (k + 1) y0 y1 y2 y3))
  | 0 => fun _ _ _ _ r h => by simp [slices_Index_string_string.l0] at h
  | k + 1 => by
    have ih0 := slices_Index_string_string.mono_l k
    · intro y0 y1 y2 y3
      unfold slices_Index_string_string.l0
      repeat' first
      | (with_reducible exact ih0 _ _ _ _)
      | (with_reducible exact LeO.refl _)
      | (with_reducible exact LeO.none _)
      | (with_reducible refine LeO.ite ?_ ?_)
      | (with_reducible refine LeO.bind ?_ (fun _ => ?_))
      | exact ih0 _ _ _ _
      | exact LeO.none _
      | refine LeO.ite ?_ ?_
      | refine LeO.bind ?_ (fun _ => ?_)
theorem slices_Index_string_string.mono : ∀ a0 a1 k, LeO (slices_Index_string_string.f k a0 a1) (slices_Index_string_string.f (k + 1) a0 a1) := by
  intro a0 a1 k
  have ih0 := slices_Index_string_string.mono_l k
  unfold slices_Index_string_string.f
  repeat' first
      | (with_reducible exact ih0 _ _ _ _)
      | (with_reducible exact LeO.refl _)
      | (with_reducible exact LeO.none _)
      | (with_reducible refine LeO.ite ?_ ?_)
      | (with_reducible refine LeO.bind ?_ (fun _ => ?_))
      | exact ih0 _ _ _ _
      | exact LeO.none _
      | refine LeO.ite ?_ ?_
      | refine LeO.bind ?_ (fun _ => ?_)
set_option maxHeartbeats 8000000 in
set_option maxRecDepth 100000 in
theorem slices_Index_string_string.calls (k : Nat) (A0 : Option Addr) (c0 : Nat) (l0 : List ByteArray) (a1 : ByteArray) (r : Int) (w : World) (hr0 : Kd.C Kd.string w A0 l0.length l0) (hc0 : l0.length ≤ c0) (h : slices_Index_string_string.f k l0 a1 = some r) :
    Calls Tryd.prog 29 #[.slice A0 l0.length c0, .string a1] w fun e w' => e = .returned (.int .i64 r) ∧ Drawn0 w w' := by
  have HR0 := Aside0.mk hr0
  have HC0 := Aside0.mk hc0
  clear hr0 hc0
  have H : (slices_Index_string_string.l0 k l0 a1 (l0.length : Int) 0) = some r := h
  clear h
  have H' := Aside0.mk H
  clear H
  go_enter Tryd.func29, Tryd.ntmps29
  go_wp2
  go_loopg [8] k (fun kq v8 w' => ∃ (x8_1 : Int), v8 = .int .i64 x8_1 ∧ Aside0 (slices_Index_string_string.l0 kq l0 a1 (l0.length : Int) x8_1 = some r) ∧ Aside0 (kq ≤ k) ∧ Drawn0 w w')
  case atStart => exact ⟨(0), (by first | rfl | (simp; done) | (simp [*]; done)), H', ⟨Nat.le_refl _⟩, by repeat (first | exact Drawn0.refl _ | apply Drawn0.step)⟩
  case round =>
    clear H'
    try clear c2
    try clear p2
    obtain ⟨x8_1, rfl, HA, HK1, ⟨m1, rfl⟩⟩ := hrel
    cases gk with
    | zero => exact absurd HA.out (by simp [slices_Index_string_string.l0])
    | succ k1 =>
      have H := HA.out
      clear HA
      simp only [slices_Index_string_string.l0] at H
      by_cases c3 : x8_1 < (l0.length : Int)
      · rw [if_pos c3] at H
        have c3b0 : decide (x8_1 < (l0.length : Int)) = true := decide_eq_true c3
        clear c3
        by_cases c4 : 0 ≤ x8_1
        · rw [if_pos c4] at H
          have c4b0 : decide (0 ≤ x8_1) = true := decide_eq_true c4
          clear c4
          by_cases c5 : x8_1 < (l0.length : Int)
          · rw [if_pos c5] at H
            have c5b0 : decide (x8_1 < (l0.length : Int)) = true := decide_eq_true c5
            clear c5
            by_cases c6 : a1.toList = (rdOf ByteArray.empty l0 x8_1).toList
            · rw [if_pos c6] at H
              have c6b0 : (a1.toList == (rdOf ByteArray.empty l0 x8_1).toList) = true := beq_iff_eq.mpr c6
              have c6b1 : (a1.toList != (rdOf ByteArray.empty l0 x8_1).toList) = false := bne_eq_false_iff_eq.mpr c6
              clear c6
              obtain rfl := Option.some.inj H
              have p118 : 0 ≤ (x8_1 : Int) := of_decide_eq_true (by first | (with_reducible assumption) | assumption)
              have q118 : x8_1 < (l0.length : Int) := of_decide_eq_true (by first | (with_reducible assumption) | assumption)
              obtain ⟨ad118, e118, hx118_0⟩ := Kd.at_string HR0.out x8_1 p118 q118
              cases e118
              replace p118 := eq_true p118
              replace q118 := eq_true q118
              go_wp2
              go_ret
              exact ⟨by first | rfl | (simp; done) | (simp [*]; done), by repeat (first | exact Drawn0.refl _ | apply Drawn0.step)⟩
            · rw [if_neg c6] at H
              have c6b0 : (a1.toList == (rdOf ByteArray.empty l0 x8_1).toList) = false := beq_eq_false_iff_ne.mpr c6
              have c6b1 : (a1.toList != (rdOf ByteArray.empty l0 x8_1).toList) = true := bne_iff_ne.mpr c6
              have H' := Aside0.mk H
              clear H
              have p118 : 0 ≤ (x8_1 : Int) := of_decide_eq_true (by first | (with_reducible assumption) | assumption)
              have q118 : x8_1 < (l0.length : Int) := of_decide_eq_true (by first | (with_reducible assumption) | assumption)
              obtain ⟨ad118, e118, hx118_0⟩ := Kd.at_string HR0.out x8_1 p118 q118
              cases e118
              replace p118 := eq_true p118
              replace q118 := eq_true q118
              go_wp2
              go_roundg k1
              case measure => have := HK1.out; omega
              case rel => exact ⟨(wrap64 (x8_1 + 1)), (by first | rfl | (simp; done) | (simp [*]; done)), H', ⟨by have := HK1.out; omega⟩, by repeat (first | exact Drawn0.refl _ | apply Drawn0.step)⟩
          · rw [if_neg c5] at H
            exact absurd H (by simp)
        · rw [if_neg c4] at H
          exact absurd H (by simp)
      · rw [if_neg c3] at H
        have c3b0 : decide (x8_1 < (l0.length : Int)) = false := decide_eq_false c3
        clear c3
        obtain rfl := Option.some.inj H
        go_wp2
        go_ret
        exact ⟨by first | rfl | (simp; done) | (simp [*]; done), by repeat (first | exact Drawn0.refl _ | apply Drawn0.step)⟩

/-! ### quirks_Find: function 16 -/
def quirks_Find.f (k : Nat) (a0 : ByteArray) : Option (Int × Bool) := (quirks_names.f).bind fun t119 => ((slices_Index_string_string.f k t119 a0).bind fun t122 => (some (mx t122 0, decide (t122 ≥ 0))))
theorem quirks_Find.mono : ∀ a0 k, LeO (quirks_Find.f k a0) (quirks_Find.f (k + 1) a0) := by
  intro a0 k
  unfold quirks_Find.f
  repeat' first
      | (with_reducible exact slices_Index_string_string.mono _ _ _)
      | (with_reducible exact LeO.refl _)
      | (with_reducible exact LeO.none _)
      | (with_reducible refine LeO.ite ?_ ?_)
      | (with_reducible refine LeO.bind ?_ (fun _ => ?_))
      | exact slices_Index_string_string.mono _ _ _
      | exact LeO.none _
      | refine LeO.ite ?_ ?_
      | refine LeO.bind ?_ (fun _ => ?_)
set_option maxHeartbeats 8000000 in
set_option maxRecDepth 100000 in
theorem quirks_Find.calls (k : Nat) (a0 : ByteArray) (r1 : Int) (r2 : Bool) (w : World) (hL : Laid.LaidX w) (h : quirks_Find.f k a0 = some (r1, r2)) :
    Calls Tryd.prog 16 #[.string a0] w fun e w' => e = .returned (.tuple #[.int .i64 r1, .bool r2]) ∧ Below w.heap.size w w' := by
  have HB := Aside0.mk (Below.refl w.heap.size w)
  have HLX := Aside0.mk hL
  clear hL
  have H : ((quirks_names.f).bind fun t119 => ((slices_Index_string_string.f k t119 a0).bind fun t122 => (some (mx t122 0, decide (t122 ≥ 0))))) = some (r1, r2) := h
  clear h
  replace H := Option.bind_eq_some_iff.mp H
  obtain ⟨t119, A20, H⟩ := H
  replace H : ((slices_Index_string_string.f k t119 a0).bind fun t122 => (some (mx t122 0, decide (t122 ≥ 0)))) = some (r1, r2) := H
  have A2 := Aside0.mk A20
  clear A20
  replace H := Option.bind_eq_some_iff.mp H
  obtain ⟨t122, A30, H⟩ := H
  replace H : (some (mx t122 0, decide (t122 ≥ 0))) = some (r1, r2) := H
  have A3 := Aside0.mk A30
  clear A30
  obtain ⟨ji4, hji4⟩ : ∃ j_ : Int, (mx t122 0) = j_ := ⟨_, rfl⟩
  replace H : (some (ji4, decide (t122 ≥ 0))) = some (r1, r2) := by first | (rw [hji4] at H; exact H) | (simp only [hji4] at H ⊢; exact H)
  (try rw [hji4] at A2)
  (try rw [hji4] at A3)
  (try (have hji4l : 0 ≤ ji4 := by (rw [← hji4]; unfold mx; (repeat' split) <;> omega)))
  (try (have hji4m : 0 ≤ ji4 := by omega))
  have hji4_ : (if t122 < 0 then 0 else t122) = ji4 := hji4
  simp only [Option.some.injEq, Prod.mk.injEq] at H
  obtain ⟨rfl, rfl⟩ := H
  go_enter Tryd.func16, Tryd.ntmps16
  go_wp2_with (first | ((with_reducible refine gate_callee (f := 26) rfl ?_); refine goesL_ (some 5) rfl rfl Tryd.func26 (by kernel_rfl) rfl #[] rfl (by (try simp only [List.map_toArray, List.map_cons, List.map_nil]); first | done | rfl | (simp only [List.length_drop, List.length_take]; rfl)) ?_; (with_reducible refine (quirks_names.calls  t119 _ ?side1 A2.out).mono ?_); (case side1 => exact Laid.below HLX.out (by repeat (first | (with_reducible first | exact HB.out | apply below_alloc | apply pw_below_drewN | apply below_drew1) | exact HB.out))); rintro e w5 ⟨v120, rfl, ho0, hb⟩; refine ⟨_, rfl, ?_⟩; have n0_ := Aside0.mk (Kd.R_lower ho0 (below_size (by repeat (first | (with_reducible first | exact HB.out | apply below_alloc | apply pw_below_drewN | apply below_drew1) | exact HB.out)))); have n1_ := Aside0.mk (below_step (by repeat (first | (with_reducible first | exact HB.out | apply below_alloc | apply pw_below_drewN | apply below_drew1) | exact HB.out)) hb); clear HB; have HO121 := n0_; have HB := n1_; clear n0_ n1_; (try clear hb); (try clear hb2); (try clear hk); (try clear hi); (try clear ho0); obtain ⟨Ao6, co6, eo6⟩ := Kd.R_slice HO121.out; subst eo6) | ((with_reducible refine gate_callee (f := 29) rfl ?_); refine goesL_ (some 7) rfl rfl Tryd.func29 (by kernel_rfl) rfl #[.slice Ao6 t119.length co6, .string a0] rfl (by (try simp only [List.map_toArray, List.map_cons, List.map_nil]); first | done | rfl | (simp only [List.length_drop, List.length_take]; rfl)) ?_; (with_reducible refine (slices_Index_string_string.calls k _ _ t119 a0 t122 _ ?side1 ?side2 A3.out).mono ?_); (case side1 => repeat (first | exact (Kd.R_reads' HO121.out).2.2 | (with_reducible refine Kd.C_alloc ?_ _) | (with_reducible refine Kd.C_drewN ?_ _) | (with_reducible refine Kd.C_drew ?_))); (case side2 => exact (Kd.R_reads' HO121.out).2.1); rintro e w' ⟨rfl, ⟨nd, rfl⟩⟩; refine ⟨_, rfl, ?_⟩))
  go_ret2
  exact ⟨by first | rfl | (simp [errW_none, errW_some] <;> rfl) | (simp only [← hji4]; first | rfl | (simp [errW_none, errW_some] <;> rfl)) | (simp [*, errW_none, errW_some] <;> rfl), by repeat (first | (with_reducible first | exact HB.out | apply below_alloc | apply pw_below_drewN | apply below_drew1) | exact HB.out)⟩

/-! ### quirks_Right: function 18 -/
def quirks_Right.f (a0 : Int) : Option (Bool) := some ((a0 / 1073741824) == 0)
set_option maxHeartbeats 8000000 in
set_option maxRecDepth 100000 in
theorem quirks_Right.calls (a0 : Int) (r : Bool) (w : World) (h : quirks_Right.f a0 = some r) :
    Calls Tryd.prog 18 #[.int .u32 a0] w fun e w' => e = .returned (.bool r) ∧ Drawn0 w w' := by
  have H : (some ((a0 / 1073741824) == 0)) = some r := h
  clear h
  obtain rfl := Option.some.inj H
  go_enter Tryd.func18, Tryd.ntmps18
  go_wp2
  go_ret
  exact ⟨by first | rfl | (simp; done) | (simp [*]; done), by repeat (first | exact Drawn0.refl _ | apply Drawn0.step)⟩

end Go.Proofs.YtjnphebgbdjohaaDoor.PQuirksNames
