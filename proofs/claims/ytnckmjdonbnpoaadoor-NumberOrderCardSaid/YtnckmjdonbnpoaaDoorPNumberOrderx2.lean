-- Written by a program of this session (wip/tools/myprint.sh)
import Derived.Test.YtnckmjdonbnpoaaDoorPNumberOrderx0
import Derived.Test.YtnckmjdonbnpoaaDoorPNumberOrderx1
namespace Go.Proofs.YtnckmjdonbnpoaaDoor.PNumberOrder
open Go.RowKit Go.Proofs.YtnckmjdonbnpoaaDoorW.PrintWords Go.Proofs.YtnckmjdonbnpoaaDoorW.PrintLast Go.Proofs.YtnckmjdonbnpoaaDoorW.PrintMore
attribute [local go_sem] max2_int min2_int max_two min_two max_three min_three max_four min_four   -- for this text's walks alone
set_option linter.unusedVariables false
set_option linter.unusedSimpArgs false

/-! ### number_Dec: function 11 -/
def number_Dec.f (k : Nat) (a0 : ByteArray) (a1 : Int) : Option (Int × Int) := (number_read.f k a0 10 a1 4).bind fun bt123 => (some (bt123.1, bt123.2))
theorem number_Dec.mono : ∀ a0 a1 k, LeO (number_Dec.f k a0 a1) (number_Dec.f (k + 1) a0 a1) := by
  intro a0 a1 k
  unfold number_Dec.f
  repeat' first
      | (with_reducible exact number_read.mono _ _ _ _ _)
      | (with_reducible exact LeO.refl _)
      | (with_reducible exact LeO.none _)
      | (with_reducible refine LeO.ite ?_ ?_)
      | (with_reducible refine LeO.bind ?_ (fun _ => ?_))
      | exact number_read.mono _ _ _ _ _
      | exact LeO.none _
      | refine LeO.ite ?_ ?_
      | refine LeO.bind ?_ (fun _ => ?_)
set_option maxHeartbeats 8000000 in
set_option maxRecDepth 100000 in
theorem number_Dec.calls (k : Nat) (a0 : ByteArray) (a1 : Int) (r1 : Int) (r2 : Int) (w : World) (h : number_Dec.f k a0 a1 = some (r1, r2)) :
    Calls Tryd.prog 11 #[.string a0, .int .i64 a1] w fun e w' => e = .returned (.tuple #[.int .i64 r1, .int .i64 r2]) ∧ Below w.heap.size w w' := by
  have HB := Aside0.mk (Below.refl w.heap.size w)
  have H : ((number_read.f k a0 10 a1 4).bind fun bt123 => (some (bt123.1, bt123.2))) = some (r1, r2) := h
  clear h
  replace H := Option.bind_eq_some_iff.mp H
  obtain ⟨⟨t123, t124⟩, A30, H⟩ := H
  replace H : (some (t123, t124)) = some (r1, r2) := H
  have A3 := Aside0.mk A30
  clear A30
  simp only [Option.some.injEq, Prod.mk.injEq] at H
  obtain ⟨rfl, rfl⟩ := H
  go_enter Tryd.func11, Tryd.ntmps11
  go_wp2_with (first | ((with_reducible refine gate_callee (f := 18) rfl ?_); refine goesL_ (some 8) rfl rfl Tryd.func18 (by kernel_rfl) rfl #[.string a0, .int .i64 10, .int .i64 a1, .int .i64 4] rfl (by (try simp only [List.map_toArray, List.map_cons, List.map_nil]); first | done | rfl | (simp only [List.length_drop, List.length_take]; rfl)) ?_; (with_reducible refine (number_read.calls k a0 10 a1 4 t123 t124 _ A3.out).mono ?_); rintro e w4 ⟨rfl, hb⟩; refine ⟨_, rfl, ?_⟩; have n0_ := Aside0.mk (below_step (by repeat (first | (with_reducible first | exact HB.out | apply below_alloc | apply pw_below_drewN | apply below_drew1) | exact HB.out)) hb); clear HB; have HB := n0_; clear n0_; (try clear hb); (try clear hb2); (try clear hk); (try clear hi)))
  go_ret2
  exact ⟨by first | rfl | (simp [errW_none, errW_some] <;> rfl) | (simp [*, errW_none, errW_some] <;> rfl), by repeat (first | (with_reducible first | exact HB.out | apply below_alloc | apply pw_below_drewN | apply below_drew1) | exact HB.out)⟩

/-! ### number_Hex: function 13 -/
def number_Hex.f (k : Nat) (a0 : ByteArray) (a1 : Int) : Option (Int × Int) := (number_read.f k a0 16 a1 5).bind fun bt125 => (some (bt125.1, bt125.2))
theorem number_Hex.mono : ∀ a0 a1 k, LeO (number_Hex.f k a0 a1) (number_Hex.f (k + 1) a0 a1) := by
  intro a0 a1 k
  unfold number_Hex.f
  repeat' first
      | (with_reducible exact number_read.mono _ _ _ _ _)
      | (with_reducible exact LeO.refl _)
      | (with_reducible exact LeO.none _)
      | (with_reducible refine LeO.ite ?_ ?_)
      | (with_reducible refine LeO.bind ?_ (fun _ => ?_))
      | exact number_read.mono _ _ _ _ _
      | exact LeO.none _
      | refine LeO.ite ?_ ?_
      | refine LeO.bind ?_ (fun _ => ?_)
set_option maxHeartbeats 8000000 in
set_option maxRecDepth 100000 in
theorem number_Hex.calls (k : Nat) (a0 : ByteArray) (a1 : Int) (r1 : Int) (r2 : Int) (w : World) (h : number_Hex.f k a0 a1 = some (r1, r2)) :
    Calls Tryd.prog 13 #[.string a0, .int .i64 a1] w fun e w' => e = .returned (.tuple #[.int .i64 r1, .int .i64 r2]) ∧ Below w.heap.size w w' := by
  have HB := Aside0.mk (Below.refl w.heap.size w)
  have H : ((number_read.f k a0 16 a1 5).bind fun bt125 => (some (bt125.1, bt125.2))) = some (r1, r2) := h
  clear h
  replace H := Option.bind_eq_some_iff.mp H
  obtain ⟨⟨t125, t126⟩, A30, H⟩ := H
  replace H : (some (t125, t126)) = some (r1, r2) := H
  have A3 := Aside0.mk A30
  clear A30
  simp only [Option.some.injEq, Prod.mk.injEq] at H
  obtain ⟨rfl, rfl⟩ := H
  go_enter Tryd.func13, Tryd.ntmps13
  go_wp2_with (first | ((with_reducible refine gate_callee (f := 18) rfl ?_); refine goesL_ (some 8) rfl rfl Tryd.func18 (by kernel_rfl) rfl #[.string a0, .int .i64 16, .int .i64 a1, .int .i64 5] rfl (by (try simp only [List.map_toArray, List.map_cons, List.map_nil]); first | done | rfl | (simp only [List.length_drop, List.length_take]; rfl)) ?_; (with_reducible refine (number_read.calls k a0 16 a1 5 t125 t126 _ A3.out).mono ?_); rintro e w4 ⟨rfl, hb⟩; refine ⟨_, rfl, ?_⟩; have n0_ := Aside0.mk (below_step (by repeat (first | (with_reducible first | exact HB.out | apply below_alloc | apply pw_below_drewN | apply below_drew1) | exact HB.out)) hb); clear HB; have HB := n0_; clear n0_; (try clear hb); (try clear hb2); (try clear hk); (try clear hi)))
  go_ret2
  exact ⟨by first | rfl | (simp [errW_none, errW_some] <;> rfl) | (simp [*, errW_none, errW_some] <;> rfl), by repeat (first | (with_reducible first | exact HB.out | apply below_alloc | apply pw_below_drewN | apply below_drew1) | exact HB.out)⟩

/-! ### strconv_Itoa: function 20 -/
def strconv_Itoa.f (a0 : Int) : Option (ByteArray) := if -9223372036854775808 ≤ a0 ∧ a0 ≤ 9223372036854775807 then some (⟨(Lib.itoa a0).toArray⟩ : ByteArray) else none
theorem strconv_Itoa.calls (a0 : Int) (r : ByteArray) (w : World) (hL : Laid.LaidX w) (h : strconv_Itoa.f a0 = some r) :
    Calls Tryd.prog 20 #[.int .i64 a0] w fun e w' => e = .returned (.string r) ∧ Below w.heap.size w w' := by
  unfold strconv_Itoa.f at h
  split at h
  · rename_i hc
    obtain rfl := Option.some.inj h
    refine (Tryd.strconv_Itoa a0 hc.1 hc.2 w (Laid.uint64pow10 hL)).mono ?_
    rintro e w' ⟨rfl, k, os, rfl⟩
    exact ⟨rfl, Laid.grow_below _ _ _⟩
  · cases h

/-! ### number_Put: function 15 -/
def number_Put.f (a0 : Int) : Option (ByteArray) := (strconv_Itoa.f (mx a0 0)).bind fun t127 => (some t127)
set_option maxHeartbeats 8000000 in
set_option maxRecDepth 100000 in
theorem number_Put.calls (a0 : Int) (r : ByteArray) (w : World) (hL : Laid.LaidX w) (h : number_Put.f a0 = some r) :
    Calls Tryd.prog 15 #[.int .i64 a0] w fun e w' => e = .returned (.string r) ∧ Below w.heap.size w w' := by
  have HB := Aside0.mk (Below.refl w.heap.size w)
  have HLX := Aside0.mk hL
  clear hL
  have H : ((strconv_Itoa.f (mx a0 0)).bind fun t127 => (some t127)) = some r := h
  clear h
  obtain ⟨ji2, hji2⟩ : ∃ j_ : Int, (mx a0 0) = j_ := ⟨_, rfl⟩
  replace H : ((strconv_Itoa.f (ji2)).bind fun t127 => (some t127)) = some r := by first | (rw [hji2] at H; exact H) | (simp only [hji2] at H ⊢; exact H)
  (try (have hji2l : 0 ≤ ji2 := by (rw [← hji2]; unfold mx; (repeat' split) <;> omega)))
  (try (have hji2m : 0 ≤ ji2 := by omega))
  have hji2_ : (if a0 < 0 then 0 else a0) = ji2 := hji2
  replace H := Option.bind_eq_some_iff.mp H
  obtain ⟨t127, A30, H⟩ := H
  replace H : (some t127) = some r := H
  have A3 := Aside0.mk A30
  clear A30
  obtain rfl := Option.some.inj H
  go_enter Tryd.func15, Tryd.ntmps15
  go_wp2_with (first | ((with_reducible refine gate_callee (f := 20) rfl ?_); refine goesL_ (some 5) rfl rfl Tryd.func20 (by kernel_rfl) rfl #[.int .i64 ji2] rfl (by (try simp only [List.map_toArray, List.map_cons, List.map_nil]); first | done | (simp only [hji2]; rfl) | rfl | (simp only [List.length_drop, List.length_take]; rfl)) ?_; (with_reducible refine (strconv_Itoa.calls ji2 t127 _ ?side1 A3.out).mono ?_); (case side1 => exact Laid.below HLX.out (by repeat (first | (with_reducible first | exact HB.out | apply below_alloc | apply pw_below_drewN | apply below_drew1) | exact HB.out))); rintro e w4 ⟨rfl, hb⟩; refine ⟨_, rfl, ?_⟩; have n0_ := Aside0.mk (below_step (by repeat (first | (with_reducible first | exact HB.out | apply below_alloc | apply pw_below_drewN | apply below_drew1) | exact HB.out)) hb); clear HB; have HB := n0_; clear n0_; (try clear hb); (try clear hb2); (try clear hk); (try clear hi)))
  go_ret
  exact ⟨by first | rfl | (simp [errW_none, errW_some] <;> rfl) | (simp only [← hji2]; first | rfl | (simp [errW_none, errW_some] <;> rfl)) | (simp [*, errW_none, errW_some] <;> rfl), by repeat (first | (with_reducible first | exact HB.out | apply below_alloc | apply pw_below_drewN | apply below_drew1) | exact HB.out)⟩

/-! ### strconv_FormatInt: function 21 -/
def strconv_FormatInt.f (a0 a1 : Int) : Option (ByteArray) := if a1 = 16 ∧ 0 ≤ a0 ∧ a0 ≤ 9223372036854775807 then some (Hex.hexB a0.toNat) else none
theorem strconv_FormatInt.calls (a0 a1 : Int) (r : ByteArray) (w : World) (hL : Laid.LaidX w) (h : strconv_FormatInt.f a0 a1 = some r) :
    Calls Tryd.prog 21 #[.int .i64 a0, .int .i64 a1] w fun e w' => e = .returned (.string r) ∧ Below w.heap.size w w' := by
  unfold strconv_FormatInt.f at h
  split at h
  · rename_i hc
    obtain rfl := Option.some.inj h
    obtain ⟨rfl, h0, h1⟩ := hc
    have := Hand.strconv_FormatInt16 a0.toNat w (by omega) (Laid.cell16 hL)
    rwa [Int.toNat_of_nonneg h0] at this
  · cases h

/-! ### number_PutHex: function 16 -/
def number_PutHex.f (a0 : Int) : Option (ByteArray) := (strconv_FormatInt.f (mx a0 0) 16).bind fun t128 => (some t128)
set_option maxHeartbeats 8000000 in
set_option maxRecDepth 100000 in
theorem number_PutHex.calls (a0 : Int) (r : ByteArray) (w : World) (hL : Laid.LaidX w) (h : number_PutHex.f a0 = some r) :
    Calls Tryd.prog 16 #[.int .i64 a0] w fun e w' => e = .returned (.string r) ∧ Below w.heap.size w w' := by
  have HB := Aside0.mk (Below.refl w.heap.size w)
  have HLX := Aside0.mk hL
  clear hL
  have H : ((strconv_FormatInt.f (mx a0 0) 16).bind fun t128 => (some t128)) = some r := h
  clear h
  obtain ⟨ji2, hji2⟩ : ∃ j_ : Int, (mx a0 0) = j_ := ⟨_, rfl⟩
  replace H : ((strconv_FormatInt.f (ji2) 16).bind fun t128 => (some t128)) = some r := by first | (rw [hji2] at H; exact H) | (simp only [hji2] at H ⊢; exact H)
  (try (have hji2l : 0 ≤ ji2 := by (rw [← hji2]; unfold mx; (repeat' split) <;> omega)))
  (try (have hji2m : 0 ≤ ji2 := by omega))
  have hji2_ : (if a0 < 0 then 0 else a0) = ji2 := hji2
  replace H := Option.bind_eq_some_iff.mp H
  obtain ⟨t128, A30, H⟩ := H
  replace H : (some t128) = some r := H
  have A3 := Aside0.mk A30
  clear A30
  obtain rfl := Option.some.inj H
  go_enter Tryd.func16, Tryd.ntmps16
  go_wp2_with (first | ((with_reducible refine gate_callee (f := 21) rfl ?_); refine goesL_ (some 5) rfl rfl Tryd.func21 (by kernel_rfl) rfl #[.int .i64 ji2, .int .i64 16] rfl (by (try simp only [List.map_toArray, List.map_cons, List.map_nil]); first | done | (simp only [hji2]; rfl) | rfl | (simp only [List.length_drop, List.length_take]; rfl)) ?_; (with_reducible refine (strconv_FormatInt.calls ji2 16 t128 _ ?side1 A3.out).mono ?_); (case side1 => exact Laid.below HLX.out (by repeat (first | (with_reducible first | exact HB.out | apply below_alloc | apply pw_below_drewN | apply below_drew1) | exact HB.out))); rintro e w4 ⟨rfl, hb⟩; refine ⟨_, rfl, ?_⟩; have n0_ := Aside0.mk (below_step (by repeat (first | (with_reducible first | exact HB.out | apply below_alloc | apply pw_below_drewN | apply below_drew1) | exact HB.out)) hb); clear HB; have HB := n0_; clear n0_; (try clear hb); (try clear hb2); (try clear hk); (try clear hi)))
  go_ret
  exact ⟨by first | rfl | (simp [errW_none, errW_some] <;> rfl) | (simp only [← hji2]; first | rfl | (simp [errW_none, errW_some] <;> rfl)) | (simp [*, errW_none, errW_some] <;> rfl), by repeat (first | (with_reducible first | exact HB.out | apply below_alloc | apply pw_below_drewN | apply below_drew1) | exact HB.out)⟩

/-! ### parallaxlaw2_known: function 7 -/
def parallaxlaw2_known.f (k : Nat)  : Option (Bool) := (number_Dec.f k (⟨#[48, 48, 55]⟩ : ByteArray) 9).bind fun bt129 => ((number_Dec.f k (⟨#[49, 48]⟩ : ByteArray) 9).bind fun bt131 => ((number_Dec.f k (⟨#[49, 97]⟩ : ByteArray) 99).bind fun bt133 => ((number_Hex.f k (⟨#[102, 70]⟩ : ByteArray) 255).bind fun bt135 => (if bt129.1 = 7 then (if bt129.2 = 0 then (if bt131.2 = 23 then (if bt133.2 = 22 then (if bt135.1 = 255 then (if bt135.2 = 0 then ((number_Put.f 120).bind fun t137 => (if t137.toList = ([49, 50, 48] : List UInt8) then ((number_PutHex.f 255).bind fun t138 => (some (t138.toList == ([102, 102] : List UInt8)))) else (some false))) else (some false)) else (some false)) else (some false)) else (some false)) else (some false)) else (some false)))))
theorem parallaxlaw2_known.mono : ∀ k, LeO (parallaxlaw2_known.f k ) (parallaxlaw2_known.f (k + 1) ) := by
  intro  k
  unfold parallaxlaw2_known.f
  repeat' first
      | (with_reducible exact number_Dec.mono _ _ _)
      | (with_reducible exact number_Hex.mono _ _ _)
      | (with_reducible exact LeO.refl _)
      | (with_reducible exact LeO.none _)
      | (with_reducible refine LeO.ite ?_ ?_)
      | (with_reducible refine LeO.bind ?_ (fun _ => ?_))
      | exact number_Dec.mono _ _ _
      | exact number_Hex.mono _ _ _
      | exact LeO.none _
      | refine LeO.ite ?_ ?_
      | refine LeO.bind ?_ (fun _ => ?_)
set_option maxHeartbeats 8000000 in
set_option maxRecDepth 100000 in
theorem parallaxlaw2_known.calls (k : Nat)  (r : Bool) (w : World) (hL : Laid.LaidX w) (h : parallaxlaw2_known.f k  = some r) :
    Calls Tryd.prog 7 #[] w fun e w' => e = .returned (.bool r) ∧ Below w.heap.size w w' := by
  have HB := Aside0.mk (Below.refl w.heap.size w)
  have HLX := Aside0.mk hL
  clear hL
  have H : ((number_Dec.f k (⟨#[48, 48, 55]⟩ : ByteArray) 9).bind fun bt129 => ((number_Dec.f k (⟨#[49, 48]⟩ : ByteArray) 9).bind fun bt131 => ((number_Dec.f k (⟨#[49, 97]⟩ : ByteArray) 99).bind fun bt133 => ((number_Hex.f k (⟨#[102, 70]⟩ : ByteArray) 255).bind fun bt135 => (if bt129.1 = 7 then (if bt129.2 = 0 then (if bt131.2 = 23 then (if bt133.2 = 22 then (if bt135.1 = 255 then (if bt135.2 = 0 then ((number_Put.f 120).bind fun t137 => (if t137.toList = ([49, 50, 48] : List UInt8) then ((number_PutHex.f 255).bind fun t138 => (some (t138.toList == ([102, 102] : List UInt8)))) else (some false))) else (some false)) else (some false)) else (some false)) else (some false)) else (some false)) else (some false)))))) = some r := h
  clear h
  replace H := Option.bind_eq_some_iff.mp H
  obtain ⟨⟨t129, t130⟩, A10, H⟩ := H
  replace H : ((number_Dec.f k (⟨#[49, 48]⟩ : ByteArray) 9).bind fun bt131 => ((number_Dec.f k (⟨#[49, 97]⟩ : ByteArray) 99).bind fun bt133 => ((number_Hex.f k (⟨#[102, 70]⟩ : ByteArray) 255).bind fun bt135 => (if t129 = 7 then (if t130 = 0 then (if bt131.2 = 23 then (if bt133.2 = 22 then (if bt135.1 = 255 then (if bt135.2 = 0 then ((number_Put.f 120).bind fun t137 => (if t137.toList = ([49, 50, 48] : List UInt8) then ((number_PutHex.f 255).bind fun t138 => (some (t138.toList == ([102, 102] : List UInt8)))) else (some false))) else (some false)) else (some false)) else (some false)) else (some false)) else (some false)) else (some false))))) = some r := H
  have A1 := Aside0.mk A10
  clear A10
  replace H := Option.bind_eq_some_iff.mp H
  obtain ⟨⟨t131, t132⟩, A20, H⟩ := H
  replace H : ((number_Dec.f k (⟨#[49, 97]⟩ : ByteArray) 99).bind fun bt133 => ((number_Hex.f k (⟨#[102, 70]⟩ : ByteArray) 255).bind fun bt135 => (if t129 = 7 then (if t130 = 0 then (if t132 = 23 then (if bt133.2 = 22 then (if bt135.1 = 255 then (if bt135.2 = 0 then ((number_Put.f 120).bind fun t137 => (if t137.toList = ([49, 50, 48] : List UInt8) then ((number_PutHex.f 255).bind fun t138 => (some (t138.toList == ([102, 102] : List UInt8)))) else (some false))) else (some false)) else (some false)) else (some false)) else (some false)) else (some false)) else (some false)))) = some r := H
  have A2 := Aside0.mk A20
  clear A20
  replace H := Option.bind_eq_some_iff.mp H
  obtain ⟨⟨t133, t134⟩, A30, H⟩ := H
  replace H : ((number_Hex.f k (⟨#[102, 70]⟩ : ByteArray) 255).bind fun bt135 => (if t129 = 7 then (if t130 = 0 then (if t132 = 23 then (if t134 = 22 then (if bt135.1 = 255 then (if bt135.2 = 0 then ((number_Put.f 120).bind fun t137 => (if t137.toList = ([49, 50, 48] : List UInt8) then ((number_PutHex.f 255).bind fun t138 => (some (t138.toList == ([102, 102] : List UInt8)))) else (some false))) else (some false)) else (some false)) else (some false)) else (some false)) else (some false)) else (some false))) = some r := H
  have A3 := Aside0.mk A30
  clear A30
  replace H := Option.bind_eq_some_iff.mp H
  obtain ⟨⟨t135, t136⟩, A40, H⟩ := H
  replace H : (if t129 = 7 then (if t130 = 0 then (if t132 = 23 then (if t134 = 22 then (if t135 = 255 then (if t136 = 0 then ((number_Put.f 120).bind fun t137 => (if t137.toList = ([49, 50, 48] : List UInt8) then ((number_PutHex.f 255).bind fun t138 => (some (t138.toList == ([102, 102] : List UInt8)))) else (some false))) else (some false)) else (some false)) else (some false)) else (some false)) else (some false)) else (some false)) = some r := H
  have A4 := Aside0.mk A40
  clear A40
  by_cases c5 : t129 = 7
  · rw [if_pos c5] at H
    have c5b0 : (t129 == 7) = true := beq_iff_eq.mpr c5
    have c5b1 : (t129 != 7) = false := bne_eq_false_iff_eq.mpr c5
    clear c5
    by_cases c6 : t130 = 0
    · rw [if_pos c6] at H
      have c6b0 : (t130 == 0) = true := beq_iff_eq.mpr c6
      have c6b1 : (t130 != 0) = false := bne_eq_false_iff_eq.mpr c6
      clear c6
      by_cases c7 : t132 = 23
      · rw [if_pos c7] at H
        have c7b0 : (t132 == 23) = true := beq_iff_eq.mpr c7
        have c7b1 : (t132 != 23) = false := bne_eq_false_iff_eq.mpr c7
        clear c7
        by_cases c8 : t134 = 22
        · rw [if_pos c8] at H
          have c8b0 : (t134 == 22) = true := beq_iff_eq.mpr c8
          have c8b1 : (t134 != 22) = false := bne_eq_false_iff_eq.mpr c8
          clear c8
          by_cases c9 : t135 = 255
          · rw [if_pos c9] at H
            have c9b0 : (t135 == 255) = true := beq_iff_eq.mpr c9
            have c9b1 : (t135 != 255) = false := bne_eq_false_iff_eq.mpr c9
            clear c9
            by_cases c10 : t136 = 0
            · rw [if_pos c10] at H
              have c10b0 : (t136 == 0) = true := beq_iff_eq.mpr c10
              have c10b1 : (t136 != 0) = false := bne_eq_false_iff_eq.mpr c10
              clear c10
              replace H := Option.bind_eq_some_iff.mp H
              obtain ⟨t137, A110, H⟩ := H
              replace H : (if t137.toList = ([49, 50, 48] : List UInt8) then ((number_PutHex.f 255).bind fun t138 => (some (t138.toList == ([102, 102] : List UInt8)))) else (some false)) = some r := H
              have A11 := Aside0.mk A110
              clear A110
              by_cases c12 : t137.toList = ([49, 50, 48] : List UInt8)
              · rw [if_pos c12] at H
                have c12b0 : (t137.toList == ([49, 50, 48] : List UInt8)) = true := beq_iff_eq.mpr c12
                have c12b1 : (t137.toList != ([49, 50, 48] : List UInt8)) = false := bne_eq_false_iff_eq.mpr c12
                clear c12
                replace H := Option.bind_eq_some_iff.mp H
                obtain ⟨t138, A130, H⟩ := H
                replace H : (some (t138.toList == ([102, 102] : List UInt8))) = some r := H
                have A13 := Aside0.mk A130
                clear A130
                obtain rfl := Option.some.inj H
                go_enter Tryd.func7, Tryd.ntmps7
                go_wp2_with (first | ((with_reducible refine gate_callee (f := 11) rfl ?_); refine goesL_ (some 10) rfl rfl Tryd.func11 (by kernel_rfl) rfl #[.string (⟨#[48, 48, 55]⟩ : ByteArray), .int .i64 9] rfl (by (try simp only [List.map_toArray, List.map_cons, List.map_nil]); first | done | rfl | (simp only [List.length_drop, List.length_take]; rfl)) ?_; (with_reducible refine (number_Dec.calls k (⟨#[48, 48, 55]⟩ : ByteArray) 9 t129 t130 _ A1.out).mono ?_); rintro e w14 ⟨rfl, hb⟩; refine ⟨_, rfl, ?_⟩; have n0_ := Aside0.mk (below_step (by repeat (first | (with_reducible first | exact HB.out | apply below_alloc | apply pw_below_drewN | apply below_drew1) | exact HB.out)) hb); clear HB; have HB := n0_; clear n0_; (try clear hb); (try clear hb2); (try clear hk); (try clear hi)) | ((with_reducible refine gate_callee (f := 11) rfl ?_); refine goesL_ (some 14) rfl rfl Tryd.func11 (by kernel_rfl) rfl #[.string (⟨#[49, 48]⟩ : ByteArray), .int .i64 9] rfl (by (try simp only [List.map_toArray, List.map_cons, List.map_nil]); first | done | rfl | (simp only [List.length_drop, List.length_take]; rfl)) ?_; (with_reducible refine (number_Dec.calls k (⟨#[49, 48]⟩ : ByteArray) 9 t131 t132 _ A2.out).mono ?_); rintro e w15 ⟨rfl, hb⟩; refine ⟨_, rfl, ?_⟩; have n0_ := Aside0.mk (below_step (by repeat (first | (with_reducible first | exact HB.out | apply below_alloc | apply pw_below_drewN | apply below_drew1) | exact HB.out)) hb); clear HB; have HB := n0_; clear n0_; (try clear hb); (try clear hb2); (try clear hk); (try clear hi)) | ((with_reducible refine gate_callee (f := 11) rfl ?_); refine goesL_ (some 18) rfl rfl Tryd.func11 (by kernel_rfl) rfl #[.string (⟨#[49, 97]⟩ : ByteArray), .int .i64 99] rfl (by (try simp only [List.map_toArray, List.map_cons, List.map_nil]); first | done | rfl | (simp only [List.length_drop, List.length_take]; rfl)) ?_; (with_reducible refine (number_Dec.calls k (⟨#[49, 97]⟩ : ByteArray) 99 t133 t134 _ A3.out).mono ?_); rintro e w16 ⟨rfl, hb⟩; refine ⟨_, rfl, ?_⟩; have n0_ := Aside0.mk (below_step (by repeat (first | (with_reducible first | exact HB.out | apply below_alloc | apply pw_below_drewN | apply below_drew1) | exact HB.out)) hb); clear HB; have HB := n0_; clear n0_; (try clear hb); (try clear hb2); (try clear hk); (try clear hi)) | ((with_reducible refine gate_callee (f := 13) rfl ?_); refine goesL_ (some 22) rfl rfl Tryd.func13 (by kernel_rfl) rfl #[.string (⟨#[102, 70]⟩ : ByteArray), .int .i64 255] rfl (by (try simp only [List.map_toArray, List.map_cons, List.map_nil]); first | done | rfl | (simp only [List.length_drop, List.length_take]; rfl)) ?_; (with_reducible refine (number_Hex.calls k (⟨#[102, 70]⟩ : ByteArray) 255 t135 t136 _ A4.out).mono ?_); rintro e w17 ⟨rfl, hb⟩; refine ⟨_, rfl, ?_⟩; have n0_ := Aside0.mk (below_step (by repeat (first | (with_reducible first | exact HB.out | apply below_alloc | apply pw_below_drewN | apply below_drew1) | exact HB.out)) hb); clear HB; have HB := n0_; clear n0_; (try clear hb); (try clear hb2); (try clear hk); (try clear hi)) | (go_at_call 15; (with_reducible refine (number_Put.calls 120 t137 _ ?side1 A11.out).mono ?_); (case side1 => exact Laid.below HLX.out (by repeat (first | (with_reducible first | exact HB.out | apply below_alloc | apply pw_below_drewN | apply below_drew1) | exact HB.out))); rintro e w18 ⟨rfl, hb⟩; have n0_ := Aside0.mk (below_step (by repeat (first | (with_reducible first | exact HB.out | apply below_alloc | apply pw_below_drewN | apply below_drew1) | exact HB.out)) hb); clear HB; have HB := n0_; clear n0_; (try clear hb); (try clear hb2); (try clear hk); (try clear hi)) | (go_at_call 16; (with_reducible refine (number_PutHex.calls 255 t138 _ ?side1 A13.out).mono ?_); (case side1 => exact Laid.below HLX.out (by repeat (first | (with_reducible first | exact HB.out | apply below_alloc | apply pw_below_drewN | apply below_drew1) | exact HB.out))); rintro e w19 ⟨rfl, hb⟩; have n0_ := Aside0.mk (below_step (by repeat (first | (with_reducible first | exact HB.out | apply below_alloc | apply pw_below_drewN | apply below_drew1) | exact HB.out)) hb); clear HB; have HB := n0_; clear n0_; (try clear hb); (try clear hb2); (try clear hk); (try clear hi)))
                go_ret
                exact ⟨by first | rfl | (simp [errW_none, errW_some] <;> rfl) | (simp [*, errW_none, errW_some] <;> rfl), by repeat (first | (with_reducible first | exact HB.out | apply below_alloc | apply pw_below_drewN | apply below_drew1) | exact HB.out)⟩
              · rw [if_neg c12] at H
                have c12b0 : (t137.toList == ([49, 50, 48] : List UInt8)) = false := beq_eq_false_iff_ne.mpr c12
                have c12b1 : (t137.toList != ([49, 50, 48] : List UInt8)) = true := bne_iff_ne.mpr c12
                obtain rfl := Option.some.inj H
                go_enter Tryd.func7, Tryd.ntmps7
                go_wp2_with (first | ((with_reducible refine gate_callee (f := 11) rfl ?_); refine goesL_ (some 10) rfl rfl Tryd.func11 (by kernel_rfl) rfl #[.string (⟨#[48, 48, 55]⟩ : ByteArray), .int .i64 9] rfl (by (try simp only [List.map_toArray, List.map_cons, List.map_nil]); first | done | rfl | (simp only [List.length_drop, List.length_take]; rfl)) ?_; (with_reducible refine (number_Dec.calls k (⟨#[48, 48, 55]⟩ : ByteArray) 9 t129 t130 _ A1.out).mono ?_); rintro e w20 ⟨rfl, hb⟩; refine ⟨_, rfl, ?_⟩; have n0_ := Aside0.mk (below_step (by repeat (first | (with_reducible first | exact HB.out | apply below_alloc | apply pw_below_drewN | apply below_drew1) | exact HB.out)) hb); clear HB; have HB := n0_; clear n0_; (try clear hb); (try clear hb2); (try clear hk); (try clear hi)) | ((with_reducible refine gate_callee (f := 11) rfl ?_); refine goesL_ (some 14) rfl rfl Tryd.func11 (by kernel_rfl) rfl #[.string (⟨#[49, 48]⟩ : ByteArray), .int .i64 9] rfl (by (try simp only [List.map_toArray, List.map_cons, List.map_nil]); first | done | rfl | (simp only [List.length_drop, List.length_take]; rfl)) ?_; (with_reducible refine (number_Dec.calls k (⟨#[49, 48]⟩ : ByteArray) 9 t131 t132 _ A2.out).mono ?_); rintro e w21 ⟨rfl, hb⟩; refine ⟨_, rfl, ?_⟩; have n0_ := Aside0.mk (below_step (by repeat (first | (with_reducible first | exact HB.out | apply below_alloc | apply pw_below_drewN | apply below_drew1) | exact HB.out)) hb); clear HB; have HB := n0_; clear n0_; (try clear hb); (try clear hb2); (try clear hk); (try clear hi)) | ((with_reducible refine gate_callee (f := 11) rfl ?_); refine goesL_ (some 18) rfl rfl Tryd.func11 (by kernel_rfl) rfl #[.string (⟨#[49, 97]⟩ : ByteArray), .int .i64 99] rfl (by (try simp only [List.map_toArray, List.map_cons, List.map_nil]); first | done | rfl | (simp only [List.length_drop, List.length_take]; rfl)) ?_; (with_reducible refine (number_Dec.calls k (⟨#[49, 97]⟩ : ByteArray) 99 t133 t134 _ A3.out).mono ?_); rintro e w22 ⟨rfl, hb⟩; refine ⟨_, rfl, ?_⟩; have n0_ := Aside0.mk (below_step (by repeat (first | (with_reducible first | exact HB.out | apply below_alloc | apply pw_below_drewN | apply below_drew1) | exact HB.out)) hb); clear HB; have HB := n0_; clear n0_; (try clear hb); (try clear hb2); (try clear hk); (try clear hi)) | ((with_reducible refine gate_callee (f := 13) rfl ?_); refine goesL_ (some 22) rfl rfl Tryd.func13 (by kernel_rfl) rfl #[.string (⟨#[102, 70]⟩ : ByteArray), .int .i64 255] rfl (by (try simp only [List.map_toArray, List.map_cons, List.map_nil]); first | done | rfl | (simp only [List.length_drop, List.length_take]; rfl)) ?_; (with_reducible refine (number_Hex.calls k (⟨#[102, 70]⟩ : ByteArray) 255 t135 t136 _ A4.out).mono ?_); rintro e w23 ⟨rfl, hb⟩; refine ⟨_, rfl, ?_⟩; have n0_ := Aside0.mk (below_step (by repeat (first | (with_reducible first | exact HB.out | apply below_alloc | apply pw_below_drewN | apply below_drew1) | exact HB.out)) hb); clear HB; have HB := n0_; clear n0_; (try clear hb); (try clear hb2); (try clear hk); (try clear hi)) | (go_at_call 15; (with_reducible refine (number_Put.calls 120 t137 _ ?side1 A11.out).mono ?_); (case side1 => exact Laid.below HLX.out (by repeat (first | (with_reducible first | exact HB.out | apply below_alloc | apply pw_below_drewN | apply below_drew1) | exact HB.out))); rintro e w24 ⟨rfl, hb⟩; have n0_ := Aside0.mk (below_step (by repeat (first | (with_reducible first | exact HB.out | apply below_alloc | apply pw_below_drewN | apply below_drew1) | exact HB.out)) hb); clear HB; have HB := n0_; clear n0_; (try clear hb); (try clear hb2); (try clear hk); (try clear hi)))
                go_ret
                exact ⟨by first | rfl | (simp [errW_none, errW_some] <;> rfl) | (simp [*, errW_none, errW_some] <;> rfl), by repeat (first | (with_reducible first | exact HB.out | apply below_alloc | apply pw_below_drewN | apply below_drew1) | exact HB.out)⟩
            · rw [if_neg c10] at H
              have c10b0 : (t136 == 0) = false := beq_eq_false_iff_ne.mpr c10
              have c10b1 : (t136 != 0) = true := bne_iff_ne.mpr c10
              obtain rfl := Option.some.inj H
              go_enter Tryd.func7, Tryd.ntmps7
              go_wp2_with (first | ((with_reducible refine gate_callee (f := 11) rfl ?_); refine goesL_ (some 10) rfl rfl Tryd.func11 (by kernel_rfl) rfl #[.string (⟨#[48, 48, 55]⟩ : ByteArray), .int .i64 9] rfl (by (try simp only [List.map_toArray, List.map_cons, List.map_nil]); first | done | rfl | (simp only [List.length_drop, List.length_take]; rfl)) ?_; (with_reducible refine (number_Dec.calls k (⟨#[48, 48, 55]⟩ : ByteArray) 9 t129 t130 _ A1.out).mono ?_); rintro e w25 ⟨rfl, hb⟩; refine ⟨_, rfl, ?_⟩; have n0_ := Aside0.mk (below_step (by repeat (first | (with_reducible first | exact HB.out | apply below_alloc | apply pw_below_drewN | apply below_drew1) | exact HB.out)) hb); clear HB; have HB := n0_; clear n0_; (try clear hb); (try clear hb2); (try clear hk); (try clear hi)) | ((with_reducible refine gate_callee (f := 11) rfl ?_); refine goesL_ (some 14) rfl rfl Tryd.func11 (by kernel_rfl) rfl #[.string (⟨#[49, 48]⟩ : ByteArray), .int .i64 9] rfl (by (try simp only [List.map_toArray, List.map_cons, List.map_nil]); first | done | rfl | (simp only [List.length_drop, List.length_take]; rfl)) ?_; (with_reducible refine (number_Dec.calls k (⟨#[49, 48]⟩ : ByteArray) 9 t131 t132 _ A2.out).mono ?_); rintro e w26 ⟨rfl, hb⟩; refine ⟨_, rfl, ?_⟩; have n0_ := Aside0.mk (below_step (by repeat (first | (with_reducible first | exact HB.out | apply below_alloc | apply pw_below_drewN | apply below_drew1) | exact HB.out)) hb); clear HB; have HB := n0_; clear n0_; (try clear hb); (try clear hb2); (try clear hk); (try clear hi)) | ((with_reducible refine gate_callee (f := 11) rfl ?_); refine goesL_ (some 18) rfl rfl Tryd.func11 (by kernel_rfl) rfl #[.string (⟨#[49, 97]⟩ : ByteArray), .int .i64 99] rfl (by (try simp only [List.map_toArray, List.map_cons, List.map_nil]); first | done | rfl | (simp only [List.length_drop, List.length_take]; rfl)) ?_; (with_reducible refine (number_Dec.calls k (⟨#[49, 97]⟩ : ByteArray) 99 t133 t134 _ A3.out).mono ?_); rintro e w27 ⟨rfl, hb⟩; refine ⟨_, rfl, ?_⟩; have n0_ := Aside0.mk (below_step (by repeat (first | (with_reducible first | exact HB.out | apply below_alloc | apply pw_below_drewN | apply below_drew1) | exact HB.out)) hb); clear HB; have HB := n0_; clear n0_; (try clear hb); (try clear hb2); (try clear hk); (try clear hi)) | ((with_reducible refine gate_callee (f := 13) rfl ?_); refine goesL_ (some 22) rfl rfl Tryd.func13 (by kernel_rfl) rfl #[.string (⟨#[102, 70]⟩ : ByteArray), .int .i64 255] rfl (by (try simp only [List.map_toArray, List.map_cons, List.map_nil]); first | done | rfl | (simp only [List.length_drop, List.length_take]; rfl)) ?_; (with_reducible refine (number_Hex.calls k (⟨#[102, 70]⟩ : ByteArray) 255 t135 t136 _ A4.out).mono ?_); rintro e w28 ⟨rfl, hb⟩; refine ⟨_, rfl, ?_⟩; have n0_ := Aside0.mk (below_step (by repeat (first | (with_reducible first | exact HB.out | apply below_alloc | apply pw_below_drewN | apply below_drew1) | exact HB.out)) hb); clear HB; have HB := n0_; clear n0_; (try clear hb); (try clear hb2); (try clear hk); (try clear hi)))
              go_ret
              exact ⟨by first | rfl | (simp [errW_none, errW_some] <;> rfl) | (simp [*, errW_none, errW_some] <;> rfl), by repeat (first | (with_reducible first | exact HB.out | apply below_alloc | apply pw_below_drewN | apply below_drew1) | exact HB.out)⟩
          · rw [if_neg c9] at H
            have c9b0 : (t135 == 255) = false := beq_eq_false_iff_ne.mpr c9
            have c9b1 : (t135 != 255) = true := bne_iff_ne.mpr c9
            obtain rfl := Option.some.inj H
            go_enter Tryd.func7, Tryd.ntmps7
            go_wp2_with (first | ((with_reducible refine gate_callee (f := 11) rfl ?_); refine goesL_ (some 10) rfl rfl Tryd.func11 (by kernel_rfl) rfl #[.string (⟨#[48, 48, 55]⟩ : ByteArray), .int .i64 9] rfl (by (try simp only [List.map_toArray, List.map_cons, List.map_nil]); first | done | rfl | (simp only [List.length_drop, List.length_take]; rfl)) ?_; (with_reducible refine (number_Dec.calls k (⟨#[48, 48, 55]⟩ : ByteArray) 9 t129 t130 _ A1.out).mono ?_); rintro e w29 ⟨rfl, hb⟩; refine ⟨_, rfl, ?_⟩; have n0_ := Aside0.mk (below_step (by repeat (first | (with_reducible first | exact HB.out | apply below_alloc | apply pw_below_drewN | apply below_drew1) | exact HB.out)) hb); clear HB; have HB := n0_; clear n0_; (try clear hb); (try clear hb2); (try clear hk); (try clear hi)) | ((with_reducible refine gate_callee (f := 11) rfl ?_); refine goesL_ (some 14) rfl rfl Tryd.func11 (by kernel_rfl) rfl #[.string (⟨#[49, 48]⟩ : ByteArray), .int .i64 9] rfl (by (try simp only [List.map_toArray, List.map_cons, List.map_nil]); first | done | rfl | (simp only [List.length_drop, List.length_take]; rfl)) ?_; (with_reducible refine (number_Dec.calls k (⟨#[49, 48]⟩ : ByteArray) 9 t131 t132 _ A2.out).mono ?_); rintro e w30 ⟨rfl, hb⟩; refine ⟨_, rfl, ?_⟩; have n0_ := Aside0.mk (below_step (by repeat (first | (with_reducible first | exact HB.out | apply below_alloc | apply pw_below_drewN | apply below_drew1) | exact HB.out)) hb); clear HB; have HB := n0_; clear n0_; (try clear hb); (try clear hb2); (try clear hk); (try clear hi)) | ((with_reducible refine gate_callee (f := 11) rfl ?_); refine goesL_ (some 18) rfl rfl Tryd.func11 (by kernel_rfl) rfl #[.string (⟨#[49, 97]⟩ : ByteArray), .int .i64 99] rfl (by (try simp only [List.map_toArray, List.map_cons, List.map_nil]); first | done | rfl | (simp only [List.length_drop, List.length_take]; rfl)) ?_; (with_reducible refine (number_Dec.calls k (⟨#[49, 97]⟩ : ByteArray) 99 t133 t134 _ A3.out).mono ?_); rintro e w31 ⟨rfl, hb⟩; refine ⟨_, rfl, ?_⟩; have n0_ := Aside0.mk (below_step (by repeat (first | (with_reducible first | exact HB.out | apply below_alloc | apply pw_below_drewN | apply below_drew1) | exact HB.out)) hb); clear HB; have HB := n0_; clear n0_; (try clear hb); (try clear hb2); (try clear hk); (try clear hi)) | ((with_reducible refine gate_callee (f := 13) rfl ?_); refine goesL_ (some 22) rfl rfl Tryd.func13 (by kernel_rfl) rfl #[.string (⟨#[102, 70]⟩ : ByteArray), .int .i64 255] rfl (by (try simp only [List.map_toArray, List.map_cons, List.map_nil]); first | done | rfl | (simp only [List.length_drop, List.length_take]; rfl)) ?_; (with_reducible refine (number_Hex.calls k (⟨#[102, 70]⟩ : ByteArray) 255 t135 t136 _ A4.out).mono ?_); rintro e w32 ⟨rfl, hb⟩; refine ⟨_, rfl, ?_⟩; have n0_ := Aside0.mk (below_step (by repeat (first | (with_reducible first | exact HB.out | apply below_alloc | apply pw_below_drewN | apply below_drew1) | exact HB.out)) hb); clear HB; have HB := n0_; clear n0_; (try clear hb); (try clear hb2); (try clear hk); (try clear hi)))
            go_ret
            exact ⟨by first | rfl | (simp [errW_none, errW_some] <;> rfl) | (simp [*, errW_none, errW_some] <;> rfl), by repeat (first | (with_reducible first | exact HB.out | apply below_alloc | apply pw_below_drewN | apply below_drew1) | exact HB.out)⟩
        · rw [if_neg c8] at H
          have c8b0 : (t134 == 22) = false := beq_eq_false_iff_ne.mpr c8
          have c8b1 : (t134 != 22) = true := bne_iff_ne.mpr c8
          obtain rfl := Option.some.inj H
          go_enter Tryd.func7, Tryd.ntmps7
          go_wp2_with (first | ((with_reducible refine gate_callee (f := 11) rfl ?_); refine goesL_ (some 10) rfl rfl Tryd.func11 (by kernel_rfl) rfl #[.string (⟨#[48, 48, 55]⟩ : ByteArray), .int .i64 9] rfl (by (try simp only [List.map_toArray, List.map_cons, List.map_nil]); first | done | rfl | (simp only [List.length_drop, List.length_take]; rfl)) ?_; (with_reducible refine (number_Dec.calls k (⟨#[48, 48, 55]⟩ : ByteArray) 9 t129 t130 _ A1.out).mono ?_); rintro e w33 ⟨rfl, hb⟩; refine ⟨_, rfl, ?_⟩; have n0_ := Aside0.mk (below_step (by repeat (first | (with_reducible first | exact HB.out | apply below_alloc | apply pw_below_drewN | apply below_drew1) | exact HB.out)) hb); clear HB; have HB := n0_; clear n0_; (try clear hb); (try clear hb2); (try clear hk); (try clear hi)) | ((with_reducible refine gate_callee (f := 11) rfl ?_); refine goesL_ (some 14) rfl rfl Tryd.func11 (by kernel_rfl) rfl #[.string (⟨#[49, 48]⟩ : ByteArray), .int .i64 9] rfl (by (try simp only [List.map_toArray, List.map_cons, List.map_nil]); first | done | rfl | (simp only [List.length_drop, List.length_take]; rfl)) ?_; (with_reducible refine (number_Dec.calls k (⟨#[49, 48]⟩ : ByteArray) 9 t131 t132 _ A2.out).mono ?_); rintro e w34 ⟨rfl, hb⟩; refine ⟨_, rfl, ?_⟩; have n0_ := Aside0.mk (below_step (by repeat (first | (with_reducible first | exact HB.out | apply below_alloc | apply pw_below_drewN | apply below_drew1) | exact HB.out)) hb); clear HB; have HB := n0_; clear n0_; (try clear hb); (try clear hb2); (try clear hk); (try clear hi)) | ((with_reducible refine gate_callee (f := 11) rfl ?_); refine goesL_ (some 18) rfl rfl Tryd.func11 (by kernel_rfl) rfl #[.string (⟨#[49, 97]⟩ : ByteArray), .int .i64 99] rfl (by (try simp only [List.map_toArray, List.map_cons, List.map_nil]); first | done | rfl | (simp only [List.length_drop, List.length_take]; rfl)) ?_; (with_reducible refine (number_Dec.calls k (⟨#[49, 97]⟩ : ByteArray) 99 t133 t134 _ A3.out).mono ?_); rintro e w35 ⟨rfl, hb⟩; refine ⟨_, rfl, ?_⟩; have n0_ := Aside0.mk (below_step (by repeat (first | (with_reducible first | exact HB.out | apply below_alloc | apply pw_below_drewN | apply below_drew1) | exact HB.out)) hb); clear HB; have HB := n0_; clear n0_; (try clear hb); (try clear hb2); (try clear hk); (try clear hi)) | ((with_reducible refine gate_callee (f := 13) rfl ?_); refine goesL_ (some 22) rfl rfl Tryd.func13 (by kernel_rfl) rfl #[.string (⟨#[102, 70]⟩ : ByteArray), .int .i64 255] rfl (by (try simp only [List.map_toArray, List.map_cons, List.map_nil]); first | done | rfl | (simp only [List.length_drop, List.length_take]; rfl)) ?_; (with_reducible refine (number_Hex.calls k (⟨#[102, 70]⟩ : ByteArray) 255 t135 t136 _ A4.out).mono ?_); rintro e w36 ⟨rfl, hb⟩; refine ⟨_, rfl, ?_⟩; have n0_ := Aside0.mk (below_step (by repeat (first | (with_reducible first | exact HB.out | apply below_alloc | apply pw_below_drewN | apply below_drew1) | exact HB.out)) hb); clear HB; have HB := n0_; clear n0_; (try clear hb); (try clear hb2); (try clear hk); (try clear hi)))
          go_ret
          exact ⟨by first | rfl | (simp [errW_none, errW_some] <;> rfl) | (simp [*, errW_none, errW_some] <;> rfl), by repeat (first | (with_reducible first | exact HB.out | apply below_alloc | apply pw_below_drewN | apply below_drew1) | exact HB.out)⟩
      · rw [if_neg c7] at H
        have c7b0 : (t132 == 23) = false := beq_eq_false_iff_ne.mpr c7
        have c7b1 : (t132 != 23) = true := bne_iff_ne.mpr c7
        obtain rfl := Option.some.inj H
        go_enter Tryd.func7, Tryd.ntmps7
        go_wp2_with (first | ((with_reducible refine gate_callee (f := 11) rfl ?_); refine goesL_ (some 10) rfl rfl Tryd.func11 (by kernel_rfl) rfl #[.string (⟨#[48, 48, 55]⟩ : ByteArray), .int .i64 9] rfl (by (try simp only [List.map_toArray, List.map_cons, List.map_nil]); first | done | rfl | (simp only [List.length_drop, List.length_take]; rfl)) ?_; (with_reducible refine (number_Dec.calls k (⟨#[48, 48, 55]⟩ : ByteArray) 9 t129 t130 _ A1.out).mono ?_); rintro e w37 ⟨rfl, hb⟩; refine ⟨_, rfl, ?_⟩; have n0_ := Aside0.mk (below_step (by repeat (first | (with_reducible first | exact HB.out | apply below_alloc | apply pw_below_drewN | apply below_drew1) | exact HB.out)) hb); clear HB; have HB := n0_; clear n0_; (try clear hb); (try clear hb2); (try clear hk); (try clear hi)) | ((with_reducible refine gate_callee (f := 11) rfl ?_); refine goesL_ (some 14) rfl rfl Tryd.func11 (by kernel_rfl) rfl #[.string (⟨#[49, 48]⟩ : ByteArray), .int .i64 9] rfl (by (try simp only [List.map_toArray, List.map_cons, List.map_nil]); first | done | rfl | (simp only [List.length_drop, List.length_take]; rfl)) ?_; (with_reducible refine (number_Dec.calls k (⟨#[49, 48]⟩ : ByteArray) 9 t131 t132 _ A2.out).mono ?_); rintro e w38 ⟨rfl, hb⟩; refine ⟨_, rfl, ?_⟩; have n0_ := Aside0.mk (below_step (by repeat (first | (with_reducible first | exact HB.out | apply below_alloc | apply pw_below_drewN | apply below_drew1) | exact HB.out)) hb); clear HB; have HB := n0_; clear n0_; (try clear hb); (try clear hb2); (try clear hk); (try clear hi)) | ((with_reducible refine gate_callee (f := 11) rfl ?_); refine goesL_ (some 18) rfl rfl Tryd.func11 (by kernel_rfl) rfl #[.string (⟨#[49, 97]⟩ : ByteArray), .int .i64 99] rfl (by (try simp only [List.map_toArray, List.map_cons, List.map_nil]); first | done | rfl | (simp only [List.length_drop, List.length_take]; rfl)) ?_; (with_reducible refine (number_Dec.calls k (⟨#[49, 97]⟩ : ByteArray) 99 t133 t134 _ A3.out).mono ?_); rintro e w39 ⟨rfl, hb⟩; refine ⟨_, rfl, ?_⟩; have n0_ := Aside0.mk (below_step (by repeat (first | (with_reducible first | exact HB.out | apply below_alloc | apply pw_below_drewN | apply below_drew1) | exact HB.out)) hb); clear HB; have HB := n0_; clear n0_; (try clear hb); (try clear hb2); (try clear hk); (try clear hi)) | ((with_reducible refine gate_callee (f := 13) rfl ?_); refine goesL_ (some 22) rfl rfl Tryd.func13 (by kernel_rfl) rfl #[.string (⟨#[102, 70]⟩ : ByteArray), .int .i64 255] rfl (by (try simp only [List.map_toArray, List.map_cons, List.map_nil]); first | done | rfl | (simp only [List.length_drop, List.length_take]; rfl)) ?_; (with_reducible refine (number_Hex.calls k (⟨#[102, 70]⟩ : ByteArray) 255 t135 t136 _ A4.out).mono ?_); rintro e w40 ⟨rfl, hb⟩; refine ⟨_, rfl, ?_⟩; have n0_ := Aside0.mk (below_step (by repeat (first | (with_reducible first | exact HB.out | apply below_alloc | apply pw_below_drewN | apply below_drew1) | exact HB.out)) hb); clear HB; have HB := n0_; clear n0_; (try clear hb); (try clear hb2); (try clear hk); (try clear hi)))
        go_ret
        exact ⟨by first | rfl | (simp [errW_none, errW_some] <;> rfl) | (simp [*, errW_none, errW_some] <;> rfl), by repeat (first | (with_reducible first | exact HB.out | apply below_alloc | apply pw_below_drewN | apply below_drew1) | exact HB.out)⟩
    · rw [if_neg c6] at H
      have c6b0 : (t130 == 0) = false := beq_eq_false_iff_ne.mpr c6
      have c6b1 : (t130 != 0) = true := bne_iff_ne.mpr c6
      obtain rfl := Option.some.inj H
      go_enter Tryd.func7, Tryd.ntmps7
      go_wp2_with (first | ((with_reducible refine gate_callee (f := 11) rfl ?_); refine goesL_ (some 10) rfl rfl Tryd.func11 (by kernel_rfl) rfl #[.string (⟨#[48, 48, 55]⟩ : ByteArray), .int .i64 9] rfl (by (try simp only [List.map_toArray, List.map_cons, List.map_nil]); first | done | rfl | (simp only [List.length_drop, List.length_take]; rfl)) ?_; (with_reducible refine (number_Dec.calls k (⟨#[48, 48, 55]⟩ : ByteArray) 9 t129 t130 _ A1.out).mono ?_); rintro e w41 ⟨rfl, hb⟩; refine ⟨_, rfl, ?_⟩; have n0_ := Aside0.mk (below_step (by repeat (first | (with_reducible first | exact HB.out | apply below_alloc | apply pw_below_drewN | apply below_drew1) | exact HB.out)) hb); clear HB; have HB := n0_; clear n0_; (try clear hb); (try clear hb2); (try clear hk); (try clear hi)) | ((with_reducible refine gate_callee (f := 11) rfl ?_); refine goesL_ (some 14) rfl rfl Tryd.func11 (by kernel_rfl) rfl #[.string (⟨#[49, 48]⟩ : ByteArray), .int .i64 9] rfl (by (try simp only [List.map_toArray, List.map_cons, List.map_nil]); first | done | rfl | (simp only [List.length_drop, List.length_take]; rfl)) ?_; (with_reducible refine (number_Dec.calls k (⟨#[49, 48]⟩ : ByteArray) 9 t131 t132 _ A2.out).mono ?_); rintro e w42 ⟨rfl, hb⟩; refine ⟨_, rfl, ?_⟩; have n0_ := Aside0.mk (below_step (by repeat (first | (with_reducible first | exact HB.out | apply below_alloc | apply pw_below_drewN | apply below_drew1) | exact HB.out)) hb); clear HB; have HB := n0_; clear n0_; (try clear hb); (try clear hb2); (try clear hk); (try clear hi)) | ((with_reducible refine gate_callee (f := 11) rfl ?_); refine goesL_ (some 18) rfl rfl Tryd.func11 (by kernel_rfl) rfl #[.string (⟨#[49, 97]⟩ : ByteArray), .int .i64 99] rfl (by (try simp only [List.map_toArray, List.map_cons, List.map_nil]); first | done | rfl | (simp only [List.length_drop, List.length_take]; rfl)) ?_; (with_reducible refine (number_Dec.calls k (⟨#[49, 97]⟩ : ByteArray) 99 t133 t134 _ A3.out).mono ?_); rintro e w43 ⟨rfl, hb⟩; refine ⟨_, rfl, ?_⟩; have n0_ := Aside0.mk (below_step (by repeat (first | (with_reducible first | exact HB.out | apply below_alloc | apply pw_below_drewN | apply below_drew1) | exact HB.out)) hb); clear HB; have HB := n0_; clear n0_; (try clear hb); (try clear hb2); (try clear hk); (try clear hi)) | ((with_reducible refine gate_callee (f := 13) rfl ?_); refine goesL_ (some 22) rfl rfl Tryd.func13 (by kernel_rfl) rfl #[.string (⟨#[102, 70]⟩ : ByteArray), .int .i64 255] rfl (by (try simp only [List.map_toArray, List.map_cons, List.map_nil]); first | done | rfl | (simp only [List.length_drop, List.length_take]; rfl)) ?_; (with_reducible refine (number_Hex.calls k (⟨#[102, 70]⟩ : ByteArray) 255 t135 t136 _ A4.out).mono ?_); rintro e w44 ⟨rfl, hb⟩; refine ⟨_, rfl, ?_⟩; have n0_ := Aside0.mk (below_step (by repeat (first | (with_reducible first | exact HB.out | apply below_alloc | apply pw_below_drewN | apply below_drew1) | exact HB.out)) hb); clear HB; have HB := n0_; clear n0_; (try clear hb); (try clear hb2); (try clear hk); (try clear hi)))
      go_ret
      exact ⟨by first | rfl | (simp [errW_none, errW_some] <;> rfl) | (simp [*, errW_none, errW_some] <;> rfl), by repeat (first | (with_reducible first | exact HB.out | apply below_alloc | apply pw_below_drewN | apply below_drew1) | exact HB.out)⟩
  · rw [if_neg c5] at H
    have c5b0 : (t129 == 7) = false := beq_eq_false_iff_ne.mpr c5
    have c5b1 : (t129 != 7) = true := bne_iff_ne.mpr c5
    obtain rfl := Option.some.inj H
    go_enter Tryd.func7, Tryd.ntmps7
    go_wp2_with (first | ((with_reducible refine gate_callee (f := 11) rfl ?_); refine goesL_ (some 10) rfl rfl Tryd.func11 (by kernel_rfl) rfl #[.string (⟨#[48, 48, 55]⟩ : ByteArray), .int .i64 9] rfl (by (try simp only [List.map_toArray, List.map_cons, List.map_nil]); first | done | rfl | (simp only [List.length_drop, List.length_take]; rfl)) ?_; (with_reducible refine (number_Dec.calls k (⟨#[48, 48, 55]⟩ : ByteArray) 9 t129 t130 _ A1.out).mono ?_); rintro e w45 ⟨rfl, hb⟩; refine ⟨_, rfl, ?_⟩; have n0_ := Aside0.mk (below_step (by repeat (first | (with_reducible first | exact HB.out | apply below_alloc | apply pw_below_drewN | apply below_drew1) | exact HB.out)) hb); clear HB; have HB := n0_; clear n0_; (try clear hb); (try clear hb2); (try clear hk); (try clear hi)) | ((with_reducible refine gate_callee (f := 11) rfl ?_); refine goesL_ (some 14) rfl rfl Tryd.func11 (by kernel_rfl) rfl #[.string (⟨#[49, 48]⟩ : ByteArray), .int .i64 9] rfl (by (try simp only [List.map_toArray, List.map_cons, List.map_nil]); first | done | rfl | (simp only [List.length_drop, List.length_take]; rfl)) ?_; (with_reducible refine (number_Dec.calls k (⟨#[49, 48]⟩ : ByteArray) 9 t131 t132 _ A2.out).mono ?_); rintro e w46 ⟨rfl, hb⟩; refine ⟨_, rfl, ?_⟩; have n0_ := Aside0.mk (below_step (by repeat (first | (with_reducible first | exact HB.out | apply below_alloc | apply pw_below_drewN | apply below_drew1) | exact HB.out)) hb); clear HB; have HB := n0_; clear n0_; (try clear hb); (try clear hb2); (try clear hk); (try clear hi)) | ((with_reducible refine gate_callee (f := 11) rfl ?_); refine goesL_ (some 18) rfl rfl Tryd.func11 (by kernel_rfl) rfl #[.string (⟨#[49, 97]⟩ : ByteArray), .int .i64 99] rfl (by (try simp only [List.map_toArray, List.map_cons, List.map_nil]); first | done | rfl | (simp only [List.length_drop, List.length_take]; rfl)) ?_; (with_reducible refine (number_Dec.calls k (⟨#[49, 97]⟩ : ByteArray) 99 t133 t134 _ A3.out).mono ?_); rintro e w47 ⟨rfl, hb⟩; refine ⟨_, rfl, ?_⟩; have n0_ := Aside0.mk (below_step (by repeat (first | (with_reducible first | exact HB.out | apply below_alloc | apply pw_below_drewN | apply below_drew1) | exact HB.out)) hb); clear HB; have HB := n0_; clear n0_; (try clear hb); (try clear hb2); (try clear hk); (try clear hi)) | ((with_reducible refine gate_callee (f := 13) rfl ?_); refine goesL_ (some 22) rfl rfl Tryd.func13 (by kernel_rfl) rfl #[.string (⟨#[102, 70]⟩ : ByteArray), .int .i64 255] rfl (by (try simp only [List.map_toArray, List.map_cons, List.map_nil]); first | done | rfl | (simp only [List.length_drop, List.length_take]; rfl)) ?_; (with_reducible refine (number_Hex.calls k (⟨#[102, 70]⟩ : ByteArray) 255 t135 t136 _ A4.out).mono ?_); rintro e w48 ⟨rfl, hb⟩; refine ⟨_, rfl, ?_⟩; have n0_ := Aside0.mk (below_step (by repeat (first | (with_reducible first | exact HB.out | apply below_alloc | apply pw_below_drewN | apply below_drew1) | exact HB.out)) hb); clear HB; have HB := n0_; clear n0_; (try clear hb); (try clear hb2); (try clear hk); (try clear hi)))
    go_ret
    exact ⟨by first | rfl | (simp [errW_none, errW_some] <;> rfl) | (simp [*, errW_none, errW_some] <;> rfl), by repeat (first | (with_reducible first | exact HB.out | apply below_alloc | apply pw_below_drewN | apply below_drew1) | exact HB.out)⟩

/-! ### parallaxlaw2_NumberOrder: function 6 -/
def parallaxlaw2_NumberOrder.f (k : Nat) (a0 : Int) (a1 : Int) : Option (Bool) := (parallaxlaw2_known.f k).bind fun t139 => (if t139 = true then ((number_Put.f (mx a0 0)).bind fun t140 => ((number_Put.f (mx a1 0)).bind fun t141 => ((number_PutHex.f (mx a0 0)).bind fun t142 => ((number_PutHex.f (mx a1 0)).bind fun t143 => (if (t140.size : Int) < (t141.size : Int) then (if (t142.size : Int) < (t143.size : Int) then (if ((decide ((mx a0 0) < (mx a1 0))) == true) = true then (if (t140.size : Int) > 0 then (some (decide ((t142.size : Int) > 0))) else (some false)) else (some false)) else (if (t142.size : Int) = (t143.size : Int) then (if ((decide ((mx a0 0) < (mx a1 0))) == true) = true then (if ((decide ((mx a0 0) < (mx a1 0))) == (Op.bytesLess t142.toList t143.toList)) = true then (if (t140.size : Int) > 0 then (some (decide ((t142.size : Int) > 0))) else (some false)) else (some false)) else (some false)) else (if ((decide ((mx a0 0) < (mx a1 0))) == true) = true then (if ((decide ((mx a0 0) < (mx a1 0))) == false) = true then (if (t140.size : Int) > 0 then (some (decide ((t142.size : Int) > 0))) else (some false)) else (some false)) else (some false)))) else (if (t140.size : Int) = (t141.size : Int) then (if (t142.size : Int) < (t143.size : Int) then (if ((decide ((mx a0 0) < (mx a1 0))) == (Op.bytesLess t140.toList t141.toList)) = true then (if ((decide ((mx a0 0) < (mx a1 0))) == true) = true then (if (t140.size : Int) > 0 then (some (decide ((t142.size : Int) > 0))) else (some false)) else (some false)) else (some false)) else (if (t142.size : Int) = (t143.size : Int) then (if ((decide ((mx a0 0) < (mx a1 0))) == (Op.bytesLess t140.toList t141.toList)) = true then (if ((decide ((mx a0 0) < (mx a1 0))) == (Op.bytesLess t142.toList t143.toList)) = true then (if (t140.size : Int) > 0 then (some (decide ((t142.size : Int) > 0))) else (some false)) else (some false)) else (some false)) else (if ((decide ((mx a0 0) < (mx a1 0))) == (Op.bytesLess t140.toList t141.toList)) = true then (if ((decide ((mx a0 0) < (mx a1 0))) == false) = true then (if (t140.size : Int) > 0 then (some (decide ((t142.size : Int) > 0))) else (some false)) else (some false)) else (some false)))) else (if (t142.size : Int) < (t143.size : Int) then (if ((decide ((mx a0 0) < (mx a1 0))) == false) = true then (if ((decide ((mx a0 0) < (mx a1 0))) == true) = true then (if (t140.size : Int) > 0 then (some (decide ((t142.size : Int) > 0))) else (some false)) else (some false)) else (some false)) else (if (t142.size : Int) = (t143.size : Int) then (if ((decide ((mx a0 0) < (mx a1 0))) == false) = true then (if ((decide ((mx a0 0) < (mx a1 0))) == (Op.bytesLess t142.toList t143.toList)) = true then (if (t140.size : Int) > 0 then (some (decide ((t142.size : Int) > 0))) else (some false)) else (some false)) else (some false)) else (if ((decide ((mx a0 0) < (mx a1 0))) == false) = true then (if (t140.size : Int) > 0 then (some (decide ((t142.size : Int) > 0))) else (some false)) else (some false)))))))))) else (some false))
theorem parallaxlaw2_NumberOrder.mono : ∀ a0 a1 k, LeO (parallaxlaw2_NumberOrder.f k a0 a1) (parallaxlaw2_NumberOrder.f (k + 1) a0 a1) := by
  intro a0 a1 k
  unfold parallaxlaw2_NumberOrder.f
  repeat' first
      | (with_reducible exact parallaxlaw2_known.mono _)
      | (with_reducible exact LeO.refl _)
      | (with_reducible exact LeO.none _)
      | (with_reducible refine LeO.ite ?_ ?_)
      | (with_reducible refine LeO.bind ?_ (fun _ => ?_))
      | exact parallaxlaw2_known.mono _
      | exact LeO.none _
      | refine LeO.ite ?_ ?_
      | refine LeO.bind ?_ (fun _ => ?_)
set_option maxHeartbeats 8000000 in
set_option maxRecDepth 100000 in
theorem parallaxlaw2_NumberOrder.calls (k : Nat) (a0 : Int) (a1 : Int) (r : Bool) (w : World) (hq0 : (Lit.int .i64 a0).wf = true) (hq1 : (Lit.int .i64 a1).wf = true) (hT : r = true) (hL : Laid.LaidX w) (h : parallaxlaw2_NumberOrder.f k a0 a1 = some r) :
    Calls Tryd.prog 6 #[.int .i64 a0, .int .i64 a1] w fun e w' => e = .returned (.bool r) ∧ Below w.heap.size w w' := by
  have HQ0 := Aside0.mk hq0
  clear hq0
  have HQ1 := Aside0.mk hq1
  clear hq1
  have HT := Aside0.mk hT
  clear hT
  have HB := Aside0.mk (Below.refl w.heap.size w)
  have HLX := Aside0.mk hL
  clear hL
  have H : ((parallaxlaw2_known.f k).bind fun t139 => (if t139 = true then ((number_Put.f (mx a0 0)).bind fun t140 => ((number_Put.f (mx a1 0)).bind fun t141 => ((number_PutHex.f (mx a0 0)).bind fun t142 => ((number_PutHex.f (mx a1 0)).bind fun t143 => (if (t140.size : Int) < (t141.size : Int) then (if (t142.size : Int) < (t143.size : Int) then (if ((decide ((mx a0 0) < (mx a1 0))) == true) = true then (if (t140.size : Int) > 0 then (some (decide ((t142.size : Int) > 0))) else (some false)) else (some false)) else (if (t142.size : Int) = (t143.size : Int) then (if ((decide ((mx a0 0) < (mx a1 0))) == true) = true then (if ((decide ((mx a0 0) < (mx a1 0))) == (Op.bytesLess t142.toList t143.toList)) = true then (if (t140.size : Int) > 0 then (some (decide ((t142.size : Int) > 0))) else (some false)) else (some false)) else (some false)) else (if ((decide ((mx a0 0) < (mx a1 0))) == true) = true then (if ((decide ((mx a0 0) < (mx a1 0))) == false) = true then (if (t140.size : Int) > 0 then (some (decide ((t142.size : Int) > 0))) else (some false)) else (some false)) else (some false)))) else (if (t140.size : Int) = (t141.size : Int) then (if (t142.size : Int) < (t143.size : Int) then (if ((decide ((mx a0 0) < (mx a1 0))) == (Op.bytesLess t140.toList t141.toList)) = true then (if ((decide ((mx a0 0) < (mx a1 0))) == true) = true then (if (t140.size : Int) > 0 then (some (decide ((t142.size : Int) > 0))) else (some false)) else (some false)) else (some false)) else (if (t142.size : Int) = (t143.size : Int) then (if ((decide ((mx a0 0) < (mx a1 0))) == (Op.bytesLess t140.toList t141.toList)) = true then (if ((decide ((mx a0 0) < (mx a1 0))) == (Op.bytesLess t142.toList t143.toList)) = true then (if (t140.size : Int) > 0 then (some (decide ((t142.size : Int) > 0))) else (some false)) else (some false)) else (some false)) else (if ((decide ((mx a0 0) < (mx a1 0))) == (Op.bytesLess t140.toList t141.toList)) = true then (if ((decide ((mx a0 0) < (mx a1 0))) == false) = true then (if (t140.size : Int) > 0 then (some (decide ((t142.size : Int) > 0))) else (some false)) else (some false)) else (some false)))) else (if (t142.size : Int) < (t143.size : Int) then (if ((decide ((mx a0 0) < (mx a1 0))) == false) = true then (if ((decide ((mx a0 0) < (mx a1 0))) == true) = true then (if (t140.size : Int) > 0 then (some (decide ((t142.size : Int) > 0))) else (some false)) else (some false)) else (some false)) else (if (t142.size : Int) = (t143.size : Int) then (if ((decide ((mx a0 0) < (mx a1 0))) == false) = true then (if ((decide ((mx a0 0) < (mx a1 0))) == (Op.bytesLess t142.toList t143.toList)) = true then (if (t140.size : Int) > 0 then (some (decide ((t142.size : Int) > 0))) else (some false)) else (some false)) else (some false)) else (if ((decide ((mx a0 0) < (mx a1 0))) == false) = true then (if (t140.size : Int) > 0 then (some (decide ((t142.size : Int) > 0))) else (some false)) else (some false)))))))))) else (some false))) = some r := h
  clear h
  replace H := Option.bind_eq_some_iff.mp H
  obtain ⟨t139, A30, H⟩ := H
  (try dsimp only at H)
  have A3 := Aside0.mk A30
  clear A30
  by_cases c4 : t139 = true
  · subst c4
    rw [if_pos rfl] at H
    obtain ⟨ji5, hji5⟩ : ∃ j_ : Int, (mx a0 0) = j_ := ⟨_, rfl⟩
    replace H : ((number_Put.f (ji5)).bind fun t140 => ((number_Put.f (mx a1 0)).bind fun t141 => ((number_PutHex.f (ji5)).bind fun t142 => ((number_PutHex.f (mx a1 0)).bind fun t143 => (if (t140.size : Int) < (t141.size : Int) then (if (t142.size : Int) < (t143.size : Int) then (if ((decide ((ji5) < (mx a1 0))) == true) = true then (if (t140.size : Int) > 0 then (some (decide ((t142.size : Int) > 0))) else (some false)) else (some false)) else (if (t142.size : Int) = (t143.size : Int) then (if ((decide ((ji5) < (mx a1 0))) == true) = true then (if ((decide ((ji5) < (mx a1 0))) == (Op.bytesLess t142.toList t143.toList)) = true then (if (t140.size : Int) > 0 then (some (decide ((t142.size : Int) > 0))) else (some false)) else (some false)) else (some false)) else (if ((decide ((ji5) < (mx a1 0))) == true) = true then (if ((decide ((ji5) < (mx a1 0))) == false) = true then (if (t140.size : Int) > 0 then (some (decide ((t142.size : Int) > 0))) else (some false)) else (some false)) else (some false)))) else (if (t140.size : Int) = (t141.size : Int) then (if (t142.size : Int) < (t143.size : Int) then (if ((decide ((ji5) < (mx a1 0))) == (Op.bytesLess t140.toList t141.toList)) = true then (if ((decide ((ji5) < (mx a1 0))) == true) = true then (if (t140.size : Int) > 0 then (some (decide ((t142.size : Int) > 0))) else (some false)) else (some false)) else (some false)) else (if (t142.size : Int) = (t143.size : Int) then (if ((decide ((ji5) < (mx a1 0))) == (Op.bytesLess t140.toList t141.toList)) = true then (if ((decide ((ji5) < (mx a1 0))) == (Op.bytesLess t142.toList t143.toList)) = true then (if (t140.size : Int) > 0 then (some (decide ((t142.size : Int) > 0))) else (some false)) else (some false)) else (some false)) else (if ((decide ((ji5) < (mx a1 0))) == (Op.bytesLess t140.toList t141.toList)) = true then (if ((decide ((ji5) < (mx a1 0))) == false) = true then (if (t140.size : Int) > 0 then (some (decide ((t142.size : Int) > 0))) else (some false)) else (some false)) else (some false)))) else (if (t142.size : Int) < (t143.size : Int) then (if ((decide ((ji5) < (mx a1 0))) == false) = true then (if ((decide ((ji5) < (mx a1 0))) == true) = true then (if (t140.size : Int) > 0 then (some (decide ((t142.size : Int) > 0))) else (some false)) else (some false)) else (some false)) else (if (t142.size : Int) = (t143.size : Int) then (if ((decide ((ji5) < (mx a1 0))) == false) = true then (if ((decide ((ji5) < (mx a1 0))) == (Op.bytesLess t142.toList t143.toList)) = true then (if (t140.size : Int) > 0 then (some (decide ((t142.size : Int) > 0))) else (some false)) else (some false)) else (some false)) else (if ((decide ((ji5) < (mx a1 0))) == false) = true then (if (t140.size : Int) > 0 then (some (decide ((t142.size : Int) > 0))) else (some false)) else (some false)))))))))) = some r := by first | (rw [hji5] at H; exact H) | (simp only [hji5] at H ⊢; exact H)
    (try rw [hji5] at A3)
    (try (have hji5l : 0 ≤ ji5 := by (rw [← hji5]; unfold mx; (repeat' split) <;> omega)))
    (try (have hji5m : 0 ≤ ji5 := by omega))
    have hji5_ : (if a0 < 0 then 0 else a0) = ji5 := hji5
    obtain ⟨ji6, hji6⟩ : ∃ j_ : Int, (mx a1 0) = j_ := ⟨_, rfl⟩
    replace H : ((number_Put.f (ji5)).bind fun t140 => ((number_Put.f (ji6)).bind fun t141 => ((number_PutHex.f (ji5)).bind fun t142 => ((number_PutHex.f (ji6)).bind fun t143 => (if (t140.size : Int) < (t141.size : Int) then (if (t142.size : Int) < (t143.size : Int) then (if ((decide ((ji5) < (ji6))) == true) = true then (if (t140.size : Int) > 0 then (some (decide ((t142.size : Int) > 0))) else (some false)) else (some false)) else (if (t142.size : Int) = (t143.size : Int) then (if ((decide ((ji5) < (ji6))) == true) = true then (if ((decide ((ji5) < (ji6))) == (Op.bytesLess t142.toList t143.toList)) = true then (if (t140.size : Int) > 0 then (some (decide ((t142.size : Int) > 0))) else (some false)) else (some false)) else (some false)) else (if ((decide ((ji5) < (ji6))) == true) = true then (if ((decide ((ji5) < (ji6))) == false) = true then (if (t140.size : Int) > 0 then (some (decide ((t142.size : Int) > 0))) else (some false)) else (some false)) else (some false)))) else (if (t140.size : Int) = (t141.size : Int) then (if (t142.size : Int) < (t143.size : Int) then (if ((decide ((ji5) < (ji6))) == (Op.bytesLess t140.toList t141.toList)) = true then (if ((decide ((ji5) < (ji6))) == true) = true then (if (t140.size : Int) > 0 then (some (decide ((t142.size : Int) > 0))) else (some false)) else (some false)) else (some false)) else (if (t142.size : Int) = (t143.size : Int) then (if ((decide ((ji5) < (ji6))) == (Op.bytesLess t140.toList t141.toList)) = true then (if ((decide ((ji5) < (ji6))) == (Op.bytesLess t142.toList t143.toList)) = true then (if (t140.size : Int) > 0 then (some (decide ((t142.size : Int) > 0))) else (some false)) else (some false)) else (some false)) else (if ((decide ((ji5) < (ji6))) == (Op.bytesLess t140.toList t141.toList)) = true then (if ((decide ((ji5) < (ji6))) == false) = true then (if (t140.size : Int) > 0 then (some (decide ((t142.size : Int) > 0))) else (some false)) else (some false)) else (some false)))) else (if (t142.size : Int) < (t143.size : Int) then (if ((decide ((ji5) < (ji6))) == false) = true then (if ((decide ((ji5) < (ji6))) == true) = true then (if (t140.size : Int) > 0 then (some (decide ((t142.size : Int) > 0))) else (some false)) else (some false)) else (some false)) else (if (t142.size : Int) = (t143.size : Int) then (if ((decide ((ji5) < (ji6))) == false) = true then (if ((decide ((ji5) < (ji6))) == (Op.bytesLess t142.toList t143.toList)) = true then (if (t140.size : Int) > 0 then (some (decide ((t142.size : Int) > 0))) else (some false)) else (some false)) else (some false)) else (if ((decide ((ji5) < (ji6))) == false) = true then (if (t140.size : Int) > 0 then (some (decide ((t142.size : Int) > 0))) else (some false)) else (some false)))))))))) = some r := by first | (rw [hji6] at H; exact H) | (simp only [hji6] at H ⊢; exact H)
    (try rw [hji6] at A3)
    (try (have hji6l : 0 ≤ ji6 := by (rw [← hji6]; unfold mx; (repeat' split) <;> omega)))
    (try (have hji6m : 0 ≤ ji6 := by omega))
    have hji6_ : (if a1 < 0 then 0 else a1) = ji6 := hji6
    replace H := Option.bind_eq_some_iff.mp H
    obtain ⟨t140, A70, H⟩ := H
    (try dsimp only at H)
    have A7 := Aside0.mk A70
    clear A70
    replace H := Option.bind_eq_some_iff.mp H
    obtain ⟨t141, A80, H⟩ := H
    (try dsimp only at H)
    have A8 := Aside0.mk A80
    clear A80
    replace H := Option.bind_eq_some_iff.mp H
    obtain ⟨t142, A90, H⟩ := H
    (try dsimp only at H)
    have A9 := Aside0.mk A90
    clear A90
    replace H := Option.bind_eq_some_iff.mp H
    obtain ⟨t143, A100, H⟩ := H
    (try dsimp only at H)
    have A10 := Aside0.mk A100
    clear A100
    by_cases c11 : (t140.size : Int) < (t141.size : Int)
    · rw [if_pos c11] at H
      have c11b0 : decide ((t140.size : Int) < (t141.size : Int)) = true := decide_eq_true c11
      have c11b1 : decide (t140.size < t141.size) = true := decide_eq_true (Int.ofNat_lt.mp c11)
      clear c11
      by_cases c12 : (t142.size : Int) < (t143.size : Int)
      · rw [if_pos c12] at H
        have c12b0 : decide ((t142.size : Int) < (t143.size : Int)) = true := decide_eq_true c12
        have c12b1 : decide (t142.size < t143.size) = true := decide_eq_true (Int.ofNat_lt.mp c12)
        clear c12
        by_cases c13 : (decide ((ji5) < (ji6))) = true
        · skip
          rw [c13] at H
          have H2_ := H
          clear H
          have H := H2_
          clear H2_
          rw [if_pos (show (true == true) = true by rfl)] at H
          by_cases c14 : (t140.size : Int) > 0
          · rw [if_pos c14] at H
            have c14b0 : decide (0 < (t140.size : Int)) = true := decide_eq_true c14
            have c14b1 : decide (0 < t140.size) = true := decide_eq_true (by omega)
            clear c14
            obtain rfl := Option.some.inj H
            go_enter Tryd.func6, Tryd.ntmps6
            go_wp2_with (first | ((with_reducible refine gate_callee (f := 7) rfl ?_); refine goesL_ (some 13) rfl rfl Tryd.func7 (by kernel_rfl) rfl #[] rfl (by (try simp only [List.map_toArray, List.map_cons, List.map_nil]); first | done | rfl | (simp only [List.length_drop, List.length_take]; rfl)) ?_; (with_reducible refine (parallaxlaw2_known.calls k  true _ ?side1 A3.out).mono ?_); (case side1 => exact Laid.below HLX.out (by repeat (first | (with_reducible first | exact HB.out | apply below_alloc | apply pw_below_drewN | apply below_drew1) | exact HB.out))); rintro e w15 ⟨rfl, hb⟩; refine ⟨_, rfl, ?_⟩; have n0_ := Aside0.mk (below_step (by repeat (first | (with_reducible first | exact HB.out | apply below_alloc | apply pw_below_drewN | apply below_drew1) | exact HB.out)) hb); clear HB; have HB := n0_; clear n0_; (try clear hb); (try clear hb2); (try clear hk); (try clear hi)) | ((with_reducible refine gate_callee (f := 15) rfl ?_); refine goesL_ (some 20) rfl rfl Tryd.func15 (by kernel_rfl) rfl #[.int .i64 ji5] rfl (by (try simp only [List.map_toArray, List.map_cons, List.map_nil]); first | done | (simp only [hji5]; rfl) | rfl | (simp only [List.length_drop, List.length_take]; rfl)) ?_; (with_reducible refine (number_Put.calls ji5 t140 _ ?side1 A7.out).mono ?_); (case side1 => exact Laid.below HLX.out (by repeat (first | (with_reducible first | exact HB.out | apply below_alloc | apply pw_below_drewN | apply below_drew1) | exact HB.out))); rintro e w16 ⟨rfl, hb⟩; refine ⟨_, rfl, ?_⟩; have n0_ := Aside0.mk (below_step (by repeat (first | (with_reducible first | exact HB.out | apply below_alloc | apply pw_below_drewN | apply below_drew1) | exact HB.out)) hb); clear HB; have HB := n0_; clear n0_; (try clear hb); (try clear hb2); (try clear hk); (try clear hi)) | ((with_reducible refine gate_callee (f := 15) rfl ?_); refine goesL_ (some 22) rfl rfl Tryd.func15 (by kernel_rfl) rfl #[.int .i64 ji6] rfl (by (try simp only [List.map_toArray, List.map_cons, List.map_nil]); first | done | (simp only [hji6]; rfl) | rfl | (simp only [List.length_drop, List.length_take]; rfl)) ?_; (with_reducible refine (number_Put.calls ji6 t141 _ ?side1 A8.out).mono ?_); (case side1 => exact Laid.below HLX.out (by repeat (first | (with_reducible first | exact HB.out | apply below_alloc | apply pw_below_drewN | apply below_drew1) | exact HB.out))); rintro e w17 ⟨rfl, hb⟩; refine ⟨_, rfl, ?_⟩; have n0_ := Aside0.mk (below_step (by repeat (first | (with_reducible first | exact HB.out | apply below_alloc | apply pw_below_drewN | apply below_drew1) | exact HB.out)) hb); clear HB; have HB := n0_; clear n0_; (try clear hb); (try clear hb2); (try clear hk); (try clear hi)) | ((with_reducible refine gate_callee (f := 16) rfl ?_); refine goesL_ (some 24) rfl rfl Tryd.func16 (by kernel_rfl) rfl #[.int .i64 ji5] rfl (by (try simp only [List.map_toArray, List.map_cons, List.map_nil]); first | done | (simp only [hji5]; rfl) | rfl | (simp only [List.length_drop, List.length_take]; rfl)) ?_; (with_reducible refine (number_PutHex.calls ji5 t142 _ ?side1 A9.out).mono ?_); (case side1 => exact Laid.below HLX.out (by repeat (first | (with_reducible first | exact HB.out | apply below_alloc | apply pw_below_drewN | apply below_drew1) | exact HB.out))); rintro e w18 ⟨rfl, hb⟩; refine ⟨_, rfl, ?_⟩; have n0_ := Aside0.mk (below_step (by repeat (first | (with_reducible first | exact HB.out | apply below_alloc | apply pw_below_drewN | apply below_drew1) | exact HB.out)) hb); clear HB; have HB := n0_; clear n0_; (try clear hb); (try clear hb2); (try clear hk); (try clear hi)) | ((with_reducible refine gate_callee (f := 16) rfl ?_); refine goesL_ (some 26) rfl rfl Tryd.func16 (by kernel_rfl) rfl #[.int .i64 ji6] rfl (by (try simp only [List.map_toArray, List.map_cons, List.map_nil]); first | done | (simp only [hji6]; rfl) | rfl | (simp only [List.length_drop, List.length_take]; rfl)) ?_; (with_reducible refine (number_PutHex.calls ji6 t143 _ ?side1 A10.out).mono ?_); (case side1 => exact Laid.below HLX.out (by repeat (first | (with_reducible first | exact HB.out | apply below_alloc | apply pw_below_drewN | apply below_drew1) | exact HB.out))); rintro e w19 ⟨rfl, hb⟩; refine ⟨_, rfl, ?_⟩; have n0_ := Aside0.mk (below_step (by repeat (first | (with_reducible first | exact HB.out | apply below_alloc | apply pw_below_drewN | apply below_drew1) | exact HB.out)) hb); clear HB; have HB := n0_; clear n0_; (try clear hb); (try clear hb2); (try clear hk); (try clear hi)) | (go_at_call 7; (with_reducible refine (parallaxlaw2_known.calls k  true _ ?side1 A3.out).mono ?_); (case side1 => exact Laid.below HLX.out (by repeat (first | (with_reducible first | exact HB.out | apply below_alloc | apply pw_below_drewN | apply below_drew1) | exact HB.out))); rintro e w15 ⟨rfl, hb⟩; have n0_ := Aside0.mk (below_step (by repeat (first | (with_reducible first | exact HB.out | apply below_alloc | apply pw_below_drewN | apply below_drew1) | exact HB.out)) hb); clear HB; have HB := n0_; clear n0_; (try clear hb); (try clear hb2); (try clear hk); (try clear hi)) | (go_at_call 15; (with_reducible refine (number_Put.calls ji5 t140 _ ?side1 A7.out).mono ?_); (case side1 => exact Laid.below HLX.out (by repeat (first | (with_reducible first | exact HB.out | apply below_alloc | apply pw_below_drewN | apply below_drew1) | exact HB.out))); rintro e w16 ⟨rfl, hb⟩; have n0_ := Aside0.mk (below_step (by repeat (first | (with_reducible first | exact HB.out | apply below_alloc | apply pw_below_drewN | apply below_drew1) | exact HB.out)) hb); clear HB; have HB := n0_; clear n0_; (try clear hb); (try clear hb2); (try clear hk); (try clear hi)) | (go_at_call 15; (with_reducible refine (number_Put.calls ji6 t141 _ ?side1 A8.out).mono ?_); (case side1 => exact Laid.below HLX.out (by repeat (first | (with_reducible first | exact HB.out | apply below_alloc | apply pw_below_drewN | apply below_drew1) | exact HB.out))); rintro e w17 ⟨rfl, hb⟩; have n0_ := Aside0.mk (below_step (by repeat (first | (with_reducible first | exact HB.out | apply below_alloc | apply pw_below_drewN | apply below_drew1) | exact HB.out)) hb); clear HB; have HB := n0_; clear n0_; (try clear hb); (try clear hb2); (try clear hk); (try clear hi)) | (go_at_call 16; (with_reducible refine (number_PutHex.calls ji5 t142 _ ?side1 A9.out).mono ?_); (case side1 => exact Laid.below HLX.out (by repeat (first | (with_reducible first | exact HB.out | apply below_alloc | apply pw_below_drewN | apply below_drew1) | exact HB.out))); rintro e w18 ⟨rfl, hb⟩; have n0_ := Aside0.mk (below_step (by repeat (first | (with_reducible first | exact HB.out | apply below_alloc | apply pw_below_drewN | apply below_drew1) | exact HB.out)) hb); clear HB; have HB := n0_; clear n0_; (try clear hb); (try clear hb2); (try clear hk); (try clear hi)) | (go_at_call 16; (with_reducible refine (number_PutHex.calls ji6 t143 _ ?side1 A10.out).mono ?_); (case side1 => exact Laid.below HLX.out (by repeat (first | (with_reducible first | exact HB.out | apply below_alloc | apply pw_below_drewN | apply below_drew1) | exact HB.out))); rintro e w19 ⟨rfl, hb⟩; have n0_ := Aside0.mk (below_step (by repeat (first | (with_reducible first | exact HB.out | apply below_alloc | apply pw_below_drewN | apply below_drew1) | exact HB.out)) hb); clear HB; have HB := n0_; clear n0_; (try clear hb); (try clear hb2); (try clear hk); (try clear hi)))
            (try any_goals (exfalso; have h_ := ‹some undef = some (Value.bool _)›; revert h_; simp [undef]; done))
            go_ret
            exact ⟨by first | rfl | (simp [errW_none, errW_some] <;> rfl) | (simp only [← hji5, ← hji6]; first | rfl | (simp [errW_none, errW_some] <;> rfl)) | (simp [*, errW_none, errW_some] <;> rfl), by repeat (first | (with_reducible first | exact HB.out | apply below_alloc | apply pw_below_drewN | apply below_drew1) | exact HB.out)⟩
          · rw [if_neg c14] at H
            have c14b0 : decide (0 < (t140.size : Int)) = false := decide_eq_false c14
            have c14b1 : decide (0 < t140.size) = false := decide_eq_false (by omega)
            clear c14
            exact absurd ((Option.some.inj H).trans HT.out) (by decide)
        · skip
          replace c13 := Bool.eq_false_iff.mpr c13
          rw [c13] at H
          have H2_ := H
          clear H
          have H := H2_
          clear H2_
          rw [if_neg (show ¬ ((false == true) = true) by decide)] at H
          exact absurd ((Option.some.inj H).trans HT.out) (by decide)
      · rw [if_neg c12] at H
        have c12b0 : decide ((t142.size : Int) < (t143.size : Int)) = false := decide_eq_false c12
        have c12b1 : decide (t142.size < t143.size) = false := decide_eq_false (fun h => c12 (Int.ofNat_lt.mpr h))
        clear c12
        by_cases c20 : (t142.size : Int) = (t143.size : Int)
        · rw [if_pos c20] at H
          have c20b0 : ((t142.size : Int) == (t143.size : Int)) = true := beq_iff_eq.mpr c20
          have c20b1 : ((t142.size : Int) != (t143.size : Int)) = false := bne_eq_false_iff_eq.mpr c20
          have c20b2 : (t142.size == t143.size) = true := by first | simpa using c20 | (simp at c20 ⊢; omega)
          clear c20
          by_cases c21 : (decide ((ji5) < (ji6))) = true
          · skip
            rw [c21] at H
            have H2_ := H
            clear H
            have H := H2_
            clear H2_
            rw [if_pos (show (true == true) = true by rfl)] at H
            by_cases c22 : (Op.bytesLess t142.toList t143.toList) = true
            · skip
              rw [c22] at H
              have H2_ := H
              clear H
              have H := H2_
              clear H2_
              rw [if_pos (show (true == true) = true by rfl)] at H
              by_cases c23 : (t140.size : Int) > 0
              · rw [if_pos c23] at H
                have c23b0 : decide (0 < (t140.size : Int)) = true := decide_eq_true c23
                have c23b1 : decide (0 < t140.size) = true := decide_eq_true (by omega)
                clear c23
                obtain rfl := Option.some.inj H
                go_enter Tryd.func6, Tryd.ntmps6
                go_wp2_with (first | ((with_reducible refine gate_callee (f := 7) rfl ?_); refine goesL_ (some 13) rfl rfl Tryd.func7 (by kernel_rfl) rfl #[] rfl (by (try simp only [List.map_toArray, List.map_cons, List.map_nil]); first | done | rfl | (simp only [List.length_drop, List.length_take]; rfl)) ?_; (with_reducible refine (parallaxlaw2_known.calls k  true _ ?side1 A3.out).mono ?_); (case side1 => exact Laid.below HLX.out (by repeat (first | (with_reducible first | exact HB.out | apply below_alloc | apply pw_below_drewN | apply below_drew1) | exact HB.out))); rintro e w24 ⟨rfl, hb⟩; refine ⟨_, rfl, ?_⟩; have n0_ := Aside0.mk (below_step (by repeat (first | (with_reducible first | exact HB.out | apply below_alloc | apply pw_below_drewN | apply below_drew1) | exact HB.out)) hb); clear HB; have HB := n0_; clear n0_; (try clear hb); (try clear hb2); (try clear hk); (try clear hi)) | ((with_reducible refine gate_callee (f := 15) rfl ?_); refine goesL_ (some 20) rfl rfl Tryd.func15 (by kernel_rfl) rfl #[.int .i64 ji5] rfl (by (try simp only [List.map_toArray, List.map_cons, List.map_nil]); first | done | (simp only [hji5]; rfl) | rfl | (simp only [List.length_drop, List.length_take]; rfl)) ?_; (with_reducible refine (number_Put.calls ji5 t140 _ ?side1 A7.out).mono ?_); (case side1 => exact Laid.below HLX.out (by repeat (first | (with_reducible first | exact HB.out | apply below_alloc | apply pw_below_drewN | apply below_drew1) | exact HB.out))); rintro e w25 ⟨rfl, hb⟩; refine ⟨_, rfl, ?_⟩; have n0_ := Aside0.mk (below_step (by repeat (first | (with_reducible first | exact HB.out | apply below_alloc | apply pw_below_drewN | apply below_drew1) | exact HB.out)) hb); clear HB; have HB := n0_; clear n0_; (try clear hb); (try clear hb2); (try clear hk); (try clear hi)) | ((with_reducible refine gate_callee (f := 15) rfl ?_); refine goesL_ (some 22) rfl rfl Tryd.func15 (by kernel_rfl) rfl #[.int .i64 ji6] rfl (by (try simp only [List.map_toArray, List.map_cons, List.map_nil]); first | done | (simp only [hji6]; rfl) | rfl | (simp only [List.length_drop, List.length_take]; rfl)) ?_; (with_reducible refine (number_Put.calls ji6 t141 _ ?side1 A8.out).mono ?_); (case side1 => exact Laid.below HLX.out (by repeat (first | (with_reducible first | exact HB.out | apply below_alloc | apply pw_below_drewN | apply below_drew1) | exact HB.out))); rintro e w26 ⟨rfl, hb⟩; refine ⟨_, rfl, ?_⟩; have n0_ := Aside0.mk (below_step (by repeat (first | (with_reducible first | exact HB.out | apply below_alloc | apply pw_below_drewN | apply below_drew1) | exact HB.out)) hb); clear HB; have HB := n0_; clear n0_; (try clear hb); (try clear hb2); (try clear hk); (try clear hi)) | ((with_reducible refine gate_callee (f := 16) rfl ?_); refine goesL_ (some 24) rfl rfl Tryd.func16 (by kernel_rfl) rfl #[.int .i64 ji5] rfl (by (try simp only [List.map_toArray, List.map_cons, List.map_nil]); first | done | (simp only [hji5]; rfl) | rfl | (simp only [List.length_drop, List.length_take]; rfl)) ?_; (with_reducible refine (number_PutHex.calls ji5 t142 _ ?side1 A9.out).mono ?_); (case side1 => exact Laid.below HLX.out (by repeat (first | (with_reducible first | exact HB.out | apply below_alloc | apply pw_below_drewN | apply below_drew1) | exact HB.out))); rintro e w27 ⟨rfl, hb⟩; refine ⟨_, rfl, ?_⟩; have n0_ := Aside0.mk (below_step (by repeat (first | (with_reducible first | exact HB.out | apply below_alloc | apply pw_below_drewN | apply below_drew1) | exact HB.out)) hb); clear HB; have HB := n0_; clear n0_; (try clear hb); (try clear hb2); (try clear hk); (try clear hi)) | ((with_reducible refine gate_callee (f := 16) rfl ?_); refine goesL_ (some 26) rfl rfl Tryd.func16 (by kernel_rfl) rfl #[.int .i64 ji6] rfl (by (try simp only [List.map_toArray, List.map_cons, List.map_nil]); first | done | (simp only [hji6]; rfl) | rfl | (simp only [List.length_drop, List.length_take]; rfl)) ?_; (with_reducible refine (number_PutHex.calls ji6 t143 _ ?side1 A10.out).mono ?_); (case side1 => exact Laid.below HLX.out (by repeat (first | (with_reducible first | exact HB.out | apply below_alloc | apply pw_below_drewN | apply below_drew1) | exact HB.out))); rintro e w28 ⟨rfl, hb⟩; refine ⟨_, rfl, ?_⟩; have n0_ := Aside0.mk (below_step (by repeat (first | (with_reducible first | exact HB.out | apply below_alloc | apply pw_below_drewN | apply below_drew1) | exact HB.out)) hb); clear HB; have HB := n0_; clear n0_; (try clear hb); (try clear hb2); (try clear hk); (try clear hi)) | (go_at_call 7; (with_reducible refine (parallaxlaw2_known.calls k  true _ ?side1 A3.out).mono ?_); (case side1 => exact Laid.below HLX.out (by repeat (first | (with_reducible first | exact HB.out | apply below_alloc | apply pw_below_drewN | apply below_drew1) | exact HB.out))); rintro e w24 ⟨rfl, hb⟩; have n0_ := Aside0.mk (below_step (by repeat (first | (with_reducible first | exact HB.out | apply below_alloc | apply pw_below_drewN | apply below_drew1) | exact HB.out)) hb); clear HB; have HB := n0_; clear n0_; (try clear hb); (try clear hb2); (try clear hk); (try clear hi)) | (go_at_call 15; (with_reducible refine (number_Put.calls ji5 t140 _ ?side1 A7.out).mono ?_); (case side1 => exact Laid.below HLX.out (by repeat (first | (with_reducible first | exact HB.out | apply below_alloc | apply pw_below_drewN | apply below_drew1) | exact HB.out))); rintro e w25 ⟨rfl, hb⟩; have n0_ := Aside0.mk (below_step (by repeat (first | (with_reducible first | exact HB.out | apply below_alloc | apply pw_below_drewN | apply below_drew1) | exact HB.out)) hb); clear HB; have HB := n0_; clear n0_; (try clear hb); (try clear hb2); (try clear hk); (try clear hi)) | (go_at_call 15; (with_reducible refine (number_Put.calls ji6 t141 _ ?side1 A8.out).mono ?_); (case side1 => exact Laid.below HLX.out (by repeat (first | (with_reducible first | exact HB.out | apply below_alloc | apply pw_below_drewN | apply below_drew1) | exact HB.out))); rintro e w26 ⟨rfl, hb⟩; have n0_ := Aside0.mk (below_step (by repeat (first | (with_reducible first | exact HB.out | apply below_alloc | apply pw_below_drewN | apply below_drew1) | exact HB.out)) hb); clear HB; have HB := n0_; clear n0_; (try clear hb); (try clear hb2); (try clear hk); (try clear hi)) | (go_at_call 16; (with_reducible refine (number_PutHex.calls ji5 t142 _ ?side1 A9.out).mono ?_); (case side1 => exact Laid.below HLX.out (by repeat (first | (with_reducible first | exact HB.out | apply below_alloc | apply pw_below_drewN | apply below_drew1) | exact HB.out))); rintro e w27 ⟨rfl, hb⟩; have n0_ := Aside0.mk (below_step (by repeat (first | (with_reducible first | exact HB.out | apply below_alloc | apply pw_below_drewN | apply below_drew1) | exact HB.out)) hb); clear HB; have HB := n0_; clear n0_; (try clear hb); (try clear hb2); (try clear hk); (try clear hi)) | (go_at_call 16; (with_reducible refine (number_PutHex.calls ji6 t143 _ ?side1 A10.out).mono ?_); (case side1 => exact Laid.below HLX.out (by repeat (first | (with_reducible first | exact HB.out | apply below_alloc | apply pw_below_drewN | apply below_drew1) | exact HB.out))); rintro e w28 ⟨rfl, hb⟩; have n0_ := Aside0.mk (below_step (by repeat (first | (with_reducible first | exact HB.out | apply below_alloc | apply pw_below_drewN | apply below_drew1) | exact HB.out)) hb); clear HB; have HB := n0_; clear n0_; (try clear hb); (try clear hb2); (try clear hk); (try clear hi)))
                (try any_goals (exfalso; have h_ := ‹some undef = some (Value.bool _)›; revert h_; simp [undef]; done))
                go_ret
                exact ⟨by first | rfl | (simp [errW_none, errW_some] <;> rfl) | (simp only [← hji5, ← hji6]; first | rfl | (simp [errW_none, errW_some] <;> rfl)) | (simp [*, errW_none, errW_some] <;> rfl), by repeat (first | (with_reducible first | exact HB.out | apply below_alloc | apply pw_below_drewN | apply below_drew1) | exact HB.out)⟩
              · rw [if_neg c23] at H
                have c23b0 : decide (0 < (t140.size : Int)) = false := decide_eq_false c23
                have c23b1 : decide (0 < t140.size) = false := decide_eq_false (by omega)
                clear c23
                exact absurd ((Option.some.inj H).trans HT.out) (by decide)
            · skip
              replace c22 := Bool.eq_false_iff.mpr c22
              rw [c22] at H
              have H2_ := H
              clear H
              have H := H2_
              clear H2_
              rw [if_neg (show ¬ ((true == false) = true) by decide)] at H
              exact absurd ((Option.some.inj H).trans HT.out) (by decide)
          · skip
            replace c21 := Bool.eq_false_iff.mpr c21
            rw [c21] at H
            have H2_ := H
            clear H
            have H := H2_
            clear H2_
            rw [if_neg (show ¬ ((false == true) = true) by decide)] at H
            exact absurd ((Option.some.inj H).trans HT.out) (by decide)
        · rw [if_neg c20] at H
          have c20b0 : ((t142.size : Int) == (t143.size : Int)) = false := beq_eq_false_iff_ne.mpr c20
          have c20b1 : ((t142.size : Int) != (t143.size : Int)) = true := bne_iff_ne.mpr c20
          have c20b2 : (t142.size == t143.size) = false := by first | simpa using c20 | (simp at c20 ⊢; omega)
          by_cases c29 : (decide ((ji5) < (ji6))) = true
          · skip
            rw [c29] at H
            have H2_ := H
            clear H
            have H := H2_
            clear H2_
            rw [if_pos (show (true == true) = true by rfl)] at H
            rw [if_neg (show ¬ ((true == false) = true) by decide)] at H
            exact absurd ((Option.some.inj H).trans HT.out) (by decide)
          · skip
            replace c29 := Bool.eq_false_iff.mpr c29
            rw [c29] at H
            have H2_ := H
            clear H
            have H := H2_
            clear H2_
            rw [if_neg (show ¬ ((false == true) = true) by decide)] at H
            exact absurd ((Option.some.inj H).trans HT.out) (by decide)
    · rw [if_neg c11] at H
      have c11b0 : decide ((t140.size : Int) < (t141.size : Int)) = false := decide_eq_false c11
      have c11b1 : decide (t140.size < t141.size) = false := decide_eq_false (fun h => c11 (Int.ofNat_lt.mpr h))
      clear c11
      by_cases c30 : (t140.size : Int) = (t141.size : Int)
      · rw [if_pos c30] at H
        have c30b0 : ((t140.size : Int) == (t141.size : Int)) = true := beq_iff_eq.mpr c30
        have c30b1 : ((t140.size : Int) != (t141.size : Int)) = false := bne_eq_false_iff_eq.mpr c30
        have c30b2 : (t140.size == t141.size) = true := by first | simpa using c30 | (simp at c30 ⊢; omega)
        clear c30
        by_cases c31 : (t142.size : Int) < (t143.size : Int)
        · rw [if_pos c31] at H
          have c31b0 : decide ((t142.size : Int) < (t143.size : Int)) = true := decide_eq_true c31
          have c31b1 : decide (t142.size < t143.size) = true := decide_eq_true (Int.ofNat_lt.mp c31)
          clear c31
          by_cases c32 : ((decide ((ji5) < (ji6))) == (Op.bytesLess t140.toList t141.toList)) = true
          · rw [if_pos c32] at H
            have c32b0 : ((decide ((ji5) < (ji6))) == (Op.bytesLess t140.toList t141.toList)) = true := c32
            (try (have c32b1 : decide ((decide ((ji5) < (ji6))) = (Op.bytesLess t140.toList t141.toList)) = true := by simpa using c32))
            (try (have c32b2 : ((decide ((ji5) < (ji6))) == (Op.bytesLess t140.toList t141.toList)) = true := by simpa using c32))
            clear c32
            by_cases c33 : (decide ((ji5) < (ji6))) = true
            · skip
              (try (have c32x : (Op.bytesLess t140.toList t141.toList) = true := by have h_ := c32b0; rw [c33] at h_; simpa using h_))
              rw [c33] at H
              have H2_ := H
              clear H
              have H := H2_
              clear H2_
              rw [if_pos (show (true == true) = true by rfl)] at H
              by_cases c34 : (t140.size : Int) > 0
              · rw [if_pos c34] at H
                have c34b0 : decide (0 < (t140.size : Int)) = true := decide_eq_true c34
                have c34b1 : decide (0 < t140.size) = true := decide_eq_true (by omega)
                clear c34
                obtain rfl := Option.some.inj H
                go_enter Tryd.func6, Tryd.ntmps6
                go_wp2_with (first | ((with_reducible refine gate_callee (f := 7) rfl ?_); refine goesL_ (some 13) rfl rfl Tryd.func7 (by kernel_rfl) rfl #[] rfl (by (try simp only [List.map_toArray, List.map_cons, List.map_nil]); first | done | rfl | (simp only [List.length_drop, List.length_take]; rfl)) ?_; (with_reducible refine (parallaxlaw2_known.calls k  true _ ?side1 A3.out).mono ?_); (case side1 => exact Laid.below HLX.out (by repeat (first | (with_reducible first | exact HB.out | apply below_alloc | apply pw_below_drewN | apply below_drew1) | exact HB.out))); rintro e w35 ⟨rfl, hb⟩; refine ⟨_, rfl, ?_⟩; have n0_ := Aside0.mk (below_step (by repeat (first | (with_reducible first | exact HB.out | apply below_alloc | apply pw_below_drewN | apply below_drew1) | exact HB.out)) hb); clear HB; have HB := n0_; clear n0_; (try clear hb); (try clear hb2); (try clear hk); (try clear hi)) | ((with_reducible refine gate_callee (f := 15) rfl ?_); refine goesL_ (some 20) rfl rfl Tryd.func15 (by kernel_rfl) rfl #[.int .i64 ji5] rfl (by (try simp only [List.map_toArray, List.map_cons, List.map_nil]); first | done | (simp only [hji5]; rfl) | rfl | (simp only [List.length_drop, List.length_take]; rfl)) ?_; (with_reducible refine (number_Put.calls ji5 t140 _ ?side1 A7.out).mono ?_); (case side1 => exact Laid.below HLX.out (by repeat (first | (with_reducible first | exact HB.out | apply below_alloc | apply pw_below_drewN | apply below_drew1) | exact HB.out))); rintro e w36 ⟨rfl, hb⟩; refine ⟨_, rfl, ?_⟩; have n0_ := Aside0.mk (below_step (by repeat (first | (with_reducible first | exact HB.out | apply below_alloc | apply pw_below_drewN | apply below_drew1) | exact HB.out)) hb); clear HB; have HB := n0_; clear n0_; (try clear hb); (try clear hb2); (try clear hk); (try clear hi)) | ((with_reducible refine gate_callee (f := 15) rfl ?_); refine goesL_ (some 22) rfl rfl Tryd.func15 (by kernel_rfl) rfl #[.int .i64 ji6] rfl (by (try simp only [List.map_toArray, List.map_cons, List.map_nil]); first | done | (simp only [hji6]; rfl) | rfl | (simp only [List.length_drop, List.length_take]; rfl)) ?_; (with_reducible refine (number_Put.calls ji6 t141 _ ?side1 A8.out).mono ?_); (case side1 => exact Laid.below HLX.out (by repeat (first | (with_reducible first | exact HB.out | apply below_alloc | apply pw_below_drewN | apply below_drew1) | exact HB.out))); rintro e w37 ⟨rfl, hb⟩; refine ⟨_, rfl, ?_⟩; have n0_ := Aside0.mk (below_step (by repeat (first | (with_reducible first | exact HB.out | apply below_alloc | apply pw_below_drewN | apply below_drew1) | exact HB.out)) hb); clear HB; have HB := n0_; clear n0_; (try clear hb); (try clear hb2); (try clear hk); (try clear hi)) | ((with_reducible refine gate_callee (f := 16) rfl ?_); refine goesL_ (some 24) rfl rfl Tryd.func16 (by kernel_rfl) rfl #[.int .i64 ji5] rfl (by (try simp only [List.map_toArray, List.map_cons, List.map_nil]); first | done | (simp only [hji5]; rfl) | rfl | (simp only [List.length_drop, List.length_take]; rfl)) ?_; (with_reducible refine (number_PutHex.calls ji5 t142 _ ?side1 A9.out).mono ?_); (case side1 => exact Laid.below HLX.out (by repeat (first | (with_reducible first | exact HB.out | apply below_alloc | apply pw_below_drewN | apply below_drew1) | exact HB.out))); rintro e w38 ⟨rfl, hb⟩; refine ⟨_, rfl, ?_⟩; have n0_ := Aside0.mk (below_step (by repeat (first | (with_reducible first | exact HB.out | apply below_alloc | apply pw_below_drewN | apply below_drew1) | exact HB.out)) hb); clear HB; have HB := n0_; clear n0_; (try clear hb); (try clear hb2); (try clear hk); (try clear hi)) | ((with_reducible refine gate_callee (f := 16) rfl ?_); refine goesL_ (some 26) rfl rfl Tryd.func16 (by kernel_rfl) rfl #[.int .i64 ji6] rfl (by (try simp only [List.map_toArray, List.map_cons, List.map_nil]); first | done | (simp only [hji6]; rfl) | rfl | (simp only [List.length_drop, List.length_take]; rfl)) ?_; (with_reducible refine (number_PutHex.calls ji6 t143 _ ?side1 A10.out).mono ?_); (case side1 => exact Laid.below HLX.out (by repeat (first | (with_reducible first | exact HB.out | apply below_alloc | apply pw_below_drewN | apply below_drew1) | exact HB.out))); rintro e w39 ⟨rfl, hb⟩; refine ⟨_, rfl, ?_⟩; have n0_ := Aside0.mk (below_step (by repeat (first | (with_reducible first | exact HB.out | apply below_alloc | apply pw_below_drewN | apply below_drew1) | exact HB.out)) hb); clear HB; have HB := n0_; clear n0_; (try clear hb); (try clear hb2); (try clear hk); (try clear hi)) | (go_at_call 7; (with_reducible refine (parallaxlaw2_known.calls k  true _ ?side1 A3.out).mono ?_); (case side1 => exact Laid.below HLX.out (by repeat (first | (with_reducible first | exact HB.out | apply below_alloc | apply pw_below_drewN | apply below_drew1) | exact HB.out))); rintro e w35 ⟨rfl, hb⟩; have n0_ := Aside0.mk (below_step (by repeat (first | (with_reducible first | exact HB.out | apply below_alloc | apply pw_below_drewN | apply below_drew1) | exact HB.out)) hb); clear HB; have HB := n0_; clear n0_; (try clear hb); (try clear hb2); (try clear hk); (try clear hi)) | (go_at_call 15; (with_reducible refine (number_Put.calls ji5 t140 _ ?side1 A7.out).mono ?_); (case side1 => exact Laid.below HLX.out (by repeat (first | (with_reducible first | exact HB.out | apply below_alloc | apply pw_below_drewN | apply below_drew1) | exact HB.out))); rintro e w36 ⟨rfl, hb⟩; have n0_ := Aside0.mk (below_step (by repeat (first | (with_reducible first | exact HB.out | apply below_alloc | apply pw_below_drewN | apply below_drew1) | exact HB.out)) hb); clear HB; have HB := n0_; clear n0_; (try clear hb); (try clear hb2); (try clear hk); (try clear hi)) | (go_at_call 15; (with_reducible refine (number_Put.calls ji6 t141 _ ?side1 A8.out).mono ?_); (case side1 => exact Laid.below HLX.out (by repeat (first | (with_reducible first | exact HB.out | apply below_alloc | apply pw_below_drewN | apply below_drew1) | exact HB.out))); rintro e w37 ⟨rfl, hb⟩; have n0_ := Aside0.mk (below_step (by repeat (first | (with_reducible first | exact HB.out | apply below_alloc | apply pw_below_drewN | apply below_drew1) | exact HB.out)) hb); clear HB; have HB := n0_; clear n0_; (try clear hb); (try clear hb2); (try clear hk); (try clear hi)) | (go_at_call 16; (with_reducible refine (number_PutHex.calls ji5 t142 _ ?side1 A9.out).mono ?_); (case side1 => exact Laid.below HLX.out (by repeat (first | (with_reducible first | exact HB.out | apply below_alloc | apply pw_below_drewN | apply below_drew1) | exact HB.out))); rintro e w38 ⟨rfl, hb⟩; have n0_ := Aside0.mk (below_step (by repeat (first | (with_reducible first | exact HB.out | apply below_alloc | apply pw_below_drewN | apply below_drew1) | exact HB.out)) hb); clear HB; have HB := n0_; clear n0_; (try clear hb); (try clear hb2); (try clear hk); (try clear hi)) | (go_at_call 16; (with_reducible refine (number_PutHex.calls ji6 t143 _ ?side1 A10.out).mono ?_); (case side1 => exact Laid.below HLX.out (by repeat (first | (with_reducible first | exact HB.out | apply below_alloc | apply pw_below_drewN | apply below_drew1) | exact HB.out))); rintro e w39 ⟨rfl, hb⟩; have n0_ := Aside0.mk (below_step (by repeat (first | (with_reducible first | exact HB.out | apply below_alloc | apply pw_below_drewN | apply below_drew1) | exact HB.out)) hb); clear HB; have HB := n0_; clear n0_; (try clear hb); (try clear hb2); (try clear hk); (try clear hi)))
                (try any_goals (exfalso; have h_ := ‹some undef = some (Value.bool _)›; revert h_; simp [undef]; done))
                go_ret
                exact ⟨by first | rfl | (simp [errW_none, errW_some] <;> rfl) | (simp only [← hji5, ← hji6]; first | rfl | (simp [errW_none, errW_some] <;> rfl)) | (simp [*, errW_none, errW_some] <;> rfl), by repeat (first | (with_reducible first | exact HB.out | apply below_alloc | apply pw_below_drewN | apply below_drew1) | exact HB.out)⟩
              · rw [if_neg c34] at H
                have c34b0 : decide (0 < (t140.size : Int)) = false := decide_eq_false c34
                have c34b1 : decide (0 < t140.size) = false := decide_eq_false (by omega)
                clear c34
                exact absurd ((Option.some.inj H).trans HT.out) (by decide)
            · skip
              replace c33 := Bool.eq_false_iff.mpr c33
              (try (have c32x : (Op.bytesLess t140.toList t141.toList) = false := by have h_ := c32b0; rw [c33] at h_; simpa using h_))
              rw [c33] at H
              have H2_ := H
              clear H
              have H := H2_
              clear H2_
              rw [if_neg (show ¬ ((false == true) = true) by decide)] at H
              exact absurd ((Option.some.inj H).trans HT.out) (by decide)
          · rw [if_neg c32] at H
            have c32b0 : ((decide ((ji5) < (ji6))) == (Op.bytesLess t140.toList t141.toList)) = false := by simpa using c32
            (try (have c32b1 : decide ((decide ((ji5) < (ji6))) = (Op.bytesLess t140.toList t141.toList)) = false := by simpa using c32))
            (try (have c32b2 : ((decide ((ji5) < (ji6))) == (Op.bytesLess t140.toList t141.toList)) = false := by simpa using c32))
            (try (have c32b3 : ¬ ((decide ((ji5) < (ji6))) = (Op.bytesLess t140.toList t141.toList)) := by simpa using c32))
            clear c32
            exact absurd ((Option.some.inj H).trans HT.out) (by decide)
        · rw [if_neg c31] at H
          have c31b0 : decide ((t142.size : Int) < (t143.size : Int)) = false := decide_eq_false c31
          have c31b1 : decide (t142.size < t143.size) = false := decide_eq_false (fun h => c31 (Int.ofNat_lt.mpr h))
          clear c31
          by_cases c40 : (t142.size : Int) = (t143.size : Int)
          · rw [if_pos c40] at H
            have c40b0 : ((t142.size : Int) == (t143.size : Int)) = true := beq_iff_eq.mpr c40
            have c40b1 : ((t142.size : Int) != (t143.size : Int)) = false := bne_eq_false_iff_eq.mpr c40
            have c40b2 : (t142.size == t143.size) = true := by first | simpa using c40 | (simp at c40 ⊢; omega)
            clear c40
            by_cases c41 : ((decide ((ji5) < (ji6))) == (Op.bytesLess t140.toList t141.toList)) = true
            · rw [if_pos c41] at H
              have c41b0 : ((decide ((ji5) < (ji6))) == (Op.bytesLess t140.toList t141.toList)) = true := c41
              (try (have c41b1 : decide ((decide ((ji5) < (ji6))) = (Op.bytesLess t140.toList t141.toList)) = true := by simpa using c41))
              (try (have c41b2 : ((decide ((ji5) < (ji6))) == (Op.bytesLess t140.toList t141.toList)) = true := by simpa using c41))
              clear c41
              by_cases c42 : ((decide ((ji5) < (ji6))) == (Op.bytesLess t142.toList t143.toList)) = true
              · rw [if_pos c42] at H
                have c42b0 : ((decide ((ji5) < (ji6))) == (Op.bytesLess t142.toList t143.toList)) = true := c42
                (try (have c42b1 : decide ((decide ((ji5) < (ji6))) = (Op.bytesLess t142.toList t143.toList)) = true := by simpa using c42))
                (try (have c42b2 : ((decide ((ji5) < (ji6))) == (Op.bytesLess t142.toList t143.toList)) = true := by simpa using c42))
                clear c42
                by_cases c43 : (t140.size : Int) > 0
                · rw [if_pos c43] at H
                  have c43b0 : decide (0 < (t140.size : Int)) = true := decide_eq_true c43
                  have c43b1 : decide (0 < t140.size) = true := decide_eq_true (by omega)
                  clear c43
                  obtain rfl := Option.some.inj H
                  go_enter Tryd.func6, Tryd.ntmps6
                  go_wp2_with (first | ((with_reducible refine gate_callee (f := 7) rfl ?_); refine goesL_ (some 13) rfl rfl Tryd.func7 (by kernel_rfl) rfl #[] rfl (by (try simp only [List.map_toArray, List.map_cons, List.map_nil]); first | done | rfl | (simp only [List.length_drop, List.length_take]; rfl)) ?_; (with_reducible refine (parallaxlaw2_known.calls k  true _ ?side1 A3.out).mono ?_); (case side1 => exact Laid.below HLX.out (by repeat (first | (with_reducible first | exact HB.out | apply below_alloc | apply pw_below_drewN | apply below_drew1) | exact HB.out))); rintro e w44 ⟨rfl, hb⟩; refine ⟨_, rfl, ?_⟩; have n0_ := Aside0.mk (below_step (by repeat (first | (with_reducible first | exact HB.out | apply below_alloc | apply pw_below_drewN | apply below_drew1) | exact HB.out)) hb); clear HB; have HB := n0_; clear n0_; (try clear hb); (try clear hb2); (try clear hk); (try clear hi)) | ((with_reducible refine gate_callee (f := 15) rfl ?_); refine goesL_ (some 20) rfl rfl Tryd.func15 (by kernel_rfl) rfl #[.int .i64 ji5] rfl (by (try simp only [List.map_toArray, List.map_cons, List.map_nil]); first | done | (simp only [hji5]; rfl) | rfl | (simp only [List.length_drop, List.length_take]; rfl)) ?_; (with_reducible refine (number_Put.calls ji5 t140 _ ?side1 A7.out).mono ?_); (case side1 => exact Laid.below HLX.out (by repeat (first | (with_reducible first | exact HB.out | apply below_alloc | apply pw_below_drewN | apply below_drew1) | exact HB.out))); rintro e w45 ⟨rfl, hb⟩; refine ⟨_, rfl, ?_⟩; have n0_ := Aside0.mk (below_step (by repeat (first | (with_reducible first | exact HB.out | apply below_alloc | apply pw_below_drewN | apply below_drew1) | exact HB.out)) hb); clear HB; have HB := n0_; clear n0_; (try clear hb); (try clear hb2); (try clear hk); (try clear hi)) | ((with_reducible refine gate_callee (f := 15) rfl ?_); refine goesL_ (some 22) rfl rfl Tryd.func15 (by kernel_rfl) rfl #[.int .i64 ji6] rfl (by (try simp only [List.map_toArray, List.map_cons, List.map_nil]); first | done | (simp only [hji6]; rfl) | rfl | (simp only [List.length_drop, List.length_take]; rfl)) ?_; (with_reducible refine (number_Put.calls ji6 t141 _ ?side1 A8.out).mono ?_); (case side1 => exact Laid.below HLX.out (by repeat (first | (with_reducible first | exact HB.out | apply below_alloc | apply pw_below_drewN | apply below_drew1) | exact HB.out))); rintro e w46 ⟨rfl, hb⟩; refine ⟨_, rfl, ?_⟩; have n0_ := Aside0.mk (below_step (by repeat (first | (with_reducible first | exact HB.out | apply below_alloc | apply pw_below_drewN | apply below_drew1) | exact HB.out)) hb); clear HB; have HB := n0_; clear n0_; (try clear hb); (try clear hb2); (try clear hk); (try clear hi)) | ((with_reducible refine gate_callee (f := 16) rfl ?_); refine goesL_ (some 24) rfl rfl Tryd.func16 (by kernel_rfl) rfl #[.int .i64 ji5] rfl (by (try simp only [List.map_toArray, List.map_cons, List.map_nil]); first | done | (simp only [hji5]; rfl) | rfl | (simp only [List.length_drop, List.length_take]; rfl)) ?_; (with_reducible refine (number_PutHex.calls ji5 t142 _ ?side1 A9.out).mono ?_); (case side1 => exact Laid.below HLX.out (by repeat (first | (with_reducible first | exact HB.out | apply below_alloc | apply pw_below_drewN | apply below_drew1) | exact HB.out))); rintro e w47 ⟨rfl, hb⟩; refine ⟨_, rfl, ?_⟩; have n0_ := Aside0.mk (below_step (by repeat (first | (with_reducible first | exact HB.out | apply below_alloc | apply pw_below_drewN | apply below_drew1) | exact HB.out)) hb); clear HB; have HB := n0_; clear n0_; (try clear hb); (try clear hb2); (try clear hk); (try clear hi)) | ((with_reducible refine gate_callee (f := 16) rfl ?_); refine goesL_ (some 26) rfl rfl Tryd.func16 (by kernel_rfl) rfl #[.int .i64 ji6] rfl (by (try simp only [List.map_toArray, List.map_cons, List.map_nil]); first | done | (simp only [hji6]; rfl) | rfl | (simp only [List.length_drop, List.length_take]; rfl)) ?_; (with_reducible refine (number_PutHex.calls ji6 t143 _ ?side1 A10.out).mono ?_); (case side1 => exact Laid.below HLX.out (by repeat (first | (with_reducible first | exact HB.out | apply below_alloc | apply pw_below_drewN | apply below_drew1) | exact HB.out))); rintro e w48 ⟨rfl, hb⟩; refine ⟨_, rfl, ?_⟩; have n0_ := Aside0.mk (below_step (by repeat (first | (with_reducible first | exact HB.out | apply below_alloc | apply pw_below_drewN | apply below_drew1) | exact HB.out)) hb); clear HB; have HB := n0_; clear n0_; (try clear hb); (try clear hb2); (try clear hk); (try clear hi)) | (go_at_call 7; (with_reducible refine (parallaxlaw2_known.calls k  true _ ?side1 A3.out).mono ?_); (case side1 => exact Laid.below HLX.out (by repeat (first | (with_reducible first | exact HB.out | apply below_alloc | apply pw_below_drewN | apply below_drew1) | exact HB.out))); rintro e w44 ⟨rfl, hb⟩; have n0_ := Aside0.mk (below_step (by repeat (first | (with_reducible first | exact HB.out | apply below_alloc | apply pw_below_drewN | apply below_drew1) | exact HB.out)) hb); clear HB; have HB := n0_; clear n0_; (try clear hb); (try clear hb2); (try clear hk); (try clear hi)) | (go_at_call 15; (with_reducible refine (number_Put.calls ji5 t140 _ ?side1 A7.out).mono ?_); (case side1 => exact Laid.below HLX.out (by repeat (first | (with_reducible first | exact HB.out | apply below_alloc | apply pw_below_drewN | apply below_drew1) | exact HB.out))); rintro e w45 ⟨rfl, hb⟩; have n0_ := Aside0.mk (below_step (by repeat (first | (with_reducible first | exact HB.out | apply below_alloc | apply pw_below_drewN | apply below_drew1) | exact HB.out)) hb); clear HB; have HB := n0_; clear n0_; (try clear hb); (try clear hb2); (try clear hk); (try clear hi)) | (go_at_call 15; (with_reducible refine (number_Put.calls ji6 t141 _ ?side1 A8.out).mono ?_); (case side1 => exact Laid.below HLX.out (by repeat (first | (with_reducible first | exact HB.out | apply below_alloc | apply pw_below_drewN | apply below_drew1) | exact HB.out))); rintro e w46 ⟨rfl, hb⟩; have n0_ := Aside0.mk (below_step (by repeat (first | (with_reducible first | exact HB.out | apply below_alloc | apply pw_below_drewN | apply below_drew1) | exact HB.out)) hb); clear HB; have HB := n0_; clear n0_; (try clear hb); (try clear hb2); (try clear hk); (try clear hi)) | (go_at_call 16; (with_reducible refine (number_PutHex.calls ji5 t142 _ ?side1 A9.out).mono ?_); (case side1 => exact Laid.below HLX.out (by repeat (first | (with_reducible first | exact HB.out | apply below_alloc | apply pw_below_drewN | apply below_drew1) | exact HB.out))); rintro e w47 ⟨rfl, hb⟩; have n0_ := Aside0.mk (below_step (by repeat (first | (with_reducible first | exact HB.out | apply below_alloc | apply pw_below_drewN | apply below_drew1) | exact HB.out)) hb); clear HB; have HB := n0_; clear n0_; (try clear hb); (try clear hb2); (try clear hk); (try clear hi)) | (go_at_call 16; (with_reducible refine (number_PutHex.calls ji6 t143 _ ?side1 A10.out).mono ?_); (case side1 => exact Laid.below HLX.out (by repeat (first | (with_reducible first | exact HB.out | apply below_alloc | apply pw_below_drewN | apply below_drew1) | exact HB.out))); rintro e w48 ⟨rfl, hb⟩; have n0_ := Aside0.mk (below_step (by repeat (first | (with_reducible first | exact HB.out | apply below_alloc | apply pw_below_drewN | apply below_drew1) | exact HB.out)) hb); clear HB; have HB := n0_; clear n0_; (try clear hb); (try clear hb2); (try clear hk); (try clear hi)))
                  (try any_goals (exfalso; have h_ := ‹some undef = some (Value.bool _)›; revert h_; simp [undef]; done))
                  go_ret
                  exact ⟨by first | rfl | (simp [errW_none, errW_some] <;> rfl) | (simp only [← hji5, ← hji6]; first | rfl | (simp [errW_none, errW_some] <;> rfl)) | (simp [*, errW_none, errW_some] <;> rfl), by repeat (first | (with_reducible first | exact HB.out | apply below_alloc | apply pw_below_drewN | apply below_drew1) | exact HB.out)⟩
                · rw [if_neg c43] at H
                  have c43b0 : decide (0 < (t140.size : Int)) = false := decide_eq_false c43
                  have c43b1 : decide (0 < t140.size) = false := decide_eq_false (by omega)
                  clear c43
                  exact absurd ((Option.some.inj H).trans HT.out) (by decide)
              · rw [if_neg c42] at H
                have c42b0 : ((decide ((ji5) < (ji6))) == (Op.bytesLess t142.toList t143.toList)) = false := by simpa using c42
                (try (have c42b1 : decide ((decide ((ji5) < (ji6))) = (Op.bytesLess t142.toList t143.toList)) = false := by simpa using c42))
                (try (have c42b2 : ((decide ((ji5) < (ji6))) == (Op.bytesLess t142.toList t143.toList)) = false := by simpa using c42))
                (try (have c42b3 : ¬ ((decide ((ji5) < (ji6))) = (Op.bytesLess t142.toList t143.toList)) := by simpa using c42))
                clear c42
                exact absurd ((Option.some.inj H).trans HT.out) (by decide)
            · rw [if_neg c41] at H
              have c41b0 : ((decide ((ji5) < (ji6))) == (Op.bytesLess t140.toList t141.toList)) = false := by simpa using c41
              (try (have c41b1 : decide ((decide ((ji5) < (ji6))) = (Op.bytesLess t140.toList t141.toList)) = false := by simpa using c41))
              (try (have c41b2 : ((decide ((ji5) < (ji6))) == (Op.bytesLess t140.toList t141.toList)) = false := by simpa using c41))
              (try (have c41b3 : ¬ ((decide ((ji5) < (ji6))) = (Op.bytesLess t140.toList t141.toList)) := by simpa using c41))
              clear c41
              exact absurd ((Option.some.inj H).trans HT.out) (by decide)
          · rw [if_neg c40] at H
            have c40b0 : ((t142.size : Int) == (t143.size : Int)) = false := beq_eq_false_iff_ne.mpr c40
            have c40b1 : ((t142.size : Int) != (t143.size : Int)) = true := bne_iff_ne.mpr c40
            have c40b2 : (t142.size == t143.size) = false := by first | simpa using c40 | (simp at c40 ⊢; omega)
            by_cases c49 : ((decide ((ji5) < (ji6))) == (Op.bytesLess t140.toList t141.toList)) = true
            · rw [if_pos c49] at H
              have c49b0 : ((decide ((ji5) < (ji6))) == (Op.bytesLess t140.toList t141.toList)) = true := c49
              (try (have c49b1 : decide ((decide ((ji5) < (ji6))) = (Op.bytesLess t140.toList t141.toList)) = true := by simpa using c49))
              (try (have c49b2 : ((decide ((ji5) < (ji6))) == (Op.bytesLess t140.toList t141.toList)) = true := by simpa using c49))
              clear c49
              by_cases c50 : (decide ((ji5) < (ji6))) = true
              · skip
                (try (have c49x : (Op.bytesLess t140.toList t141.toList) = true := by have h_ := c49b0; rw [c50] at h_; simpa using h_))
                rw [c50] at H
                have H2_ := H
                clear H
                have H := H2_
                clear H2_
                rw [if_neg (show ¬ ((true == false) = true) by decide)] at H
                exact absurd ((Option.some.inj H).trans HT.out) (by decide)
              · skip
                replace c50 := Bool.eq_false_iff.mpr c50
                (try (have c49x : (Op.bytesLess t140.toList t141.toList) = false := by have h_ := c49b0; rw [c50] at h_; simpa using h_))
                rw [c50] at H
                have H2_ := H
                clear H
                have H := H2_
                clear H2_
                rw [if_pos (show (false == false) = true by rfl)] at H
                by_cases c51 : (t140.size : Int) > 0
                · rw [if_pos c51] at H
                  have c51b0 : decide (0 < (t140.size : Int)) = true := decide_eq_true c51
                  have c51b1 : decide (0 < t140.size) = true := decide_eq_true (by omega)
                  clear c51
                  obtain rfl := Option.some.inj H
                  go_enter Tryd.func6, Tryd.ntmps6
                  go_wp2_with (first | ((with_reducible refine gate_callee (f := 7) rfl ?_); refine goesL_ (some 13) rfl rfl Tryd.func7 (by kernel_rfl) rfl #[] rfl (by (try simp only [List.map_toArray, List.map_cons, List.map_nil]); first | done | rfl | (simp only [List.length_drop, List.length_take]; rfl)) ?_; (with_reducible refine (parallaxlaw2_known.calls k  true _ ?side1 A3.out).mono ?_); (case side1 => exact Laid.below HLX.out (by repeat (first | (with_reducible first | exact HB.out | apply below_alloc | apply pw_below_drewN | apply below_drew1) | exact HB.out))); rintro e w52 ⟨rfl, hb⟩; refine ⟨_, rfl, ?_⟩; have n0_ := Aside0.mk (below_step (by repeat (first | (with_reducible first | exact HB.out | apply below_alloc | apply pw_below_drewN | apply below_drew1) | exact HB.out)) hb); clear HB; have HB := n0_; clear n0_; (try clear hb); (try clear hb2); (try clear hk); (try clear hi)) | ((with_reducible refine gate_callee (f := 15) rfl ?_); refine goesL_ (some 20) rfl rfl Tryd.func15 (by kernel_rfl) rfl #[.int .i64 ji5] rfl (by (try simp only [List.map_toArray, List.map_cons, List.map_nil]); first | done | (simp only [hji5]; rfl) | rfl | (simp only [List.length_drop, List.length_take]; rfl)) ?_; (with_reducible refine (number_Put.calls ji5 t140 _ ?side1 A7.out).mono ?_); (case side1 => exact Laid.below HLX.out (by repeat (first | (with_reducible first | exact HB.out | apply below_alloc | apply pw_below_drewN | apply below_drew1) | exact HB.out))); rintro e w53 ⟨rfl, hb⟩; refine ⟨_, rfl, ?_⟩; have n0_ := Aside0.mk (below_step (by repeat (first | (with_reducible first | exact HB.out | apply below_alloc | apply pw_below_drewN | apply below_drew1) | exact HB.out)) hb); clear HB; have HB := n0_; clear n0_; (try clear hb); (try clear hb2); (try clear hk); (try clear hi)) | ((with_reducible refine gate_callee (f := 15) rfl ?_); refine goesL_ (some 22) rfl rfl Tryd.func15 (by kernel_rfl) rfl #[.int .i64 ji6] rfl (by (try simp only [List.map_toArray, List.map_cons, List.map_nil]); first | done | (simp only [hji6]; rfl) | rfl | (simp only [List.length_drop, List.length_take]; rfl)) ?_; (with_reducible refine (number_Put.calls ji6 t141 _ ?side1 A8.out).mono ?_); (case side1 => exact Laid.below HLX.out (by repeat (first | (with_reducible first | exact HB.out | apply below_alloc | apply pw_below_drewN | apply below_drew1) | exact HB.out))); rintro e w54 ⟨rfl, hb⟩; refine ⟨_, rfl, ?_⟩; have n0_ := Aside0.mk (below_step (by repeat (first | (with_reducible first | exact HB.out | apply below_alloc | apply pw_below_drewN | apply below_drew1) | exact HB.out)) hb); clear HB; have HB := n0_; clear n0_; (try clear hb); (try clear hb2); (try clear hk); (try clear hi)) | ((with_reducible refine gate_callee (f := 16) rfl ?_); refine goesL_ (some 24) rfl rfl Tryd.func16 (by kernel_rfl) rfl #[.int .i64 ji5] rfl (by (try simp only [List.map_toArray, List.map_cons, List.map_nil]); first | done | (simp only [hji5]; rfl) | rfl | (simp only [List.length_drop, List.length_take]; rfl)) ?_; (with_reducible refine (number_PutHex.calls ji5 t142 _ ?side1 A9.out).mono ?_); (case side1 => exact Laid.below HLX.out (by repeat (first | (with_reducible first | exact HB.out | apply below_alloc | apply pw_below_drewN | apply below_drew1) | exact HB.out))); rintro e w55 ⟨rfl, hb⟩; refine ⟨_, rfl, ?_⟩; have n0_ := Aside0.mk (below_step (by repeat (first | (with_reducible first | exact HB.out | apply below_alloc | apply pw_below_drewN | apply below_drew1) | exact HB.out)) hb); clear HB; have HB := n0_; clear n0_; (try clear hb); (try clear hb2); (try clear hk); (try clear hi)) | ((with_reducible refine gate_callee (f := 16) rfl ?_); refine goesL_ (some 26) rfl rfl Tryd.func16 (by kernel_rfl) rfl #[.int .i64 ji6] rfl (by (try simp only [List.map_toArray, List.map_cons, List.map_nil]); first | done | (simp only [hji6]; rfl) | rfl | (simp only [List.length_drop, List.length_take]; rfl)) ?_; (with_reducible refine (number_PutHex.calls ji6 t143 _ ?side1 A10.out).mono ?_); (case side1 => exact Laid.below HLX.out (by repeat (first | (with_reducible first | exact HB.out | apply below_alloc | apply pw_below_drewN | apply below_drew1) | exact HB.out))); rintro e w56 ⟨rfl, hb⟩; refine ⟨_, rfl, ?_⟩; have n0_ := Aside0.mk (below_step (by repeat (first | (with_reducible first | exact HB.out | apply below_alloc | apply pw_below_drewN | apply below_drew1) | exact HB.out)) hb); clear HB; have HB := n0_; clear n0_; (try clear hb); (try clear hb2); (try clear hk); (try clear hi)) | (go_at_call 7; (with_reducible refine (parallaxlaw2_known.calls k  true _ ?side1 A3.out).mono ?_); (case side1 => exact Laid.below HLX.out (by repeat (first | (with_reducible first | exact HB.out | apply below_alloc | apply pw_below_drewN | apply below_drew1) | exact HB.out))); rintro e w52 ⟨rfl, hb⟩; have n0_ := Aside0.mk (below_step (by repeat (first | (with_reducible first | exact HB.out | apply below_alloc | apply pw_below_drewN | apply below_drew1) | exact HB.out)) hb); clear HB; have HB := n0_; clear n0_; (try clear hb); (try clear hb2); (try clear hk); (try clear hi)) | (go_at_call 15; (with_reducible refine (number_Put.calls ji5 t140 _ ?side1 A7.out).mono ?_); (case side1 => exact Laid.below HLX.out (by repeat (first | (with_reducible first | exact HB.out | apply below_alloc | apply pw_below_drewN | apply below_drew1) | exact HB.out))); rintro e w53 ⟨rfl, hb⟩; have n0_ := Aside0.mk (below_step (by repeat (first | (with_reducible first | exact HB.out | apply below_alloc | apply pw_below_drewN | apply below_drew1) | exact HB.out)) hb); clear HB; have HB := n0_; clear n0_; (try clear hb); (try clear hb2); (try clear hk); (try clear hi)) | (go_at_call 15; (with_reducible refine (number_Put.calls ji6 t141 _ ?side1 A8.out).mono ?_); (case side1 => exact Laid.below HLX.out (by repeat (first | (with_reducible first | exact HB.out | apply below_alloc | apply pw_below_drewN | apply below_drew1) | exact HB.out))); rintro e w54 ⟨rfl, hb⟩; have n0_ := Aside0.mk (below_step (by repeat (first | (with_reducible first | exact HB.out | apply below_alloc | apply pw_below_drewN | apply below_drew1) | exact HB.out)) hb); clear HB; have HB := n0_; clear n0_; (try clear hb); (try clear hb2); (try clear hk); (try clear hi)) | (go_at_call 16; (with_reducible refine (number_PutHex.calls ji5 t142 _ ?side1 A9.out).mono ?_); (case side1 => exact Laid.below HLX.out (by repeat (first | (with_reducible first | exact HB.out | apply below_alloc | apply pw_below_drewN | apply below_drew1) | exact HB.out))); rintro e w55 ⟨rfl, hb⟩; have n0_ := Aside0.mk (below_step (by repeat (first | (with_reducible first | exact HB.out | apply below_alloc | apply pw_below_drewN | apply below_drew1) | exact HB.out)) hb); clear HB; have HB := n0_; clear n0_; (try clear hb); (try clear hb2); (try clear hk); (try clear hi)) | (go_at_call 16; (with_reducible refine (number_PutHex.calls ji6 t143 _ ?side1 A10.out).mono ?_); (case side1 => exact Laid.below HLX.out (by repeat (first | (with_reducible first | exact HB.out | apply below_alloc | apply pw_below_drewN | apply below_drew1) | exact HB.out))); rintro e w56 ⟨rfl, hb⟩; have n0_ := Aside0.mk (below_step (by repeat (first | (with_reducible first | exact HB.out | apply below_alloc | apply pw_below_drewN | apply below_drew1) | exact HB.out)) hb); clear HB; have HB := n0_; clear n0_; (try clear hb); (try clear hb2); (try clear hk); (try clear hi)))
                  (try any_goals (exfalso; have h_ := ‹some undef = some (Value.bool _)›; revert h_; simp [undef]; done))
                  go_ret
                  exact ⟨by first | rfl | (simp [errW_none, errW_some] <;> rfl) | (simp only [← hji5, ← hji6]; first | rfl | (simp [errW_none, errW_some] <;> rfl)) | (simp [*, errW_none, errW_some] <;> rfl), by repeat (first | (with_reducible first | exact HB.out | apply below_alloc | apply pw_below_drewN | apply below_drew1) | exact HB.out)⟩
                · rw [if_neg c51] at H
                  have c51b0 : decide (0 < (t140.size : Int)) = false := decide_eq_false c51
                  have c51b1 : decide (0 < t140.size) = false := decide_eq_false (by omega)
                  clear c51
                  exact absurd ((Option.some.inj H).trans HT.out) (by decide)
            · rw [if_neg c49] at H
              have c49b0 : ((decide ((ji5) < (ji6))) == (Op.bytesLess t140.toList t141.toList)) = false := by simpa using c49
              (try (have c49b1 : decide ((decide ((ji5) < (ji6))) = (Op.bytesLess t140.toList t141.toList)) = false := by simpa using c49))
              (try (have c49b2 : ((decide ((ji5) < (ji6))) == (Op.bytesLess t140.toList t141.toList)) = false := by simpa using c49))
              (try (have c49b3 : ¬ ((decide ((ji5) < (ji6))) = (Op.bytesLess t140.toList t141.toList)) := by simpa using c49))
              clear c49
              exact absurd ((Option.some.inj H).trans HT.out) (by decide)
      · rw [if_neg c30] at H
        have c30b0 : ((t140.size : Int) == (t141.size : Int)) = false := beq_eq_false_iff_ne.mpr c30
        have c30b1 : ((t140.size : Int) != (t141.size : Int)) = true := bne_iff_ne.mpr c30
        have c30b2 : (t140.size == t141.size) = false := by first | simpa using c30 | (simp at c30 ⊢; omega)
        by_cases c57 : (t142.size : Int) < (t143.size : Int)
        · rw [if_pos c57] at H
          have c57b0 : decide ((t142.size : Int) < (t143.size : Int)) = true := decide_eq_true c57
          have c57b1 : decide (t142.size < t143.size) = true := decide_eq_true (Int.ofNat_lt.mp c57)
          clear c57
          by_cases c58 : (decide ((ji5) < (ji6))) = true
          · skip
            rw [c58] at H
            have H2_ := H
            clear H
            have H := H2_
            clear H2_
            rw [if_neg (show ¬ ((true == false) = true) by decide)] at H
            exact absurd ((Option.some.inj H).trans HT.out) (by decide)
          · skip
            replace c58 := Bool.eq_false_iff.mpr c58
            rw [c58] at H
            have H2_ := H
            clear H
            have H := H2_
            clear H2_
            rw [if_pos (show (false == false) = true by rfl)] at H
            rw [if_neg (show ¬ ((false == true) = true) by decide)] at H
            exact absurd ((Option.some.inj H).trans HT.out) (by decide)
        · rw [if_neg c57] at H
          have c57b0 : decide ((t142.size : Int) < (t143.size : Int)) = false := decide_eq_false c57
          have c57b1 : decide (t142.size < t143.size) = false := decide_eq_false (fun h => c57 (Int.ofNat_lt.mpr h))
          clear c57
          by_cases c59 : (t142.size : Int) = (t143.size : Int)
          · rw [if_pos c59] at H
            have c59b0 : ((t142.size : Int) == (t143.size : Int)) = true := beq_iff_eq.mpr c59
            have c59b1 : ((t142.size : Int) != (t143.size : Int)) = false := bne_eq_false_iff_eq.mpr c59
            have c59b2 : (t142.size == t143.size) = true := by first | simpa using c59 | (simp at c59 ⊢; omega)
            clear c59
            by_cases c60 : (decide ((ji5) < (ji6))) = true
            · skip
              rw [c60] at H
              have H2_ := H
              clear H
              have H := H2_
              clear H2_
              rw [if_neg (show ¬ ((true == false) = true) by decide)] at H
              exact absurd ((Option.some.inj H).trans HT.out) (by decide)
            · skip
              replace c60 := Bool.eq_false_iff.mpr c60
              rw [c60] at H
              have H2_ := H
              clear H
              have H := H2_
              clear H2_
              rw [if_pos (show (false == false) = true by rfl)] at H
              by_cases c61 : (Op.bytesLess t142.toList t143.toList) = true
              · skip
                rw [c61] at H
                have H2_ := H
                clear H
                have H := H2_
                clear H2_
                rw [if_neg (show ¬ ((false == true) = true) by decide)] at H
                exact absurd ((Option.some.inj H).trans HT.out) (by decide)
              · skip
                replace c61 := Bool.eq_false_iff.mpr c61
                rw [c61] at H
                have H2_ := H
                clear H
                have H := H2_
                clear H2_
                rw [if_pos (show (false == false) = true by rfl)] at H
                by_cases c62 : (t140.size : Int) > 0
                · rw [if_pos c62] at H
                  have c62b0 : decide (0 < (t140.size : Int)) = true := decide_eq_true c62
                  have c62b1 : decide (0 < t140.size) = true := decide_eq_true (by omega)
                  clear c62
                  obtain rfl := Option.some.inj H
                  go_enter Tryd.func6, Tryd.ntmps6
                  go_wp2_with (first | ((with_reducible refine gate_callee (f := 7) rfl ?_); refine goesL_ (some 13) rfl rfl Tryd.func7 (by kernel_rfl) rfl #[] rfl (by (try simp only [List.map_toArray, List.map_cons, List.map_nil]); first | done | rfl | (simp only [List.length_drop, List.length_take]; rfl)) ?_; (with_reducible refine (parallaxlaw2_known.calls k  true _ ?side1 A3.out).mono ?_); (case side1 => exact Laid.below HLX.out (by repeat (first | (with_reducible first | exact HB.out | apply below_alloc | apply pw_below_drewN | apply below_drew1) | exact HB.out))); rintro e w63 ⟨rfl, hb⟩; refine ⟨_, rfl, ?_⟩; have n0_ := Aside0.mk (below_step (by repeat (first | (with_reducible first | exact HB.out | apply below_alloc | apply pw_below_drewN | apply below_drew1) | exact HB.out)) hb); clear HB; have HB := n0_; clear n0_; (try clear hb); (try clear hb2); (try clear hk); (try clear hi)) | ((with_reducible refine gate_callee (f := 15) rfl ?_); refine goesL_ (some 20) rfl rfl Tryd.func15 (by kernel_rfl) rfl #[.int .i64 ji5] rfl (by (try simp only [List.map_toArray, List.map_cons, List.map_nil]); first | done | (simp only [hji5]; rfl) | rfl | (simp only [List.length_drop, List.length_take]; rfl)) ?_; (with_reducible refine (number_Put.calls ji5 t140 _ ?side1 A7.out).mono ?_); (case side1 => exact Laid.below HLX.out (by repeat (first | (with_reducible first | exact HB.out | apply below_alloc | apply pw_below_drewN | apply below_drew1) | exact HB.out))); rintro e w64 ⟨rfl, hb⟩; refine ⟨_, rfl, ?_⟩; have n0_ := Aside0.mk (below_step (by repeat (first | (with_reducible first | exact HB.out | apply below_alloc | apply pw_below_drewN | apply below_drew1) | exact HB.out)) hb); clear HB; have HB := n0_; clear n0_; (try clear hb); (try clear hb2); (try clear hk); (try clear hi)) | ((with_reducible refine gate_callee (f := 15) rfl ?_); refine goesL_ (some 22) rfl rfl Tryd.func15 (by kernel_rfl) rfl #[.int .i64 ji6] rfl (by (try simp only [List.map_toArray, List.map_cons, List.map_nil]); first | done | (simp only [hji6]; rfl) | rfl | (simp only [List.length_drop, List.length_take]; rfl)) ?_; (with_reducible refine (number_Put.calls ji6 t141 _ ?side1 A8.out).mono ?_); (case side1 => exact Laid.below HLX.out (by repeat (first | (with_reducible first | exact HB.out | apply below_alloc | apply pw_below_drewN | apply below_drew1) | exact HB.out))); rintro e w65 ⟨rfl, hb⟩; refine ⟨_, rfl, ?_⟩; have n0_ := Aside0.mk (below_step (by repeat (first | (with_reducible first | exact HB.out | apply below_alloc | apply pw_below_drewN | apply below_drew1) | exact HB.out)) hb); clear HB; have HB := n0_; clear n0_; (try clear hb); (try clear hb2); (try clear hk); (try clear hi)) | ((with_reducible refine gate_callee (f := 16) rfl ?_); refine goesL_ (some 24) rfl rfl Tryd.func16 (by kernel_rfl) rfl #[.int .i64 ji5] rfl (by (try simp only [List.map_toArray, List.map_cons, List.map_nil]); first | done | (simp only [hji5]; rfl) | rfl | (simp only [List.length_drop, List.length_take]; rfl)) ?_; (with_reducible refine (number_PutHex.calls ji5 t142 _ ?side1 A9.out).mono ?_); (case side1 => exact Laid.below HLX.out (by repeat (first | (with_reducible first | exact HB.out | apply below_alloc | apply pw_below_drewN | apply below_drew1) | exact HB.out))); rintro e w66 ⟨rfl, hb⟩; refine ⟨_, rfl, ?_⟩; have n0_ := Aside0.mk (below_step (by repeat (first | (with_reducible first | exact HB.out | apply below_alloc | apply pw_below_drewN | apply below_drew1) | exact HB.out)) hb); clear HB; have HB := n0_; clear n0_; (try clear hb); (try clear hb2); (try clear hk); (try clear hi)) | ((with_reducible refine gate_callee (f := 16) rfl ?_); refine goesL_ (some 26) rfl rfl Tryd.func16 (by kernel_rfl) rfl #[.int .i64 ji6] rfl (by (try simp only [List.map_toArray, List.map_cons, List.map_nil]); first | done | (simp only [hji6]; rfl) | rfl | (simp only [List.length_drop, List.length_take]; rfl)) ?_; (with_reducible refine (number_PutHex.calls ji6 t143 _ ?side1 A10.out).mono ?_); (case side1 => exact Laid.below HLX.out (by repeat (first | (with_reducible first | exact HB.out | apply below_alloc | apply pw_below_drewN | apply below_drew1) | exact HB.out))); rintro e w67 ⟨rfl, hb⟩; refine ⟨_, rfl, ?_⟩; have n0_ := Aside0.mk (below_step (by repeat (first | (with_reducible first | exact HB.out | apply below_alloc | apply pw_below_drewN | apply below_drew1) | exact HB.out)) hb); clear HB; have HB := n0_; clear n0_; (try clear hb); (try clear hb2); (try clear hk); (try clear hi)) | (go_at_call 7; (with_reducible refine (parallaxlaw2_known.calls k  true _ ?side1 A3.out).mono ?_); (case side1 => exact Laid.below HLX.out (by repeat (first | (with_reducible first | exact HB.out | apply below_alloc | apply pw_below_drewN | apply below_drew1) | exact HB.out))); rintro e w63 ⟨rfl, hb⟩; have n0_ := Aside0.mk (below_step (by repeat (first | (with_reducible first | exact HB.out | apply below_alloc | apply pw_below_drewN | apply below_drew1) | exact HB.out)) hb); clear HB; have HB := n0_; clear n0_; (try clear hb); (try clear hb2); (try clear hk); (try clear hi)) | (go_at_call 15; (with_reducible refine (number_Put.calls ji5 t140 _ ?side1 A7.out).mono ?_); (case side1 => exact Laid.below HLX.out (by repeat (first | (with_reducible first | exact HB.out | apply below_alloc | apply pw_below_drewN | apply below_drew1) | exact HB.out))); rintro e w64 ⟨rfl, hb⟩; have n0_ := Aside0.mk (below_step (by repeat (first | (with_reducible first | exact HB.out | apply below_alloc | apply pw_below_drewN | apply below_drew1) | exact HB.out)) hb); clear HB; have HB := n0_; clear n0_; (try clear hb); (try clear hb2); (try clear hk); (try clear hi)) | (go_at_call 15; (with_reducible refine (number_Put.calls ji6 t141 _ ?side1 A8.out).mono ?_); (case side1 => exact Laid.below HLX.out (by repeat (first | (with_reducible first | exact HB.out | apply below_alloc | apply pw_below_drewN | apply below_drew1) | exact HB.out))); rintro e w65 ⟨rfl, hb⟩; have n0_ := Aside0.mk (below_step (by repeat (first | (with_reducible first | exact HB.out | apply below_alloc | apply pw_below_drewN | apply below_drew1) | exact HB.out)) hb); clear HB; have HB := n0_; clear n0_; (try clear hb); (try clear hb2); (try clear hk); (try clear hi)) | (go_at_call 16; (with_reducible refine (number_PutHex.calls ji5 t142 _ ?side1 A9.out).mono ?_); (case side1 => exact Laid.below HLX.out (by repeat (first | (with_reducible first | exact HB.out | apply below_alloc | apply pw_below_drewN | apply below_drew1) | exact HB.out))); rintro e w66 ⟨rfl, hb⟩; have n0_ := Aside0.mk (below_step (by repeat (first | (with_reducible first | exact HB.out | apply below_alloc | apply pw_below_drewN | apply below_drew1) | exact HB.out)) hb); clear HB; have HB := n0_; clear n0_; (try clear hb); (try clear hb2); (try clear hk); (try clear hi)) | (go_at_call 16; (with_reducible refine (number_PutHex.calls ji6 t143 _ ?side1 A10.out).mono ?_); (case side1 => exact Laid.below HLX.out (by repeat (first | (with_reducible first | exact HB.out | apply below_alloc | apply pw_below_drewN | apply below_drew1) | exact HB.out))); rintro e w67 ⟨rfl, hb⟩; have n0_ := Aside0.mk (below_step (by repeat (first | (with_reducible first | exact HB.out | apply below_alloc | apply pw_below_drewN | apply below_drew1) | exact HB.out)) hb); clear HB; have HB := n0_; clear n0_; (try clear hb); (try clear hb2); (try clear hk); (try clear hi)))
                  (try any_goals (exfalso; have h_ := ‹some undef = some (Value.bool _)›; revert h_; simp [undef]; done))
                  go_ret
                  exact ⟨by first | rfl | (simp [errW_none, errW_some] <;> rfl) | (simp only [← hji5, ← hji6]; first | rfl | (simp [errW_none, errW_some] <;> rfl)) | (simp [*, errW_none, errW_some] <;> rfl), by repeat (first | (with_reducible first | exact HB.out | apply below_alloc | apply pw_below_drewN | apply below_drew1) | exact HB.out)⟩
                · rw [if_neg c62] at H
                  have c62b0 : decide (0 < (t140.size : Int)) = false := decide_eq_false c62
                  have c62b1 : decide (0 < t140.size) = false := decide_eq_false (by omega)
                  clear c62
                  exact absurd ((Option.some.inj H).trans HT.out) (by decide)
          · rw [if_neg c59] at H
            have c59b0 : ((t142.size : Int) == (t143.size : Int)) = false := beq_eq_false_iff_ne.mpr c59
            have c59b1 : ((t142.size : Int) != (t143.size : Int)) = true := bne_iff_ne.mpr c59
            have c59b2 : (t142.size == t143.size) = false := by first | simpa using c59 | (simp at c59 ⊢; omega)
            by_cases c68 : (decide ((ji5) < (ji6))) = true
            · skip
              rw [c68] at H
              have H2_ := H
              clear H
              have H := H2_
              clear H2_
              rw [if_neg (show ¬ ((true == false) = true) by decide)] at H
              exact absurd ((Option.some.inj H).trans HT.out) (by decide)
            · skip
              replace c68 := Bool.eq_false_iff.mpr c68
              rw [c68] at H
              have H2_ := H
              clear H
              have H := H2_
              clear H2_
              rw [if_pos (show (false == false) = true by rfl)] at H
              by_cases c69 : (t140.size : Int) > 0
              · rw [if_pos c69] at H
                have c69b0 : decide (0 < (t140.size : Int)) = true := decide_eq_true c69
                have c69b1 : decide (0 < t140.size) = true := decide_eq_true (by omega)
                clear c69
                obtain rfl := Option.some.inj H
                go_enter Tryd.func6, Tryd.ntmps6
                go_wp2_with (first | ((with_reducible refine gate_callee (f := 7) rfl ?_); refine goesL_ (some 13) rfl rfl Tryd.func7 (by kernel_rfl) rfl #[] rfl (by (try simp only [List.map_toArray, List.map_cons, List.map_nil]); first | done | rfl | (simp only [List.length_drop, List.length_take]; rfl)) ?_; (with_reducible refine (parallaxlaw2_known.calls k  true _ ?side1 A3.out).mono ?_); (case side1 => exact Laid.below HLX.out (by repeat (first | (with_reducible first | exact HB.out | apply below_alloc | apply pw_below_drewN | apply below_drew1) | exact HB.out))); rintro e w70 ⟨rfl, hb⟩; refine ⟨_, rfl, ?_⟩; have n0_ := Aside0.mk (below_step (by repeat (first | (with_reducible first | exact HB.out | apply below_alloc | apply pw_below_drewN | apply below_drew1) | exact HB.out)) hb); clear HB; have HB := n0_; clear n0_; (try clear hb); (try clear hb2); (try clear hk); (try clear hi)) | ((with_reducible refine gate_callee (f := 15) rfl ?_); refine goesL_ (some 20) rfl rfl Tryd.func15 (by kernel_rfl) rfl #[.int .i64 ji5] rfl (by (try simp only [List.map_toArray, List.map_cons, List.map_nil]); first | done | (simp only [hji5]; rfl) | rfl | (simp only [List.length_drop, List.length_take]; rfl)) ?_; (with_reducible refine (number_Put.calls ji5 t140 _ ?side1 A7.out).mono ?_); (case side1 => exact Laid.below HLX.out (by repeat (first | (with_reducible first | exact HB.out | apply below_alloc | apply pw_below_drewN | apply below_drew1) | exact HB.out))); rintro e w71 ⟨rfl, hb⟩; refine ⟨_, rfl, ?_⟩; have n0_ := Aside0.mk (below_step (by repeat (first | (with_reducible first | exact HB.out | apply below_alloc | apply pw_below_drewN | apply below_drew1) | exact HB.out)) hb); clear HB; have HB := n0_; clear n0_; (try clear hb); (try clear hb2); (try clear hk); (try clear hi)) | ((with_reducible refine gate_callee (f := 15) rfl ?_); refine goesL_ (some 22) rfl rfl Tryd.func15 (by kernel_rfl) rfl #[.int .i64 ji6] rfl (by (try simp only [List.map_toArray, List.map_cons, List.map_nil]); first | done | (simp only [hji6]; rfl) | rfl | (simp only [List.length_drop, List.length_take]; rfl)) ?_; (with_reducible refine (number_Put.calls ji6 t141 _ ?side1 A8.out).mono ?_); (case side1 => exact Laid.below HLX.out (by repeat (first | (with_reducible first | exact HB.out | apply below_alloc | apply pw_below_drewN | apply below_drew1) | exact HB.out))); rintro e w72 ⟨rfl, hb⟩; refine ⟨_, rfl, ?_⟩; have n0_ := Aside0.mk (below_step (by repeat (first | (with_reducible first | exact HB.out | apply below_alloc | apply pw_below_drewN | apply below_drew1) | exact HB.out)) hb); clear HB; have HB := n0_; clear n0_; (try clear hb); (try clear hb2); (try clear hk); (try clear hi)) | ((with_reducible refine gate_callee (f := 16) rfl ?_); refine goesL_ (some 24) rfl rfl Tryd.func16 (by kernel_rfl) rfl #[.int .i64 ji5] rfl (by (try simp only [List.map_toArray, List.map_cons, List.map_nil]); first | done | (simp only [hji5]; rfl) | rfl | (simp only [List.length_drop, List.length_take]; rfl)) ?_; (with_reducible refine (number_PutHex.calls ji5 t142 _ ?side1 A9.out).mono ?_); (case side1 => exact Laid.below HLX.out (by repeat (first | (with_reducible first | exact HB.out | apply below_alloc | apply pw_below_drewN | apply below_drew1) | exact HB.out))); rintro e w73 ⟨rfl, hb⟩; refine ⟨_, rfl, ?_⟩; have n0_ := Aside0.mk (below_step (by repeat (first | (with_reducible first | exact HB.out | apply below_alloc | apply pw_below_drewN | apply below_drew1) | exact HB.out)) hb); clear HB; have HB := n0_; clear n0_; (try clear hb); (try clear hb2); (try clear hk); (try clear hi)) | ((with_reducible refine gate_callee (f := 16) rfl ?_); refine goesL_ (some 26) rfl rfl Tryd.func16 (by kernel_rfl) rfl #[.int .i64 ji6] rfl (by (try simp only [List.map_toArray, List.map_cons, List.map_nil]); first | done | (simp only [hji6]; rfl) | rfl | (simp only [List.length_drop, List.length_take]; rfl)) ?_; (with_reducible refine (number_PutHex.calls ji6 t143 _ ?side1 A10.out).mono ?_); (case side1 => exact Laid.below HLX.out (by repeat (first | (with_reducible first | exact HB.out | apply below_alloc | apply pw_below_drewN | apply below_drew1) | exact HB.out))); rintro e w74 ⟨rfl, hb⟩; refine ⟨_, rfl, ?_⟩; have n0_ := Aside0.mk (below_step (by repeat (first | (with_reducible first | exact HB.out | apply below_alloc | apply pw_below_drewN | apply below_drew1) | exact HB.out)) hb); clear HB; have HB := n0_; clear n0_; (try clear hb); (try clear hb2); (try clear hk); (try clear hi)) | (go_at_call 7; (with_reducible refine (parallaxlaw2_known.calls k  true _ ?side1 A3.out).mono ?_); (case side1 => exact Laid.below HLX.out (by repeat (first | (with_reducible first | exact HB.out | apply below_alloc | apply pw_below_drewN | apply below_drew1) | exact HB.out))); rintro e w70 ⟨rfl, hb⟩; have n0_ := Aside0.mk (below_step (by repeat (first | (with_reducible first | exact HB.out | apply below_alloc | apply pw_below_drewN | apply below_drew1) | exact HB.out)) hb); clear HB; have HB := n0_; clear n0_; (try clear hb); (try clear hb2); (try clear hk); (try clear hi)) | (go_at_call 15; (with_reducible refine (number_Put.calls ji5 t140 _ ?side1 A7.out).mono ?_); (case side1 => exact Laid.below HLX.out (by repeat (first | (with_reducible first | exact HB.out | apply below_alloc | apply pw_below_drewN | apply below_drew1) | exact HB.out))); rintro e w71 ⟨rfl, hb⟩; have n0_ := Aside0.mk (below_step (by repeat (first | (with_reducible first | exact HB.out | apply below_alloc | apply pw_below_drewN | apply below_drew1) | exact HB.out)) hb); clear HB; have HB := n0_; clear n0_; (try clear hb); (try clear hb2); (try clear hk); (try clear hi)) | (go_at_call 15; (with_reducible refine (number_Put.calls ji6 t141 _ ?side1 A8.out).mono ?_); (case side1 => exact Laid.below HLX.out (by repeat (first | (with_reducible first | exact HB.out | apply below_alloc | apply pw_below_drewN | apply below_drew1) | exact HB.out))); rintro e w72 ⟨rfl, hb⟩; have n0_ := Aside0.mk (below_step (by repeat (first | (with_reducible first | exact HB.out | apply below_alloc | apply pw_below_drewN | apply below_drew1) | exact HB.out)) hb); clear HB; have HB := n0_; clear n0_; (try clear hb); (try clear hb2); (try clear hk); (try clear hi)) | (go_at_call 16; (with_reducible refine (number_PutHex.calls ji5 t142 _ ?side1 A9.out).mono ?_); (case side1 => exact Laid.below HLX.out (by repeat (first | (with_reducible first | exact HB.out | apply below_alloc | apply pw_below_drewN | apply below_drew1) | exact HB.out))); rintro e w73 ⟨rfl, hb⟩; have n0_ := Aside0.mk (below_step (by repeat (first | (with_reducible first | exact HB.out | apply below_alloc | apply pw_below_drewN | apply below_drew1) | exact HB.out)) hb); clear HB; have HB := n0_; clear n0_; (try clear hb); (try clear hb2); (try clear hk); (try clear hi)) | (go_at_call 16; (with_reducible refine (number_PutHex.calls ji6 t143 _ ?side1 A10.out).mono ?_); (case side1 => exact Laid.below HLX.out (by repeat (first | (with_reducible first | exact HB.out | apply below_alloc | apply pw_below_drewN | apply below_drew1) | exact HB.out))); rintro e w74 ⟨rfl, hb⟩; have n0_ := Aside0.mk (below_step (by repeat (first | (with_reducible first | exact HB.out | apply below_alloc | apply pw_below_drewN | apply below_drew1) | exact HB.out)) hb); clear HB; have HB := n0_; clear n0_; (try clear hb); (try clear hb2); (try clear hk); (try clear hi)))
                (try any_goals (exfalso; have h_ := ‹some undef = some (Value.bool _)›; revert h_; simp [undef]; done))
                go_ret
                exact ⟨by first | rfl | (simp [errW_none, errW_some] <;> rfl) | (simp only [← hji5, ← hji6]; first | rfl | (simp [errW_none, errW_some] <;> rfl)) | (simp [*, errW_none, errW_some] <;> rfl), by repeat (first | (with_reducible first | exact HB.out | apply below_alloc | apply pw_below_drewN | apply below_drew1) | exact HB.out)⟩
              · rw [if_neg c69] at H
                have c69b0 : decide (0 < (t140.size : Int)) = false := decide_eq_false c69
                have c69b1 : decide (0 < t140.size) = false := decide_eq_false (by omega)
                clear c69
                exact absurd ((Option.some.inj H).trans HT.out) (by decide)
  · replace c4 := Bool.eq_false_iff.mpr c4
    subst c4
    rw [if_neg (show ¬ (false = true) by decide)] at H
    exact absurd ((Option.some.inj H).trans HT.out) (by decide)

/-- THE ONE PURE STATEMENT of parallaxlaw2_NumberOrder: yours. -/
def parallaxlaw2_NumberOrder.Pure : Prop := ∀ (a0 : Int) (a1 : Int), (Lit.int .i64 a0).wf = true → (Lit.int .i64 a1).wf = true → ∃ k, parallaxlaw2_NumberOrder.f k a0 a1 = some true

end Go.Proofs.YtnckmjdonbnpoaaDoor.PNumberOrder
