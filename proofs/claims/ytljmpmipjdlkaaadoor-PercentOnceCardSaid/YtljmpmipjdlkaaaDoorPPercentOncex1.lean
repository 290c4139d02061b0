-- Written by a program of this session (wip/tools/myprint.sh)
import Derived.Test.YtljmpmipjdlkaaaDoorPPercentOncex0
namespace Go.Proofs.YtljmpmipjdlkaaaDoor.PPercentOnce
open Go.RowKit Go.Proofs.YtljmpmipjdlkaaaDoorW.PrintWords Go.Proofs.YtljmpmipjdlkaaaDoorW.PrintLast Go.Proofs.YtljmpmipjdlkaaaDoorW.PrintMore
attribute [local go_sem] max2_int min2_int max_two min_two max_three min_three max_four min_four   -- for this text's walks alone
set_option linter.unusedVariables false
set_option linter.unusedSimpArgs false

/-! ### stringslite_HasPrefix: function 36 -/
def stringslite_HasPrefix.f (a0 : ByteArray) (a1 : ByteArray) : Option (Bool) := if (a0.size : Int) ≥ (a1.size : Int) then (if 0 ≤ (a1.size : Int) then (if (a1.size : Int) ≤ (a0.size : Int) then (some ((a0.extract 0 a1.size).toList == a1.toList)) else (none)) else (none)) else (some false)
set_option maxHeartbeats 8000000 in
set_option maxRecDepth 100000 in
theorem stringslite_HasPrefix.calls (a0 : ByteArray) (a1 : ByteArray) (r : Bool) (w : World) (h : stringslite_HasPrefix.f a0 a1 = some r) :
    Calls Tryd.prog 36 #[.string a0, .string a1] w fun e w' => e = .returned (.bool r) ∧ Drawn0 w w' := by
  have H : (if (a0.size : Int) ≥ (a1.size : Int) then (if 0 ≤ (a1.size : Int) then (if (a1.size : Int) ≤ (a0.size : Int) then (some ((a0.extract 0 a1.size).toList == a1.toList)) else (none)) else (none)) else (some false)) = some r := h
  clear h
  by_cases c3 : (a0.size : Int) ≥ (a1.size : Int)
  · rw [if_pos c3] at H
    have c3b0 : decide ((a1.size : Int) ≤ (a0.size : Int)) = true := decide_eq_true c3
    have c3b1 : decide (a1.size ≤ a0.size) = true := decide_eq_true (Int.ofNat_le.mp c3)
    clear c3
    by_cases c4 : 0 ≤ (a1.size : Int)
    · rw [if_pos c4] at H
      have c4b0 := eq_true c4
      have c4b1 : decide (0 ≤ (a1.size : Int)) = true := decide_eq_true c4
      clear c4
      by_cases c5 : (a1.size : Int) ≤ (a0.size : Int)
      · rw [if_pos c5] at H
        have c5b0 := eq_true c5
        have c5b1 : decide ((a1.size : Int) ≤ (a0.size : Int)) = true := decide_eq_true c5
        clear c5
        obtain rfl := Option.some.inj H
        go_enter Tryd.func36, Tryd.ntmps36
        go_wp2
        go_ret
        exact ⟨by first | rfl | (simp; done) | (simp [*]; done), by repeat (first | exact Drawn0.refl _ | apply Drawn0.step)⟩
      · rw [if_neg c5] at H
        exact absurd H (by simp)
    · rw [if_neg c4] at H
      exact absurd H (by simp)
  · rw [if_neg c3] at H
    have c3b0 : decide ((a1.size : Int) ≤ (a0.size : Int)) = false := decide_eq_false c3
    have c3b1 : decide (a1.size ≤ a0.size) = false := decide_eq_false (fun h => c3 (Int.ofNat_le.mpr h))
    clear c3
    obtain rfl := Option.some.inj H
    go_enter Tryd.func36, Tryd.ntmps36
    go_wp2
    go_ret
    exact ⟨by first | rfl | (simp; done) | (simp [*]; done), by repeat (first | exact Drawn0.refl _ | apply Drawn0.step)⟩

/-! ### strings_HasPrefix: function 20 -/
def strings_HasPrefix.f (a0 : ByteArray) (a1 : ByteArray) : Option (Bool) := (stringslite_HasPrefix.f a0 a1).bind fun t101 => (some t101)
set_option maxHeartbeats 8000000 in
set_option maxRecDepth 100000 in
theorem strings_HasPrefix.calls (a0 : ByteArray) (a1 : ByteArray) (r : Bool) (w : World) (h : strings_HasPrefix.f a0 a1 = some r) :
    Calls Tryd.prog 20 #[.string a0, .string a1] w fun e w' => e = .returned (.bool r) ∧ Drawn0 w w' := by
  have H : ((stringslite_HasPrefix.f a0 a1).bind fun t101 => (some t101)) = some r := h
  clear h
  replace H := Option.bind_eq_some_iff.mp H
  obtain ⟨t101, A30, H⟩ := H
  replace H : (some t101) = some r := H
  have A3 := Aside0.mk A30
  clear A30
  obtain rfl := Option.some.inj H
  go_enter Tryd.func20, Tryd.ntmps20
  go_wp2_with (first | ((with_reducible refine gate_callee (f := 36) rfl ?_); refine goesL_ (some 7) rfl rfl Tryd.func36 (by kernel_rfl) rfl #[.string a0, .string a1] rfl (by (try simp only [List.map_toArray, List.map_cons, List.map_nil]); first | done | rfl | (simp only [List.length_drop, List.length_take]; rfl)) ?_; (with_reducible refine (stringslite_HasPrefix.calls a0 a1 t101 _ A3.out).mono ?_); rintro e w' ⟨rfl, ⟨nd, rfl⟩⟩; refine ⟨_, rfl, ?_⟩))
  go_ret
  exact ⟨by first | rfl | (simp; done) | (simp [*]; done), by repeat (first | exact Drawn0.refl _ | apply Drawn0.step)⟩

/-! ### strings_explode: function 45 -/
def strings_explode.f (a0 : ByteArray) (a1 : Int) : Option (List ByteArray) := none
theorem strings_explode.calls (a0 : ByteArray) (a1 : Int) (r : List ByteArray) (w : World) (h : strings_explode.f a0 a1 = some r) :
    Calls Tryd.prog 45 #[.string a0, .int .i64 a1] w fun e w' => ∃ v0_ : Value, e = .returned (v0_) ∧ Kd.R Kd.string 9 w' w.heap.size (fun _ => True) v0_ r ∧ Below w.heap.size w w' := by
  unfold strings_explode.f at h; cases h

/-! ### strings_Count: function 46 -/
def strings_Count.f (a0 a1 : ByteArray) : Option (Int) := if a1.size = 1 then some ((Lib.countByte a0.data.toList (a1.data.toList.getD 0 0) : Nat)) else none
theorem strings_Count.calls (a0 a1 : ByteArray) (r : Int) (w : World) (h : strings_Count.f a0 a1 = some r) :
    Calls Tryd.prog 46 #[.string a0, .string a1] w fun e w' => e = .returned (.int .i64 r) ∧ Drawn0 w w' := by
  unfold strings_Count.f at h
  split at h
  · rename_i hc
    obtain rfl := Option.some.inj h
    obtain ⟨c, rfl⟩ := Trim.one_byte hc
    refine (Tryd.strings_Count_one a0 c w).mono ?_
    rintro e w' ⟨rfl, rfl⟩
    exact ⟨rfl, Drawn0.refl _⟩
  · cases h

/-! ### strings_Index: function 47 -/
def strings_Index.f (a0 a1 : ByteArray) : Option (Int) := if a1.size = 1 then some (Lib.indexByte a0.data.toList (a1.data.toList.getD 0 0)) else none
theorem strings_Index.calls (a0 a1 : ByteArray) (r : Int) (w : World) (h : strings_Index.f a0 a1 = some r) :
    Calls Tryd.prog 47 #[.string a0, .string a1] w fun e w' => e = .returned (.int .i64 r) ∧ Drawn0 w w' := by
  unfold strings_Index.f at h
  split at h
  · rename_i hc
    obtain rfl := Option.some.inj h
    obtain ⟨c, rfl⟩ := Trim.one_byte hc
    refine (Tryd.strings_Index_one a0 c w).mono ?_
    rintro e w' ⟨rfl, rfl⟩
    exact ⟨rfl, Drawn0.refl _⟩
  · cases h

/-! ### strings_genSplit: function 39 -/
mutual
def strings_genSplit.j0 : Nat → ByteArray → ByteArray → Int → Int → Option (List ByteArray)
  | 0, _, _, _, _ => none
  | k + 1, x0, x1, x2, x3 => if 0 ≤ (mn x3 (wrap64 ((x0.size : Int) + 1))) then (if (mn x3 (wrap64 ((x0.size : Int) + 1)) : Int).toNat ≤ 17592186044416 then (strings_genSplit.l0 k x0 x1 x2 (wrap64 ((mn x3 (wrap64 ((x0.size : Int) + 1))) - 1)) (List.replicate (mn x3 (wrap64 ((x0.size : Int) + 1)) : Int).toNat (⟨#[]⟩ : ByteArray)) 0) else (none)) else (none)
def strings_genSplit.l0 : Nat → ByteArray → ByteArray → Int → Int → List ByteArray → Int → Option (List ByteArray)
  | 0, _, _, _, _, _, _ => none
  | k + 1, x0, x1, x2, x3, x9, x10 => if x10 < x3 then ((strings_Index.f x0 x1).bind fun t109 => (if t109 < 0 then (if 0 ≤ x10 then (if x10 < (x9.length : Int) then (if 0 ≤ (wrap64 (x10 + 1)) then (if (wrap64 (x10 + 1)) ≤ (x9.length : Int) then (some ((x9.set (x10 : Int).toNat x0).take ((wrap64 (x10 + 1)) : Int).toNat)) else (none)) else (none)) else (none)) else (none)) else (if 0 ≤ (wrap64 (t109 + x2)) then (if (wrap64 (t109 + x2)) ≤ (x0.size : Int) then (if 0 ≤ x10 then (if x10 < (x9.length : Int) then (if 0 ≤ (wrap64 (t109 + (x1.size : Int))) then (if (wrap64 (t109 + (x1.size : Int))) ≤ (x0.size : Int) then (strings_genSplit.l0 k (x0.extract ((wrap64 (t109 + (x1.size : Int))) : Int).toNat x0.size) x1 x2 x3 (x9.set (x10 : Int).toNat (x0.extract 0 ((wrap64 (t109 + x2)) : Int).toNat)) (wrap64 (x10 + 1))) else (none)) else (none)) else (none)) else (none)) else (none)) else (none)))) else (if 0 ≤ x10 then (if x10 < (x9.length : Int) then (if 0 ≤ (wrap64 (x10 + 1)) then (if (wrap64 (x10 + 1)) ≤ (x9.length : Int) then (some ((x9.set (x10 : Int).toNat x0).take ((wrap64 (x10 + 1)) : Int).toNat)) else (none)) else (none)) else (none)) else (none))
end
def strings_genSplit.f (k : Nat) (a0 : ByteArray) (a1 : ByteArray) (a2 : Int) (a3 : Int) : Option (List ByteArray) := if a3 = 0 then (some ([] : List ByteArray)) else (if a1.toList = ([] : List UInt8) then ((strings_explode.f a0 a3).bind fun t102 => (some t102)) else (if a3 < 0 then ((strings_Count.f a0 a1).bind fun t105 => (strings_genSplit.j0 k a0 a1 a2 (wrap64 (t105 + 1)))) else (strings_genSplit.j0 k a0 a1 a2 a3)))
theorem strings_genSplit.mono_l : ∀ k, (∀ y0 y1 y2 y3, LeO (strings_genSplit.j0 k y0 y1 y2 y3) (strings_genSplit.j0 (k + 1) y0 y1 y2 y3)) ∧ (∀ y0 y1 y2 y3 y4 y5, LeO (strings_genSplit.l0 k y0 y1 y2 y3 y4 y5) (strings_genSplit.l0 (k + 1) y0 y1 y2 y3 y4 y5))
  | 0 => ⟨fun _ _ _ _ r h => by simp [strings_genSplit.j0] at h, fun _ _ _ _ _ _ r h => by simp [strings_genSplit.l0] at h⟩
  | k + 1 => by
    obtain ⟨ih0, ih1⟩ := strings_genSplit.mono_l k
    refine ⟨?_, ?_⟩
    · intro y0 y1 y2 y3
      unfold strings_genSplit.j0
      repeat' first
      | (with_reducible exact ih0 _ _ _ _)
      | (with_reducible exact ih1 _ _ _ _ _ _)
      | (with_reducible exact LeO.refl _)
      | (with_reducible exact LeO.none _)
      | (with_reducible refine LeO.ite ?_ ?_)
      | (with_reducible refine LeO.bind ?_ (fun _ => ?_))
      | exact ih0 _ _ _ _
      | exact ih1 _ _ _ _ _ _
      | exact LeO.none _
      | refine LeO.ite ?_ ?_
      | refine LeO.bind ?_ (fun _ => ?_)
    · intro y0 y1 y2 y3 y4 y5
      unfold strings_genSplit.l0
      repeat' first
      | (with_reducible exact ih0 _ _ _ _)
      | (with_reducible exact ih1 _ _ _ _ _ _)
      | (with_reducible exact LeO.refl _)
      | (with_reducible exact LeO.none _)
      | (with_reducible refine LeO.ite ?_ ?_)
      | (with_reducible refine LeO.bind ?_ (fun _ => ?_))
      | exact ih0 _ _ _ _
      | exact ih1 _ _ _ _ _ _
      | exact LeO.none _
      | refine LeO.ite ?_ ?_
      | refine LeO.bind ?_ (fun _ => ?_)
theorem strings_genSplit.mono : ∀ a0 a1 a2 a3 k, LeO (strings_genSplit.f k a0 a1 a2 a3) (strings_genSplit.f (k + 1) a0 a1 a2 a3) := by
  intro a0 a1 a2 a3 k
  obtain ⟨ih0, ih1⟩ := strings_genSplit.mono_l k
  unfold strings_genSplit.f
  repeat' first
      | (with_reducible exact ih0 _ _ _ _)
      | (with_reducible exact ih1 _ _ _ _ _ _)
      | (with_reducible exact LeO.refl _)
      | (with_reducible exact LeO.none _)
      | (with_reducible refine LeO.ite ?_ ?_)
      | (with_reducible refine LeO.bind ?_ (fun _ => ?_))
      | exact ih0 _ _ _ _
      | exact ih1 _ _ _ _ _ _
      | exact LeO.none _
      | refine LeO.ite ?_ ?_
      | refine LeO.bind ?_ (fun _ => ?_)
set_option maxHeartbeats 8000000 in
set_option maxRecDepth 100000 in
theorem strings_genSplit.calls (k : Nat) (a0 : ByteArray) (a1 : ByteArray) (a2 : Int) (a3 : Int) (r : List ByteArray) (w : World) (h : strings_genSplit.f k a0 a1 a2 a3 = some r) :
    Calls Tryd.prog 39 #[.string a0, .string a1, .int .i64 a2, .int .i64 a3] w fun e w' => ∃ v0_ : Value, e = .returned (v0_) ∧ Kd.R Kd.string 9 w' w.heap.size (fun _ => True) v0_ r ∧ Below w.heap.size w w' := by
  have HB := Aside0.mk (Below.refl w.heap.size w)
  have H : (if a3 = 0 then (some ([] : List ByteArray)) else (if a1.toList = ([] : List UInt8) then ((strings_explode.f a0 a3).bind fun t102 => (some t102)) else (if a3 < 0 then ((strings_Count.f a0 a1).bind fun t105 => (strings_genSplit.j0 k a0 a1 a2 (wrap64 (t105 + 1)))) else (strings_genSplit.j0 k a0 a1 a2 a3)))) = some r := h
  clear h
  by_cases c5 : a3 = 0
  · rw [if_pos c5] at H
    have c5b0 : (a3 == 0) = true := beq_iff_eq.mpr c5
    have c5b1 : (a3 != 0) = false := bne_eq_false_iff_eq.mpr c5
    clear c5
    obtain rfl := Option.some.inj H
    go_enter Tryd.func39, Tryd.ntmps39
    go_wp2
    go_ret
    exact ⟨_, by first | rfl | (simp [errW_none, errW_some] <;> rfl) | (simp [*, errW_none, errW_some] <;> rfl), by first | exact Kd.R_nil _ _ _ _ _ | exact Kd.N_nil _ _ _ _ _ | exact Kd.V_nil _ _ _ _ _ | exact Kd.Q_nil _ _ _ _ _ | exact Kd.S_nil _ _ _ _ _, by repeat (first | (with_reducible first | exact HB.out | apply below_alloc | apply pw_below_drewN | apply below_drew1) | exact HB.out)⟩
  · rw [if_neg c5] at H
    have c5b0 : (a3 == 0) = false := beq_eq_false_iff_ne.mpr c5
    have c5b1 : (a3 != 0) = true := bne_iff_ne.mpr c5
    by_cases c6 : a1.toList = ([] : List UInt8)
    · rw [if_pos c6] at H
      have c6b0 : (a1.toList == ([] : List UInt8)) = true := beq_iff_eq.mpr c6
      have c6b1 : (a1.toList != ([] : List UInt8)) = false := bne_eq_false_iff_eq.mpr c6
      clear c6
      replace H := Option.bind_eq_some_iff.mp H
      obtain ⟨t102, A70, H⟩ := H
      replace H : (some t102) = some r := H
      have A7 := Aside0.mk A70
      clear A70
      obtain rfl := Option.some.inj H
      go_enter Tryd.func39, Tryd.ntmps39
      go_wp2_with (first | ((with_reducible refine gate_callee (f := 45) rfl ?_); refine goesL_ (some 18) rfl rfl Tryd.func45 (by kernel_rfl) rfl #[.string a0, .int .i64 a3] rfl (by (try simp only [List.map_toArray, List.map_cons, List.map_nil]); first | done | rfl | (simp only [List.length_drop, List.length_take]; rfl)) ?_; (with_reducible refine (strings_explode.calls a0 a3 t102 _ A7.out).mono ?_); rintro e w8 ⟨v103, rfl, ho0, hb⟩; refine ⟨_, rfl, ?_⟩; have n0_ := Aside0.mk (Kd.R_lower ho0 (below_size (by repeat (first | (with_reducible first | exact HB.out | apply below_alloc | apply pw_below_drewN | apply below_drew1) | exact HB.out)))); have n1_ := Aside0.mk (below_step (by repeat (first | (with_reducible first | exact HB.out | apply below_alloc | apply pw_below_drewN | apply below_drew1) | exact HB.out)) hb); clear HB; have HO104 := n0_; have HB := n1_; clear n0_ n1_; (try clear hb); (try clear hb2); (try clear hk); (try clear hi); (try clear ho0)))
      go_ret
      exact ⟨_, by first | rfl | (simp [errW_none, errW_some] <;> rfl) | (simp [*, errW_none, errW_some] <;> rfl), by (with_reducible repeat (first | apply Kd.R_alloc | apply Kd.R_drewN | apply Kd.R_drew)); exact HO104.out, by repeat (first | (with_reducible first | exact HB.out | apply below_alloc | apply pw_below_drewN | apply below_drew1) | exact HB.out)⟩
    · rw [if_neg c6] at H
      have c6b0 : (a1.toList == ([] : List UInt8)) = false := beq_eq_false_iff_ne.mpr c6
      have c6b1 : (a1.toList != ([] : List UInt8)) = true := bne_iff_ne.mpr c6
      have HC9 := Aside0.mk H
      clear H
      go_enter Tryd.func39, Tryd.ntmps39
      go_upto_if 20 with (fail)
      go_cut [3] (fun v3 wc => ∃ (kq : Nat) (x3_8 : Int), v3 = .int .i64 x3_8 ∧ Aside0 (strings_genSplit.j0 kq a0 a1 a2 x3_8 = some r) ∧ Aside0 (kq ≤ k) ∧ Aside0 (Below w.heap.size w wc))
      case first =>
        have H := HC9.out
        clear HC9
        by_cases c10 : a3 < 0
        · rw [if_pos c10] at H
          have c10b0 : decide (a3 < 0) = true := decide_eq_true c10
          clear c10
          (first | rw [c10b0] | (simp only [i64_w, i32_w]; rw [c10b0]) | skip)
          replace H := Option.bind_eq_some_iff.mp H
          obtain ⟨t105, A110, H⟩ := H
          replace H : (strings_genSplit.j0 k a0 a1 a2 (wrap64 (t105 + 1))) = some r := H
          have A11 := Aside0.mk A110
          clear A110
          have H' := Aside0.mk H
          clear H
          go_wp2_with (first | ((with_reducible refine gate_callee (f := 46) rfl ?_); refine goesL_ (some 23) rfl rfl Tryd.func46 (by kernel_rfl) rfl #[.string a0, .string a1] rfl (by (try simp only [List.map_toArray, List.map_cons, List.map_nil]); first | done | rfl | (simp only [List.length_drop, List.length_take]; rfl)) ?_; (with_reducible refine (strings_Count.calls a0 a1 t105 _ A11.out).mono ?_); rintro e w' ⟨rfl, ⟨nd, rfl⟩⟩; refine ⟨_, rfl, ?_⟩))
          go_meet
          case rel => exact ⟨_, (wrap64 (t105 + 1)), (by first | rfl | (simp; done) | (simp [*]; done)), H', ⟨by first | omega | exact Nat.le_refl _⟩, ⟨by repeat (first | (with_reducible first | exact HB.out | apply below_alloc | apply pw_below_drewN | apply below_drew1) | exact HB.out)⟩⟩
        · rw [if_neg c10] at H
          have c10b0 : decide (a3 < 0) = false := decide_eq_false c10
          clear c10
          (first | rw [c10b0] | (simp only [i64_w, i32_w]; rw [c10b0]) | skip)
          have H' := Aside0.mk H
          clear H
          go_wp2
          go_meet
          case rel => exact ⟨_, (a3), (by first | rfl | (simp; done) | (simp [*]; done)), H', ⟨by first | omega | exact Nat.le_refl _⟩, ⟨by repeat (first | (with_reducible first | exact HB.out | apply below_alloc | apply pw_below_drewN | apply below_drew1) | exact HB.out)⟩⟩
      case rest =>
        clear HC9
        try clear c1
        try clear p2
        try clear c3
        try clear c4
        try clear c5
        try clear c5b0
        try clear c5b1
        try clear c6
        try clear c6b0
        try clear c6b1
        try clear p6
        try clear c10
        try clear c10b0
        obtain ⟨kq, x3_8, rfl, HA, HJ8, HB⟩ := hcut
        cases kq with
        | zero => exact absurd HA.out (by simp [strings_genSplit.j0])
        | succ kj8 =>
          have H := HA.out
          clear HA
          simp only [strings_genSplit.j0] at H
          obtain ⟨ji12, hji12⟩ : ∃ j_ : Int, (mn x3_8 (wrap64 ((a0.size : Int) + 1))) = j_ := ⟨_, rfl⟩
          replace H : (if 0 ≤ (ji12) then (if (ji12 : Int).toNat ≤ 17592186044416 then (strings_genSplit.l0 kj8 a0 a1 a2 (wrap64 ((ji12) - 1)) (List.replicate (ji12 : Int).toNat (⟨#[]⟩ : ByteArray)) 0) else (none)) else (none)) = some r := by first | (rw [hji12] at H; exact H) | (simp only [hji12] at H ⊢; exact H)
          have hji12_ : (if (wrap64 ((a0.size : Int) + 1)) < x3_8 then (wrap64 ((a0.size : Int) + 1)) else x3_8) = ji12 := hji12
          by_cases c13 : 0 ≤ (ji12)
          · rw [if_pos c13] at H
            have c13b0 := eq_true c13
            have c13b1 : decide (0 ≤ (ji12)) = true := decide_eq_true c13
            clear c13
            by_cases c14 : (ji12 : Int).toNat ≤ 17592186044416
            · rw [if_pos c14] at H
              have c14b0 := eq_true c14
              have c14b1 : decide ((ji12 : Int).toNat ≤ 17592186044416) = true := decide_eq_true c14
              clear c14
              obtain ⟨y106, hy106⟩ : ∃ y_ : List ByteArray, y_ = (List.replicate (ji12 : Int).toNat (⟨#[]⟩ : ByteArray)) := ⟨_, rfl⟩
              replace H : (strings_genSplit.l0 kj8 a0 a1 a2 (wrap64 ((ji12) - 1)) y106 0) = some r := by first | (rw [hy106]; with_reducible exact H) | (have H2_ := (Option.bind_some _ _).symm.trans H; rw [hy106]; with_reducible exact H2_) | (have H2_ := (Option.bind_some _ _).symm.trans H; with_reducible exact H2_) | with_reducible exact H | (rw [hy106]; exact H) | exact H
              have Ny106 := Aside0.mk hy106
              clear hy106
              have H' := Aside0.mk H
              clear H
              go_wp2_with (first | ((with_reducible refine gate_dst (N := 31) rfl ?_); refine Kd.R_make Kd.string _ 9 rfl (N := 31) rfl 23 _ _ rfl ji12 rfl rfl Tryd.underlying23 (.string ⟨#[]⟩) 16 info9 rfl (by decide) (by omega) (⟨#[]⟩ : ByteArray) (ok := fun _ => True) (okp := fun _ => True) rfl (fun _ hk => hk) trivial (of_decide_eq_true (by first | (with_reducible assumption) | assumption)) (Nat.le_trans (Nat.mul_le_mul_right _ (of_decide_eq_true (by first | (with_reducible assumption) | assumption) : ji12.toNat ≤ 17592186044416)) (by omega)) (Below.refl _ _) (Nat.le_refl _) ?_; intro v107 w15 ho16 hb hg_ hnew_; clear hg_ hnew_; (first | rw [← Ny106.out] at ho16 | (simp only [Int.reduceToNat] at ho16; rw [← Ny106.out] at ho16)); have n0_ := Aside0.mk (Kd.R_lower ho16 (below_size (by repeat (first | (with_reducible first | exact HB.out | apply below_alloc | apply pw_below_drewN | apply below_drew1) | exact HB.out)))); have n1_ := Aside0.mk (below_step (by repeat (first | (with_reducible first | exact HB.out | apply below_alloc | apply pw_below_drewN | apply below_drew1) | exact HB.out)) hb); clear HB; have HO108 := n0_; have HB := n1_; clear n0_ n1_; clear hb ho16))
              go_loopg [0, 10] kj8 (fun kq v0 v10 w' => ∃ (x0_2 : ByteArray) (x9_2 : List ByteArray) (x10_2 : Int), v0 = .string x0_2 ∧ v10 = .int .i64 x10_2 ∧ Aside0 (strings_genSplit.l0 kq x0_2 a1 a2 (wrap64 ((ji12) - 1)) x9_2 x10_2 = some r) ∧ Aside0 (kq ≤ kj8) ∧ Aside0 (Kd.R Kd.string 9 w' w.heap.size (fun _ => True) v107 x9_2) ∧ Aside0 (Below w.heap.size w w'))
              case atStart => exact ⟨(a0), (y106), (0), (by first | rfl | (simp; done) | (simp [*]; done)), (by first | rfl | (simp; done) | (simp [*]; done)), H', ⟨Nat.le_refl _⟩, ⟨by (with_reducible repeat (first | apply Kd.R_alloc | apply Kd.R_drewN | apply Kd.R_drew)); exact HO108.out⟩, ⟨by repeat (first | (with_reducible first | exact HB.out | apply below_alloc | apply pw_below_drewN | apply below_drew1) | exact HB.out)⟩⟩
              case round =>
                clear H'
                try clear c1
                try clear p2
                try clear c3
                try clear c4
                try clear c5
                try clear c5b0
                try clear c5b1
                try clear c6
                try clear c6b0
                try clear c6b1
                try clear p6
                try clear c10
                try clear c10b0
                try clear c13
                try clear c13b0
                try clear c13b1
                try clear c14
                try clear c14b0
                try clear c14b1
                try clear p2
                try clear p6
                obtain ⟨x0_2, x9_2, x10_2, rfl, rfl, HA, HK2, HO_9, HB⟩ := hrel
                cases gk with
                | zero => exact absurd HA.out (by simp [strings_genSplit.l0])
                | succ k2 =>
                  have H := HA.out
                  clear HA
                  simp only [strings_genSplit.l0] at H
                  by_cases c17 : x10_2 < (wrap64 ((ji12) - 1))
                  · rw [if_pos c17] at H
                    have c17b0 : decide (x10_2 < (wrap64 ((ji12) - 1))) = true := decide_eq_true c17
                    clear c17
                    replace H := Option.bind_eq_some_iff.mp H
                    obtain ⟨t109, A180, H⟩ := H
                    replace H : (if t109 < 0 then (if 0 ≤ x10_2 then (if x10_2 < (x9_2.length : Int) then (if 0 ≤ (wrap64 (x10_2 + 1)) then (if (wrap64 (x10_2 + 1)) ≤ (x9_2.length : Int) then (some ((x9_2.set (x10_2 : Int).toNat x0_2).take ((wrap64 (x10_2 + 1)) : Int).toNat)) else (none)) else (none)) else (none)) else (none)) else (if 0 ≤ (wrap64 (t109 + a2)) then (if (wrap64 (t109 + a2)) ≤ (x0_2.size : Int) then (if 0 ≤ x10_2 then (if x10_2 < (x9_2.length : Int) then (if 0 ≤ (wrap64 (t109 + (a1.size : Int))) then (if (wrap64 (t109 + (a1.size : Int))) ≤ (x0_2.size : Int) then (strings_genSplit.l0 k2 (x0_2.extract ((wrap64 (t109 + (a1.size : Int))) : Int).toNat x0_2.size) a1 a2 (wrap64 ((ji12) - 1)) (x9_2.set (x10_2 : Int).toNat (x0_2.extract 0 ((wrap64 (t109 + a2)) : Int).toNat)) (wrap64 (x10_2 + 1))) else (none)) else (none)) else (none)) else (none)) else (none)) else (none))) = some r := H
                    have A18 := Aside0.mk A180
                    clear A180
                    by_cases c19 : t109 < 0
                    · rw [if_pos c19] at H
                      have c19b0 : decide (t109 < 0) = true := decide_eq_true c19
                      clear c19
                      by_cases c20 : 0 ≤ x10_2
                      · rw [if_pos c20] at H
                        have c20b0 : decide (0 ≤ x10_2) = true := decide_eq_true c20
                        clear c20
                        by_cases c21 : x10_2 < (x9_2.length : Int)
                        · rw [if_pos c21] at H
                          have c21b0 : decide (x10_2 < (x9_2.length : Int)) = true := decide_eq_true c21
                          clear c21
                          obtain ⟨y110, hy110⟩ : ∃ y_ : List ByteArray, y_ = (x9_2.set (x10_2 : Int).toNat x0_2) := ⟨_, rfl⟩
                          replace H : (if 0 ≤ (wrap64 (x10_2 + 1)) then (if (wrap64 (x10_2 + 1)) ≤ (x9_2.length : Int) then (some (y110.take ((wrap64 (x10_2 + 1)) : Int).toNat)) else (none)) else (none)) = some r := by first | (rw [hy110]; with_reducible exact H) | (have H2_ := (Option.bind_some _ _).symm.trans H; rw [hy110]; with_reducible exact H2_) | (have H2_ := (Option.bind_some _ _).symm.trans H; with_reducible exact H2_) | with_reducible exact H | (rw [hy110]; exact H) | exact H
                          have Ny110 := Aside0.mk hy110
                          clear hy110
                          obtain ⟨ji23, hji23⟩ : ∃ j_ : Int, (wrap64 (x10_2 + 1)) = j_ := ⟨_, rfl⟩
                          replace H : (if 0 ≤ (ji23) then (if (ji23) ≤ (x9_2.length : Int) then (some (y110.take ((ji23) : Int).toNat)) else (none)) else (none)) = some r := by first | (rw [hji23] at H; exact H) | (simp only [hji23] at H ⊢; exact H)
                          (try rw [hji23] at A18)
                          have hji23w : (IntKind.i64.wrap (x10_2 + 1)) = ji23 := (i64_w _).trans hji23
                          by_cases c24 : 0 ≤ (ji23)
                          · rw [if_pos c24] at H
                            have c24b0 := eq_true c24
                            have c24b1 : decide (0 ≤ (ji23)) = true := decide_eq_true c24
                            clear c24
                            by_cases c25 : (ji23) ≤ (x9_2.length : Int)
                            · rw [if_pos c25] at H
                              have c25b0 := eq_true c25
                              have c25b1 : decide ((ji23) ≤ (x9_2.length : Int)) = true := decide_eq_true c25
                              clear c25
                              obtain ⟨y111, hy111⟩ : ∃ y_ : List ByteArray, y_ = (y110.take ((ji23) : Int).toNat) := ⟨_, rfl⟩
                              replace H : (some y111) = some r := by first | (rw [hy111]; with_reducible exact H) | (have H2_ := (Option.bind_some _ _).symm.trans H; rw [hy111]; with_reducible exact H2_) | (have H2_ := (Option.bind_some _ _).symm.trans H; with_reducible exact H2_) | with_reducible exact H | (rw [hy111]; exact H) | exact H
                              have Ny111 := Aside0.mk hy111
                              clear hy111
                              obtain rfl := Option.some.inj H
                              go_wp2_with (first | ((with_reducible refine gate_callee (f := 47) rfl ?_); refine goesL_ (some 39) rfl rfl Tryd.func47 (by kernel_rfl) rfl #[.string x0_2, .string a1] rfl (by (try simp only [List.map_toArray, List.map_cons, List.map_nil]); first | done | rfl | (simp only [List.length_drop, List.length_take]; rfl)) ?_; (with_reducible refine (strings_Index.calls x0_2 a1 t109 _ A18.out).mono ?_); rintro e w' ⟨rfl, ⟨nd, rfl⟩⟩; refine ⟨_, rfl, ?_⟩; (try (rw [drewN_self wr]; generalize hq_ : World.drewN wr _ = wr; have n0_ : Aside0 (Kd.R Kd.string 9 wr w.heap.size (fun _ => True) v107 x9_2) := ⟨by rw [← hq_]; exact (by (with_reducible repeat (first | apply Kd.R_alloc | apply Kd.R_drewN | apply Kd.R_drew)); exact HO_9.out)⟩; have n1_ : Aside0 (Below w.heap.size w wr) := ⟨by rw [← hq_]; exact (by repeat (first | (with_reducible first | exact HB.out | apply below_alloc | apply pw_below_drewN | apply below_drew1) | exact HB.out))⟩; clear HO_9 HB hq_; have HO_9 := n0_; have HB := n1_; clear n0_ n1_)); have p22 : 0 ≤ (x10_2 : Int) := of_decide_eq_true (by first | (with_reducible assumption) | assumption); have q22 : (x10_2 : Int) < ((x9_2.length : Int) : Int) := of_decide_eq_true (by first | (with_reducible assumption) | assumption); obtain ⟨go22, co22, eo22, gb22, gl22, cl22, HG22⟩ := Kd.R_form HO_9.out (by omega); (first | cases eo22 | (injection eo22 with ea_ en_ ec_; (first | subst ea_ | (injection ea_ with ea_; subst ea_)); subst ec_; clear en_)); have GB22 := Aside0.mk gb22; have GG22 := Aside0.mk HG22; clear gb22 gl22 HG22; obtain ⟨hx22_0, hf22_0⟩ := Kd.R_celln (⟨#[]⟩ : ByteArray) HO_9.out (x10_2 : Int) p22 q22; replace p22 := eq_true p22; replace q22 := eq_true q22; obtain ⟨hy26_, hz26_⟩ := Kd.R_celln (⟨#[]⟩ : ByteArray) HO_9.out (x10_2 : Int) (of_decide_eq_true (by first | (with_reducible assumption) | assumption)) (of_decide_eq_true (by first | (with_reducible assumption) | assumption)); have HP26 := Kd.R_putg HO_9.out (x10_2 : Int) x0_2) | ((with_reducible refine gate_store (t := 9) (p := 61) rfl ?_); refine store_event (t := 9) (p := 61) (v := ?vo_w27) (w1 := (wr.setCell ⟨go22, (x10_2 : Int).toNat, none⟩ (.string x0_2))) ?hg ?ho ?hn ?hr ?_; (case ho => rfl); (case hg => rfl); (case hn => rfl); (case hr => first | (go_simp; done) | (go_simp; rfl)); intro w27 hw; have hg : wr.grownBy w27 (some go22) := (by rw [hw]; exact HP26.2); have hp_ : Kd.R Kd.string 9 w27 w.heap.size (fun _ => True) (.slice (some ⟨go22, 0, none⟩) x9_2.length co22) y110 := (by rw [hw, Ny110.out]; exact HP26.1); clear HP26; have n0_ := Aside0.mk (hp_); have n1_ := Aside0.mk ((by rw [hw]; exact below_set (HB.out) GB22.out : Below w.heap.size w w27)); clear HO_9; clear HB; have HO_9 := n0_; have HB := n1_; clear n0_ n1_; clear hg hw hp_; have q28 : ((ji23) : Int) ≤ ((x9_2.length : Int) : Int) := of_decide_eq_true (by first | (with_reducible assumption) | assumption); obtain ⟨i028, hi028, _, hsz28, _⟩ := info_parts info9; have hcut28 := cut_to (P := Tryd.prog) 23 9 .i64 Tryd.underlying23 hi028 (some ⟨go22, 0, none⟩) x9_2.length co22 (ji23) (of_decide_eq_true (by first | (with_reducible assumption) | assumption)) q28 (Kd.R_reads' HO_9.out).2.1; have hr28 := Kd.R_take (m := ((ji23) : Int).toNat) HO_9.out (by first | omega | (have h0_ := congrArg List.length Ny110.out; (try simp only [List.length_set] at h0_); omega)); have hy28 : y111.length = ((ji23) : Int).toNat := (by rw [Ny111.out, List.length_take]; exact (show min _ _ = _ from (by first | omega | (have h0_ := congrArg List.length Ny110.out; (try simp only [List.length_set] at h0_); omega)))); rw [← Ny111.out] at hr28; rw [← hy28] at hr28 hcut28; clear hy28 hi028 hsz28 HO_9; have HO113 := Aside0.mk hr28; clear hr28; replace q28 := eq_true q28))
                              go_ret
                              exact ⟨_, by first | rfl | (simp [errW_none, errW_some] <;> rfl) | (simp only [← hji12, ← hji23]; first | rfl | (simp [errW_none, errW_some] <;> rfl)) | (simp [*, errW_none, errW_some] <;> rfl), by (with_reducible repeat (first | apply Kd.R_alloc | apply Kd.R_drewN | apply Kd.R_drew)); exact HO113.out, by repeat (first | (with_reducible first | exact HB.out | apply below_alloc | apply pw_below_drewN | apply below_drew1) | exact HB.out)⟩
                            · rw [if_neg c25] at H
                              exact absurd H (by simp)
                          · rw [if_neg c24] at H
                            exact absurd H (by simp)
                        · rw [if_neg c21] at H
                          exact absurd H (by simp)
                      · rw [if_neg c20] at H
                        exact absurd H (by simp)
                    · rw [if_neg c19] at H
                      have c19b0 : decide (t109 < 0) = false := decide_eq_false c19
                      clear c19
                      obtain ⟨ji29, hji29⟩ : ∃ j_ : Int, (wrap64 (t109 + a2)) = j_ := ⟨_, rfl⟩
                      replace H : (if 0 ≤ (ji29) then (if (ji29) ≤ (x0_2.size : Int) then (if 0 ≤ x10_2 then (if x10_2 < (x9_2.length : Int) then (if 0 ≤ (wrap64 (t109 + (a1.size : Int))) then (if (wrap64 (t109 + (a1.size : Int))) ≤ (x0_2.size : Int) then (strings_genSplit.l0 k2 (x0_2.extract ((wrap64 (t109 + (a1.size : Int))) : Int).toNat x0_2.size) a1 a2 (wrap64 ((ji12) - 1)) (x9_2.set (x10_2 : Int).toNat (x0_2.extract 0 ((ji29) : Int).toNat)) (wrap64 (x10_2 + 1))) else (none)) else (none)) else (none)) else (none)) else (none)) else (none)) = some r := by first | (rw [hji29] at H; exact H) | (simp only [hji29] at H ⊢; exact H)
                      (try rw [hji29] at A18)
                      have hji29w : (IntKind.i64.wrap (t109 + a2)) = ji29 := (i64_w _).trans hji29
                      by_cases c30 : 0 ≤ (ji29)
                      · rw [if_pos c30] at H
                        have c30b0 := eq_true c30
                        have c30b1 : decide (0 ≤ (ji29)) = true := decide_eq_true c30
                        clear c30
                        by_cases c31 : (ji29) ≤ (x0_2.size : Int)
                        · rw [if_pos c31] at H
                          have c31b0 := eq_true c31
                          have c31b1 : decide ((ji29) ≤ (x0_2.size : Int)) = true := decide_eq_true c31
                          clear c31
                          by_cases c32 : 0 ≤ x10_2
                          · rw [if_pos c32] at H
                            have c32b0 : decide (0 ≤ x10_2) = true := decide_eq_true c32
                            clear c32
                            by_cases c33 : x10_2 < (x9_2.length : Int)
                            · rw [if_pos c33] at H
                              have c33b0 : decide (x10_2 < (x9_2.length : Int)) = true := decide_eq_true c33
                              clear c33
                              obtain ⟨y114, hy114⟩ : ∃ y_ : List ByteArray, y_ = (x9_2.set (x10_2 : Int).toNat (x0_2.extract 0 ((ji29) : Int).toNat)) := ⟨_, rfl⟩
                              replace H : (if 0 ≤ (wrap64 (t109 + (a1.size : Int))) then (if (wrap64 (t109 + (a1.size : Int))) ≤ (x0_2.size : Int) then (strings_genSplit.l0 k2 (x0_2.extract ((wrap64 (t109 + (a1.size : Int))) : Int).toNat x0_2.size) a1 a2 (wrap64 ((ji12) - 1)) y114 (wrap64 (x10_2 + 1))) else (none)) else (none)) = some r := by first | (rw [hy114]; with_reducible exact H) | (have H2_ := (Option.bind_some _ _).symm.trans H; rw [hy114]; with_reducible exact H2_) | (have H2_ := (Option.bind_some _ _).symm.trans H; with_reducible exact H2_) | with_reducible exact H | (rw [hy114]; exact H) | exact H
                              have Ny114 := Aside0.mk hy114
                              clear hy114
                              obtain ⟨ji35, hji35⟩ : ∃ j_ : Int, (wrap64 (t109 + (a1.size : Int))) = j_ := ⟨_, rfl⟩
                              replace H : (if 0 ≤ (ji35) then (if (ji35) ≤ (x0_2.size : Int) then (strings_genSplit.l0 k2 (x0_2.extract ((ji35) : Int).toNat x0_2.size) a1 a2 (wrap64 ((ji12) - 1)) y114 (wrap64 (x10_2 + 1))) else (none)) else (none)) = some r := by first | (rw [hji35] at H; exact H) | (simp only [hji35] at H ⊢; exact H)
                              (try rw [hji35] at A18)
                              have hji35w : (IntKind.i64.wrap (t109 + (a1.size : Int))) = ji35 := (i64_w _).trans hji35
                              by_cases c36 : 0 ≤ (ji35)
                              · rw [if_pos c36] at H
                                have c36b0 := eq_true c36
                                have c36b1 : decide (0 ≤ (ji35)) = true := decide_eq_true c36
                                clear c36
                                by_cases c37 : (ji35) ≤ (x0_2.size : Int)
                                · rw [if_pos c37] at H
                                  have c37b0 := eq_true c37
                                  have c37b1 : decide ((ji35) ≤ (x0_2.size : Int)) = true := decide_eq_true c37
                                  clear c37
                                  have H' := Aside0.mk H
                                  clear H
                                  go_wp2_with (first | ((with_reducible refine gate_callee (f := 47) rfl ?_); refine goesL_ (some 39) rfl rfl Tryd.func47 (by kernel_rfl) rfl #[.string x0_2, .string a1] rfl (by (try simp only [List.map_toArray, List.map_cons, List.map_nil]); first | done | rfl | (simp only [List.length_drop, List.length_take]; rfl) | (simp only [ByteArray.size_extract, Nat.min_self]; rfl)) ?_; (with_reducible refine (strings_Index.calls x0_2 a1 t109 _ A18.out).mono ?_); rintro e w' ⟨rfl, ⟨nd, rfl⟩⟩; refine ⟨_, rfl, ?_⟩; (try (rw [drewN_self wr]; generalize hq_ : World.drewN wr _ = wr; have n0_ : Aside0 (Kd.R Kd.string 9 wr w.heap.size (fun _ => True) v107 x9_2) := ⟨by rw [← hq_]; exact (by (with_reducible repeat (first | apply Kd.R_alloc | apply Kd.R_drewN | apply Kd.R_drew)); exact HO_9.out)⟩; have n1_ : Aside0 (Below w.heap.size w wr) := ⟨by rw [← hq_]; exact (by repeat (first | (with_reducible first | exact HB.out | apply below_alloc | apply pw_below_drewN | apply below_drew1) | exact HB.out))⟩; clear HO_9 HB hq_; have HO_9 := n0_; have HB := n1_; clear n0_ n1_)); have p34 : 0 ≤ (x10_2 : Int) := of_decide_eq_true (by first | (with_reducible assumption) | assumption); have q34 : (x10_2 : Int) < ((x9_2.length : Int) : Int) := of_decide_eq_true (by first | (with_reducible assumption) | assumption); obtain ⟨go34, co34, eo34, gb34, gl34, cl34, HG34⟩ := Kd.R_form HO_9.out (by omega); (first | cases eo34 | (injection eo34 with ea_ en_ ec_; (first | subst ea_ | (injection ea_ with ea_; subst ea_)); subst ec_; clear en_)); have GB34 := Aside0.mk gb34; have GG34 := Aside0.mk HG34; clear gb34 gl34 HG34; obtain ⟨hx34_0, hf34_0⟩ := Kd.R_celln (⟨#[]⟩ : ByteArray) HO_9.out (x10_2 : Int) p34 q34; replace p34 := eq_true p34; replace q34 := eq_true q34; obtain ⟨hy38_, hz38_⟩ := Kd.R_celln (⟨#[]⟩ : ByteArray) HO_9.out (x10_2 : Int) (of_decide_eq_true (by first | (with_reducible assumption) | assumption)) (of_decide_eq_true (by first | (with_reducible assumption) | assumption)); have HP38 := Kd.R_putg HO_9.out (x10_2 : Int) (x0_2.extract 0 ((ji29) : Int).toNat)) | ((with_reducible refine gate_store (t := 9) (p := 49) rfl ?_); refine store_event (t := 9) (p := 49) (v := ?vo_w39) (w1 := (wr.setCell ⟨go34, (x10_2 : Int).toNat, none⟩ (.string (x0_2.extract 0 ((ji29) : Int).toNat)))) ?hg ?ho ?hn ?hr ?_; (case ho => rfl); (case hg => rfl); (case hn => rfl); (case hr => first | (go_simp; done) | (go_simp; rfl)); intro w39 hw; have hg : wr.grownBy w39 (some go34) := (by rw [hw]; exact HP38.2); have hp_ : Kd.R Kd.string 9 w39 w.heap.size (fun _ => True) (.slice (some ⟨go34, 0, none⟩) x9_2.length co34) y114 := (by rw [hw, Ny114.out]; exact HP38.1); clear HP38; have n0_ := Aside0.mk (hp_); have n1_ := Aside0.mk ((by rw [hw]; exact below_set (HB.out) GB34.out : Below w.heap.size w w39)); clear HO_9; clear HB; have HO_9 := n0_; have HB := n1_; clear n0_ n1_; clear hg hw hp_))
                                  go_roundg k2
                                  case measure => have := HJ8.out; have := HK2.out; omega
                                  case rel => exact ⟨(x0_2.extract ((ji35) : Int).toNat x0_2.size), (y114), (wrap64 (x10_2 + 1)), (by first | rfl | (simp; done) | (simp only [← hji35] <;> (first | rfl | simp)) | (simp [*]; done)), (by first | rfl | (simp; done) | (simp [*]; done)), H', ⟨by have := HJ8.out; have := HK2.out; omega⟩, ⟨by (with_reducible repeat (first | apply Kd.R_alloc | apply Kd.R_drewN | apply Kd.R_drew)); exact HO_9.out⟩, ⟨by repeat (first | (with_reducible first | exact HB.out | apply below_alloc | apply pw_below_drewN | apply below_drew1) | exact HB.out)⟩⟩
                                · rw [if_neg c37] at H
                                  exact absurd H (by simp)
                              · rw [if_neg c36] at H
                                exact absurd H (by simp)
                            · rw [if_neg c33] at H
                              exact absurd H (by simp)
                          · rw [if_neg c32] at H
                            exact absurd H (by simp)
                        · rw [if_neg c31] at H
                          exact absurd H (by simp)
                      · rw [if_neg c30] at H
                        exact absurd H (by simp)
                  · rw [if_neg c17] at H
                    have c17b0 : decide (x10_2 < (wrap64 ((ji12) - 1))) = false := decide_eq_false c17
                    clear c17
                    by_cases c40 : 0 ≤ x10_2
                    · rw [if_pos c40] at H
                      have c40b0 : decide (0 ≤ x10_2) = true := decide_eq_true c40
                      clear c40
                      by_cases c41 : x10_2 < (x9_2.length : Int)
                      · rw [if_pos c41] at H
                        have c41b0 : decide (x10_2 < (x9_2.length : Int)) = true := decide_eq_true c41
                        clear c41
                        obtain ⟨y115, hy115⟩ : ∃ y_ : List ByteArray, y_ = (x9_2.set (x10_2 : Int).toNat x0_2) := ⟨_, rfl⟩
                        replace H : (if 0 ≤ (wrap64 (x10_2 + 1)) then (if (wrap64 (x10_2 + 1)) ≤ (x9_2.length : Int) then (some (y115.take ((wrap64 (x10_2 + 1)) : Int).toNat)) else (none)) else (none)) = some r := by first | (rw [hy115]; with_reducible exact H) | (have H2_ := (Option.bind_some _ _).symm.trans H; rw [hy115]; with_reducible exact H2_) | (have H2_ := (Option.bind_some _ _).symm.trans H; with_reducible exact H2_) | with_reducible exact H | (rw [hy115]; exact H) | exact H
                        have Ny115 := Aside0.mk hy115
                        clear hy115
                        obtain ⟨ji43, hji43⟩ : ∃ j_ : Int, (wrap64 (x10_2 + 1)) = j_ := ⟨_, rfl⟩
                        replace H : (if 0 ≤ (ji43) then (if (ji43) ≤ (x9_2.length : Int) then (some (y115.take ((ji43) : Int).toNat)) else (none)) else (none)) = some r := by first | (rw [hji43] at H; exact H) | (simp only [hji43] at H ⊢; exact H)
                        have hji43w : (IntKind.i64.wrap (x10_2 + 1)) = ji43 := (i64_w _).trans hji43
                        by_cases c44 : 0 ≤ (ji43)
                        · rw [if_pos c44] at H
                          have c44b0 := eq_true c44
                          have c44b1 : decide (0 ≤ (ji43)) = true := decide_eq_true c44
                          clear c44
                          by_cases c45 : (ji43) ≤ (x9_2.length : Int)
                          · rw [if_pos c45] at H
                            have c45b0 := eq_true c45
                            have c45b1 : decide ((ji43) ≤ (x9_2.length : Int)) = true := decide_eq_true c45
                            clear c45
                            obtain ⟨y116, hy116⟩ : ∃ y_ : List ByteArray, y_ = (y115.take ((ji43) : Int).toNat) := ⟨_, rfl⟩
                            replace H : (some y116) = some r := by first | (rw [hy116]; with_reducible exact H) | (have H2_ := (Option.bind_some _ _).symm.trans H; rw [hy116]; with_reducible exact H2_) | (have H2_ := (Option.bind_some _ _).symm.trans H; with_reducible exact H2_) | with_reducible exact H | (rw [hy116]; exact H) | exact H
                            have Ny116 := Aside0.mk hy116
                            clear hy116
                            obtain rfl := Option.some.inj H
                            have p42 : 0 ≤ (x10_2 : Int) := of_decide_eq_true (by first | (with_reducible assumption) | assumption)
                            have q42 : (x10_2 : Int) < ((x9_2.length : Int) : Int) := of_decide_eq_true (by first | (with_reducible assumption) | assumption)
                            obtain ⟨go42, co42, eo42, gb42, gl42, cl42, HG42⟩ := Kd.R_form HO_9.out (by omega)
                            (first | cases eo42 | (injection eo42 with ea_ en_ ec_; (first | subst ea_ | (injection ea_ with ea_; subst ea_)); subst ec_; clear en_))
                            have GB42 := Aside0.mk gb42
                            have GG42 := Aside0.mk HG42
                            clear gb42 gl42 HG42
                            obtain ⟨hx42_0, hf42_0⟩ := Kd.R_celln (⟨#[]⟩ : ByteArray) HO_9.out (x10_2 : Int) p42 q42
                            replace p42 := eq_true p42
                            replace q42 := eq_true q42
                            have HP46 := Kd.R_putg HO_9.out (x10_2 : Int) x0_2
                            go_wp2_with (first | ((with_reducible refine gate_store (t := 9) (p := 61) rfl ?_); refine store_event (t := 9) (p := 61) (v := ?vo_w47) (w1 := (wr.setCell ⟨go42, (x10_2 : Int).toNat, none⟩ (.string x0_2))) ?hg ?ho ?hn ?hr ?_; (case ho => rfl); (case hg => rfl); (case hn => rfl); (case hr => first | (go_simp; done) | (go_simp; rfl)); intro w47 hw; have hg : wr.grownBy w47 (some go42) := (by rw [hw]; exact HP46.2); have hp_ : Kd.R Kd.string 9 w47 w.heap.size (fun _ => True) (.slice (some ⟨go42, 0, none⟩) x9_2.length co42) y115 := (by rw [hw, Ny115.out]; exact HP46.1); clear HP46; have n0_ := Aside0.mk (hp_); have n1_ := Aside0.mk ((by rw [hw]; exact below_set (HB.out) GB42.out : Below w.heap.size w w47)); clear HO_9; clear HB; have HO_9 := n0_; have HB := n1_; clear n0_ n1_; clear hg hw hp_; have q48 : ((ji43) : Int) ≤ ((x9_2.length : Int) : Int) := of_decide_eq_true (by first | (with_reducible assumption) | assumption); obtain ⟨i048, hi048, _, hsz48, _⟩ := info_parts info9; have hcut48 := cut_to (P := Tryd.prog) 23 9 .i64 Tryd.underlying23 hi048 (some ⟨go42, 0, none⟩) x9_2.length co42 (ji43) (of_decide_eq_true (by first | (with_reducible assumption) | assumption)) q48 (Kd.R_reads' HO_9.out).2.1; have hr48 := Kd.R_take (m := ((ji43) : Int).toNat) HO_9.out (by first | omega | (have h0_ := congrArg List.length Ny115.out; (try simp only [List.length_set] at h0_); omega)); have hy48 : y116.length = ((ji43) : Int).toNat := (by rw [Ny116.out, List.length_take]; exact (show min _ _ = _ from (by first | omega | (have h0_ := congrArg List.length Ny115.out; (try simp only [List.length_set] at h0_); omega)))); rw [← Ny116.out] at hr48; rw [← hy48] at hr48 hcut48; clear hy48 hi048 hsz48 HO_9; have HO118 := Aside0.mk hr48; clear hr48; replace q48 := eq_true q48))
                            go_ret
                            exact ⟨_, by first | rfl | (simp [errW_none, errW_some] <;> rfl) | (simp only [← hji12, ← hji43]; first | rfl | (simp [errW_none, errW_some] <;> rfl)) | (simp [*, errW_none, errW_some] <;> rfl), by (with_reducible repeat (first | apply Kd.R_alloc | apply Kd.R_drewN | apply Kd.R_drew)); exact HO118.out, by repeat (first | (with_reducible first | exact HB.out | apply below_alloc | apply pw_below_drewN | apply below_drew1) | exact HB.out)⟩
                          · rw [if_neg c45] at H
                            exact absurd H (by simp)
                        · rw [if_neg c44] at H
                          exact absurd H (by simp)
                      · rw [if_neg c41] at H
                        exact absurd H (by simp)
                    · rw [if_neg c40] at H
                      exact absurd H (by simp)
            · rw [if_neg c14] at H
              exact absurd H (by simp)
          · rw [if_neg c13] at H
            exact absurd H (by simp)

/-! ### strings_Split: function 28 -/
def strings_Split.f (k : Nat) (a0 : ByteArray) (a1 : ByteArray) : Option (List ByteArray) := (strings_genSplit.f k a0 a1 0 (-1)).bind fun t119 => (some t119)
theorem strings_Split.mono : ∀ a0 a1 k, LeO (strings_Split.f k a0 a1) (strings_Split.f (k + 1) a0 a1) := by
  intro a0 a1 k
  unfold strings_Split.f
  repeat' first
      | (with_reducible exact strings_genSplit.mono _ _ _ _ _)
      | (with_reducible exact LeO.refl _)
      | (with_reducible exact LeO.none _)
      | (with_reducible refine LeO.ite ?_ ?_)
      | (with_reducible refine LeO.bind ?_ (fun _ => ?_))
      | exact strings_genSplit.mono _ _ _ _ _
      | exact LeO.none _
      | refine LeO.ite ?_ ?_
      | refine LeO.bind ?_ (fun _ => ?_)
set_option maxHeartbeats 8000000 in
set_option maxRecDepth 100000 in
theorem strings_Split.calls (k : Nat) (a0 : ByteArray) (a1 : ByteArray) (r : List ByteArray) (w : World) (h : strings_Split.f k a0 a1 = some r) :
    Calls Tryd.prog 28 #[.string a0, .string a1] w fun e w' => ∃ v0_ : Value, e = .returned (v0_) ∧ Kd.R Kd.string 9 w' w.heap.size (fun _ => True) v0_ r ∧ Below w.heap.size w w' := by
  have HB := Aside0.mk (Below.refl w.heap.size w)
  have H : ((strings_genSplit.f k a0 a1 0 (-1)).bind fun t119 => (some t119)) = some r := h
  clear h
  replace H := Option.bind_eq_some_iff.mp H
  obtain ⟨t119, A30, H⟩ := H
  replace H : (some t119) = some r := H
  have A3 := Aside0.mk A30
  clear A30
  obtain rfl := Option.some.inj H
  go_enter Tryd.func28, Tryd.ntmps28
  go_wp2_with (first | ((with_reducible refine gate_callee (f := 39) rfl ?_); refine goesL_ (some 7) rfl rfl Tryd.func39 (by kernel_rfl) rfl #[.string a0, .string a1, .int .i64 0, .int .i64 (-1)] rfl (by (try simp only [List.map_toArray, List.map_cons, List.map_nil]); first | done | rfl | (simp only [List.length_drop, List.length_take]; rfl)) ?_; (with_reducible refine (strings_genSplit.calls k a0 a1 0 (-1) t119 _ A3.out).mono ?_); rintro e w4 ⟨v120, rfl, ho0, hb⟩; refine ⟨_, rfl, ?_⟩; have n0_ := Aside0.mk (Kd.R_lower ho0 (below_size (by repeat (first | (with_reducible first | exact HB.out | apply below_alloc | apply pw_below_drewN | apply below_drew1) | exact HB.out)))); have n1_ := Aside0.mk (below_step (by repeat (first | (with_reducible first | exact HB.out | apply below_alloc | apply pw_below_drewN | apply below_drew1) | exact HB.out)) hb); clear HB; have HO121 := n0_; have HB := n1_; clear n0_ n1_; (try clear hb); (try clear hb2); (try clear hk); (try clear hi); (try clear ho0)))
  go_ret
  exact ⟨_, by first | rfl | (simp [errW_none, errW_some] <;> rfl) | (simp [*, errW_none, errW_some] <;> rfl), by (with_reducible repeat (first | apply Kd.R_alloc | apply Kd.R_drewN | apply Kd.R_drew)); exact HO121.out, by repeat (first | (with_reducible first | exact HB.out | apply below_alloc | apply pw_below_drewN | apply below_drew1) | exact HB.out)⟩

/-! ### percent_Segments: function 14 -/
def percent_Segments.f (k : Nat) (a0 : ByteArray) : Option (List ByteArray) := (strings_HasPrefix.f a0 (⟨#[47]⟩ : ByteArray)).bind fun t122 => (if t122 = true then (if 1 ≤ (a0.size : Int) then ((strings_Split.f k (a0.extract 1 a0.size) (⟨#[47]⟩ : ByteArray)).bind fun t123 => (some t123)) else (none)) else (some ([] : List ByteArray)))
theorem percent_Segments.mono : ∀ a0 k, LeO (percent_Segments.f k a0) (percent_Segments.f (k + 1) a0) := by
  intro a0 k
  unfold percent_Segments.f
  repeat' first
      | (with_reducible exact strings_Split.mono _ _ _)
      | (with_reducible exact LeO.refl _)
      | (with_reducible exact LeO.none _)
      | (with_reducible refine LeO.ite ?_ ?_)
      | (with_reducible refine LeO.bind ?_ (fun _ => ?_))
      | exact strings_Split.mono _ _ _
      | exact LeO.none _
      | refine LeO.ite ?_ ?_
      | refine LeO.bind ?_ (fun _ => ?_)
set_option maxHeartbeats 8000000 in
set_option maxRecDepth 100000 in
theorem percent_Segments.calls (k : Nat) (a0 : ByteArray) (r : List ByteArray) (w : World) (h : percent_Segments.f k a0 = some r) :
    Calls Tryd.prog 14 #[.string a0] w fun e w' => ∃ v0_ : Value, e = .returned (v0_) ∧ Kd.R Kd.string 9 w' w.heap.size (fun _ => True) v0_ r ∧ Below w.heap.size w w' := by
  have HB := Aside0.mk (Below.refl w.heap.size w)
  have H : ((strings_HasPrefix.f a0 (⟨#[47]⟩ : ByteArray)).bind fun t122 => (if t122 = true then (if 1 ≤ (a0.size : Int) then ((strings_Split.f k (a0.extract 1 a0.size) (⟨#[47]⟩ : ByteArray)).bind fun t123 => (some t123)) else (none)) else (some ([] : List ByteArray)))) = some r := h
  clear h
  replace H := Option.bind_eq_some_iff.mp H
  obtain ⟨t122, A20, H⟩ := H
  replace H : (if t122 = true then (if 1 ≤ (a0.size : Int) then ((strings_Split.f k (a0.extract 1 a0.size) (⟨#[47]⟩ : ByteArray)).bind fun t123 => (some t123)) else (none)) else (some ([] : List ByteArray))) = some r := H
  have A2 := Aside0.mk A20
  clear A20
  by_cases c3 : t122 = true
  · subst c3
    have H1 : (if 1 ≤ (a0.size : Int) then ((strings_Split.f k (a0.extract 1 a0.size) (⟨#[47]⟩ : ByteArray)).bind fun t123 => (some t123)) else (none)) = some r := by rw [if_pos rfl] at H; exact H
    clear H
    have H := H1
    clear H1
    by_cases c4 : 1 ≤ (a0.size : Int)
    · rw [if_pos c4] at H
      have c4b0 := eq_true c4
      have c4b1 : decide (1 ≤ (a0.size : Int)) = true := decide_eq_true c4
      clear c4
      replace H := Option.bind_eq_some_iff.mp H
      obtain ⟨t123, A50, H⟩ := H
      replace H : (some t123) = some r := H
      have A5 := Aside0.mk A50
      clear A50
      obtain rfl := Option.some.inj H
      go_enter Tryd.func14, Tryd.ntmps14
      go_wp2_with (first | ((with_reducible refine gate_callee (f := 20) rfl ?_); refine goesL_ (some 4) rfl rfl Tryd.func20 (by kernel_rfl) rfl #[.string a0, .string (⟨#[47]⟩ : ByteArray)] rfl (by (try simp only [List.map_toArray, List.map_cons, List.map_nil]); first | done | rfl | (simp only [List.length_drop, List.length_take]; rfl) | (simp only [ByteArray.size_extract, Nat.min_self]; rfl)) ?_; (with_reducible refine (strings_HasPrefix.calls a0 (⟨#[47]⟩ : ByteArray) true _ A2.out).mono ?_); rintro e w' ⟨rfl, ⟨nd, rfl⟩⟩; refine ⟨_, rfl, ?_⟩) | ((with_reducible refine gate_callee (f := 28) rfl ?_); refine goesL_ (some 8) rfl rfl Tryd.func28 (by kernel_rfl) rfl #[.string (a0.extract 1 a0.size), .string (⟨#[47]⟩ : ByteArray)] rfl (by (try simp only [List.map_toArray, List.map_cons, List.map_nil]); first | done | rfl | (simp only [List.length_drop, List.length_take]; rfl) | (simp only [ByteArray.size_extract, Nat.min_self]; rfl)) ?_; (with_reducible refine (strings_Split.calls k (a0.extract 1 a0.size) (⟨#[47]⟩ : ByteArray) t123 _ A5.out).mono ?_); rintro e w6 ⟨v124, rfl, ho0, hb⟩; refine ⟨_, rfl, ?_⟩; have n0_ := Aside0.mk (Kd.R_lower ho0 (below_size (by repeat (first | (with_reducible first | exact HB.out | apply below_alloc | apply pw_below_drewN | apply below_drew1) | exact HB.out)))); have n1_ := Aside0.mk (below_step (by repeat (first | (with_reducible first | exact HB.out | apply below_alloc | apply pw_below_drewN | apply below_drew1) | exact HB.out)) hb); clear HB; have HO125 := n0_; have HB := n1_; clear n0_ n1_; (try clear hb); (try clear hb2); (try clear hk); (try clear hi); (try clear ho0)))
      go_ret
      exact ⟨_, by first | rfl | (simp [errW_none, errW_some] <;> rfl) | (simp [*, errW_none, errW_some] <;> rfl), by (with_reducible repeat (first | apply Kd.R_alloc | apply Kd.R_drewN | apply Kd.R_drew)); exact HO125.out, by repeat (first | (with_reducible first | exact HB.out | apply below_alloc | apply pw_below_drewN | apply below_drew1) | exact HB.out)⟩
    · rw [if_neg c4] at H
      exact absurd H (by simp)
  · replace c3 := Bool.eq_false_iff.mpr c3
    subst c3
    have H1 : (some ([] : List ByteArray)) = some r := by rw [if_neg (show ¬ (false = true) by decide)] at H; exact H
    clear H
    have H := H1
    clear H1
    obtain rfl := Option.some.inj H
    go_enter Tryd.func14, Tryd.ntmps14
    go_wp2_with (first | ((with_reducible refine gate_callee (f := 20) rfl ?_); refine goesL_ (some 4) rfl rfl Tryd.func20 (by kernel_rfl) rfl #[.string a0, .string (⟨#[47]⟩ : ByteArray)] rfl (by (try simp only [List.map_toArray, List.map_cons, List.map_nil]); first | done | rfl | (simp only [List.length_drop, List.length_take]; rfl)) ?_; (with_reducible refine (strings_HasPrefix.calls a0 (⟨#[47]⟩ : ByteArray) false _ A2.out).mono ?_); rintro e w' ⟨rfl, ⟨nd, rfl⟩⟩; refine ⟨_, rfl, ?_⟩))
    go_ret
    exact ⟨_, by first | rfl | (simp [errW_none, errW_some] <;> rfl) | (simp [*, errW_none, errW_some] <;> rfl), by first | exact Kd.R_nil _ _ _ _ _ | exact Kd.N_nil _ _ _ _ _ | exact Kd.V_nil _ _ _ _ _ | exact Kd.Q_nil _ _ _ _ _ | exact Kd.S_nil _ _ _ _ _, by repeat (first | (with_reducible first | exact HB.out | apply below_alloc | apply pw_below_drewN | apply below_drew1) | exact HB.out)⟩

/-! ### percent_Dots: function 16 -/
def percent_Dots.l0 : Nat → List ByteArray → List ByteArray → List ByteArray → Int → Int → Option (List ByteArray)
  | 0, _, _, _, _, _ => none
  | k + 1, x0, x3, x6, x7, x8 => if x8 < x7 then (if 0 ≤ x8 then (if x8 < (x6.length : Int) then (if (rdOf ByteArray.empty x6 x8).toList = ([46, 46] : List UInt8) then (if 0 ≤ (mx (wrap64 ((x3.length : Int) - 1)) 0) then (if (mx (wrap64 ((x3.length : Int) - 1)) 0) ≤ (x3.length : Int) then ((some (x3.take ((mx (wrap64 ((x3.length : Int) - 1)) 0) : Int).toNat : List ByteArray)).bind fun y130 => (if x8 = (wrap64 ((x0.length : Int) - 1)) then (if y130.length < 8796093022208 then (percent_Dots.l0 k x0 (y130 ++ [(⟨#[]⟩ : ByteArray)]) x6 x7 (wrap64 (x8 + 1))) else (none)) else (percent_Dots.l0 k x0 y130 x6 x7 (wrap64 (x8 + 1))))) else (none)) else (none)) else (if (rdOf ByteArray.empty x6 x8).toList = ([46] : List UInt8) then (if x8 = (wrap64 ((x0.length : Int) - 1)) then (if x3.length < 8796093022208 then (percent_Dots.l0 k x0 (x3 ++ [(⟨#[]⟩ : ByteArray)]) x6 x7 (wrap64 (x8 + 1))) else (none)) else (percent_Dots.l0 k x0 x3 x6 x7 (wrap64 (x8 + 1)))) else (if x3.length < 8796093022208 then (percent_Dots.l0 k x0 (x3 ++ [rdOf ByteArray.empty x6 x8]) x6 x7 (wrap64 (x8 + 1))) else (none)))) else (none)) else (none)) else (if (x3.length : Int) = 0 then (if x3.length < 8796093022208 then (some (x3 ++ [(⟨#[]⟩ : ByteArray)])) else (none)) else (some x3))
def percent_Dots.f (k : Nat) (l0 : List ByteArray) : Option (List ByteArray) := percent_Dots.l0 k l0 ([] : List ByteArray) l0 (l0.length : Int) 0
theorem percent_Dots.mono_l : ∀ k, (∀ y0 y1 y2 y3 y4, LeO (percent_Dots.l0 k y0 y1 y2 y3 y4) (percent_Dots.l0 (k + 1) y0 y1 y2 y3 y4))
  | 0 => fun _ _ _ _ _ r h => by simp [percent_Dots.l0] at h
  | k + 1 => by
    have ih0 := percent_Dots.mono_l k
    · intro y0 y1 y2 y3 y4
      unfold percent_Dots.l0
      repeat' first
      | (with_reducible exact ih0 _ _ _ _ _)
      | (with_reducible exact LeO.refl _)
      | (with_reducible exact LeO.none _)
      | (with_reducible refine LeO.ite ?_ ?_)
      | (with_reducible refine LeO.bind ?_ (fun _ => ?_))
      | exact ih0 _ _ _ _ _
      | exact LeO.none _
      | refine LeO.ite ?_ ?_
      | refine LeO.bind ?_ (fun _ => ?_)
theorem percent_Dots.mono : ∀ a0 k, LeO (percent_Dots.f k a0) (percent_Dots.f (k + 1) a0) := by
  intro a0 k
  have ih0 := percent_Dots.mono_l k
  unfold percent_Dots.f
  repeat' first
      | (with_reducible exact ih0 _ _ _ _ _)
      | (with_reducible exact LeO.refl _)
      | (with_reducible exact LeO.none _)
      | (with_reducible refine LeO.ite ?_ ?_)
      | (with_reducible refine LeO.bind ?_ (fun _ => ?_))
      | exact ih0 _ _ _ _ _
      | exact LeO.none _
      | refine LeO.ite ?_ ?_
      | refine LeO.bind ?_ (fun _ => ?_)
set_option maxHeartbeats 8000000 in
set_option maxRecDepth 100000 in
theorem percent_Dots.calls (k : Nat) (A0 : Option Addr) (c0 : Nat) (l0 : List ByteArray) (r : List ByteArray) (w : World) (hr0 : Kd.C Kd.string w A0 l0.length l0) (hc0 : l0.length ≤ c0) (h : percent_Dots.f k l0 = some r) :
    Calls Tryd.prog 16 #[.slice A0 l0.length c0] w fun e w' => ∃ v0_ : Value, e = .returned (v0_) ∧ Kd.R Kd.string 9 w' w.heap.size (fun _ => True) v0_ r ∧ Below w.heap.size w w' := by
  have HR0 := Aside0.mk hr0
  have HC0 := Aside0.mk hc0
  clear hr0 hc0
  have HB := Aside0.mk (Below.refl w.heap.size w)
  have H : (percent_Dots.l0 k l0 ([] : List ByteArray) l0 (l0.length : Int) 0) = some r := h
  clear h
  have H' := Aside0.mk H
  clear H
  go_enter Tryd.func16, Tryd.ntmps16
  go_wp2
  go_loopg [3, 8] k (fun kq v3 v8 w' => ∃ (x3_1 : List ByteArray) (x8_1 : Int), v8 = .int .i64 x8_1 ∧ Aside0 (percent_Dots.l0 kq l0 x3_1 l0 (l0.length : Int) x8_1 = some r) ∧ Aside0 (kq ≤ k) ∧ Aside0 (Kd.R Kd.string 9 w' w.heap.size (fun _ => True) v3 x3_1) ∧ Aside0 (Below w.heap.size w w'))
  case atStart => exact ⟨(([] : List ByteArray)), (0), (by first | rfl | (simp; done) | (simp [*]; done)), H', ⟨Nat.le_refl _⟩, ⟨by first | exact Kd.R_nil _ _ _ _ _ | exact Kd.N_nil _ _ _ _ _ | exact Kd.V_nil _ _ _ _ _ | exact Kd.Q_nil _ _ _ _ _ | exact Kd.S_nil _ _ _ _ _⟩, ⟨by repeat (first | (with_reducible first | exact HB.out | apply below_alloc | apply pw_below_drewN | apply below_drew1) | exact HB.out)⟩⟩
  case round =>
    clear H'
    try clear c1
    obtain ⟨x3_1, x8_1, rfl, HA, HK1, HO_3, HB⟩ := hrel
    cases gk with
    | zero => exact absurd HA.out (by simp [percent_Dots.l0])
    | succ k1 =>
      have H := HA.out
      clear HA
      simp only [percent_Dots.l0] at H
      by_cases c2 : x8_1 < (l0.length : Int)
      · rw [if_pos c2] at H
        have c2b0 : decide (x8_1 < (l0.length : Int)) = true := decide_eq_true c2
        clear c2
        by_cases c3 : 0 ≤ x8_1
        · rw [if_pos c3] at H
          have c3b0 : decide (0 ≤ x8_1) = true := decide_eq_true c3
          clear c3
          by_cases c4 : x8_1 < (l0.length : Int)
          · rw [if_pos c4] at H
            have c4b0 : decide (x8_1 < (l0.length : Int)) = true := decide_eq_true c4
            clear c4
            by_cases c5 : (rdOf ByteArray.empty l0 x8_1).toList = ([46, 46] : List UInt8)
            · rw [if_pos c5] at H
              have c5b0 : ((rdOf ByteArray.empty l0 x8_1).toList == ([46, 46] : List UInt8)) = true := beq_iff_eq.mpr c5
              have c5b1 : ((rdOf ByteArray.empty l0 x8_1).toList != ([46, 46] : List UInt8)) = false := bne_eq_false_iff_eq.mpr c5
              clear c5
              obtain ⟨ji6, hji6⟩ : ∃ j_ : Int, (mx (wrap64 ((x3_1.length : Int) - 1)) 0) = j_ := ⟨_, rfl⟩
              replace H : (if 0 ≤ (ji6) then (if (ji6) ≤ (x3_1.length : Int) then ((some (x3_1.take ((ji6) : Int).toNat : List ByteArray)).bind fun y130 => (if x8_1 = (wrap64 ((l0.length : Int) - 1)) then (if y130.length < 8796093022208 then (percent_Dots.l0 k1 l0 (y130 ++ [(⟨#[]⟩ : ByteArray)]) l0 (l0.length : Int) (wrap64 (x8_1 + 1))) else (none)) else (percent_Dots.l0 k1 l0 y130 l0 (l0.length : Int) (wrap64 (x8_1 + 1))))) else (none)) else (none)) = some r := by first | (rw [hji6] at H; exact H) | (simp only [hji6] at H ⊢; exact H)
              have hji6_ : (if (wrap64 ((x3_1.length : Int) - 1)) < 0 then 0 else (wrap64 ((x3_1.length : Int) - 1))) = ji6 := hji6
              by_cases c7 : 0 ≤ (ji6)
              · rw [if_pos c7] at H
                have c7b0 := eq_true c7
                have c7b1 : decide (0 ≤ (ji6)) = true := decide_eq_true c7
                clear c7
                by_cases c8 : (ji6) ≤ (x3_1.length : Int)
                · rw [if_pos c8] at H
                  have c8b0 := eq_true c8
                  have c8b1 : decide ((ji6) ≤ (x3_1.length : Int)) = true := decide_eq_true c8
                  clear c8
                  obtain ⟨y130, hy130⟩ : ∃ y_ : List ByteArray, y_ = (x3_1.take ((ji6) : Int).toNat) := ⟨_, rfl⟩
                  replace H : (if x8_1 = (wrap64 ((l0.length : Int) - 1)) then (if y130.length < 8796093022208 then (percent_Dots.l0 k1 l0 (y130 ++ [(⟨#[]⟩ : ByteArray)]) l0 (l0.length : Int) (wrap64 (x8_1 + 1))) else (none)) else (percent_Dots.l0 k1 l0 y130 l0 (l0.length : Int) (wrap64 (x8_1 + 1)))) = some r := by first | (rw [hy130]; with_reducible exact H) | (have H2_ := (Option.bind_some _ _).symm.trans H; rw [hy130]; with_reducible exact H2_) | (have H2_ := (Option.bind_some _ _).symm.trans H; with_reducible exact H2_) | with_reducible exact H | (rw [hy130]; exact H) | exact H
                  have Ny130 := Aside0.mk hy130
                  clear hy130
                  by_cases c9 : x8_1 = (wrap64 ((l0.length : Int) - 1))
                  · rw [if_pos c9] at H
                    have c9b0 : (x8_1 == (wrap64 ((l0.length : Int) - 1))) = true := beq_iff_eq.mpr c9
                    have c9b1 : (x8_1 != (wrap64 ((l0.length : Int) - 1))) = false := bne_eq_false_iff_eq.mpr c9
                    clear c9
                    by_cases c10 : y130.length < 8796093022208
                    · rw [if_pos c10] at H
                      have LMc10 := Aside0.mk c10
                      clear c10
                      obtain ⟨y133, hy133⟩ : ∃ y_ : List ByteArray, y_ = (y130 ++ [(⟨#[]⟩ : ByteArray)]) := ⟨_, rfl⟩
                      replace H : (percent_Dots.l0 k1 l0 y133 l0 (l0.length : Int) (wrap64 (x8_1 + 1))) = some r := by first | (rw [hy133]; with_reducible exact H) | (have H2_ := (Option.bind_some _ _).symm.trans H; rw [hy133]; with_reducible exact H2_) | (have H2_ := (Option.bind_some _ _).symm.trans H; with_reducible exact H2_) | with_reducible exact H | (rw [hy133]; exact H) | exact H
                      have Ny133 := Aside0.mk hy133
                      clear hy133
                      have H' := Aside0.mk H
                      clear H
                      have p129 : 0 ≤ (x8_1 : Int) := of_decide_eq_true (by first | (with_reducible assumption) | assumption)
                      have q129 : x8_1 < (l0.length : Int) := of_decide_eq_true (by first | (with_reducible assumption) | assumption)
                      obtain ⟨ad129, e129, hx129_0⟩ := Kd.at_string HR0.out x8_1 p129 q129
                      cases e129
                      replace hx129_0 := (HB.out.cell (World.block_lt_of_cell? w _ hx129_0)).trans hx129_0
                      replace p129 := eq_true p129
                      replace q129 := eq_true q129
                      obtain ⟨Ao11, co11, eo11⟩ := Kd.R_slice HO_3.out
                      subst eo11
                      have q12 : ((ji6) : Int) ≤ ((x3_1.length : Int) : Int) := of_decide_eq_true (by first | (with_reducible assumption) | assumption)
                      obtain ⟨i012, hi012, _, hsz12, _⟩ := info_parts info9
                      have hcut12 := cut_to (P := Tryd.prog) 23 9 .i64 Tryd.underlying23 hi012 Ao11 x3_1.length co11 (ji6) (of_decide_eq_true (by first | (with_reducible assumption) | assumption)) q12 (Kd.R_reads' HO_3.out).2.1
                      have hr12 := Kd.R_take (m := ((ji6) : Int).toNat) HO_3.out (by omega)
                      have hy12 : y130.length = ((ji6) : Int).toNat := (by rw [Ny130.out, List.length_take]; exact (show min _ _ = _ from (by omega)))
                      rw [← Ny130.out] at hr12
                      rw [← hy12] at hr12 hcut12
                      clear hy12 hi012 hsz12 HO_3
                      have HO132 := Aside0.mk hr12
                      clear hr12
                      replace q12 := eq_true q12
                      go_wp2_with (first | ((with_reducible refine gate_builtin (b := .append) (xs := #[.tmp 33, .tmp 34]) rfl ?_); at_builtin; refine Kd.R_append Kd.string (w0 := w) w.heap.size rfl (.tmp 33) (.tmp 34) 23 9 (.string ⟨#[]⟩) 16 rfl Tryd.underlying23 info9 rfl (by decide) (by omega) (.slice Ao11 y130.length co11) y130 (⟨#[]⟩ : ByteArray) [.string (⟨#[]⟩ : ByteArray)] (fun _ => True) (fun _ => False) rfl rfl ?aP (fun _ hk => hk.elim) ?aF ?aO ?aB ?aS ?aL ?_; (case aP => exact rfl); (case aB => exact (by repeat (first | (with_reducible first | exact HB.out | apply below_alloc | apply pw_below_drewN | apply below_drew1) | exact HB.out))); (case aF => exact (fun _ _ => trivial)); (case aO => exact (by (with_reducible repeat (first | apply Kd.R_alloc | apply Kd.R_drewN | apply Kd.R_drew)); exact HO132.out)); (case aS => exact (below_size (by repeat (first | (with_reducible first | exact HB.out | apply below_alloc | apply pw_below_drewN | apply below_drew1) | exact HB.out)))); (case aL => have := LMc10.out; omega); intro v134 w13 ho hb hg hat; rw [← Ny133.out] at ho; have n0_ := Aside0.mk (hb); have n1_ := Aside0.mk (ho); clear HB; clear HO132; have HB := n0_; have HO135 := n1_; clear n0_ n1_; clear ho hb hg hat))
                      go_roundg k1
                      case measure => have := HK1.out; omega
                      case rel => exact ⟨(y133), (wrap64 (x8_1 + 1)), (by first | rfl | (simp; done) | (simp [*]; done)), H', ⟨by have := HK1.out; omega⟩, ⟨by (with_reducible repeat (first | apply Kd.R_alloc | apply Kd.R_drewN | apply Kd.R_drew)); exact HO135.out⟩, ⟨by repeat (first | (with_reducible first | exact HB.out | apply below_alloc | apply pw_below_drewN | apply below_drew1) | exact HB.out)⟩⟩
                    · rw [if_neg c10] at H
                      exact absurd H (by simp)
                  · rw [if_neg c9] at H
                    have c9b0 : (x8_1 == (wrap64 ((l0.length : Int) - 1))) = false := beq_eq_false_iff_ne.mpr c9
                    have c9b1 : (x8_1 != (wrap64 ((l0.length : Int) - 1))) = true := bne_iff_ne.mpr c9
                    have H' := Aside0.mk H
                    clear H
                    have p129 : 0 ≤ (x8_1 : Int) := of_decide_eq_true (by first | (with_reducible assumption) | assumption)
                    have q129 : x8_1 < (l0.length : Int) := of_decide_eq_true (by first | (with_reducible assumption) | assumption)
                    obtain ⟨ad129, e129, hx129_0⟩ := Kd.at_string HR0.out x8_1 p129 q129
                    cases e129
                    replace hx129_0 := (HB.out.cell (World.block_lt_of_cell? w _ hx129_0)).trans hx129_0
                    replace p129 := eq_true p129
                    replace q129 := eq_true q129
                    obtain ⟨Ao14, co14, eo14⟩ := Kd.R_slice HO_3.out
                    subst eo14
                    have q15 : ((ji6) : Int) ≤ ((x3_1.length : Int) : Int) := of_decide_eq_true (by first | (with_reducible assumption) | assumption)
                    obtain ⟨i015, hi015, _, hsz15, _⟩ := info_parts info9
                    have hcut15 := cut_to (P := Tryd.prog) 23 9 .i64 Tryd.underlying23 hi015 Ao14 x3_1.length co14 (ji6) (of_decide_eq_true (by first | (with_reducible assumption) | assumption)) q15 (Kd.R_reads' HO_3.out).2.1
                    have hr15 := Kd.R_take (m := ((ji6) : Int).toNat) HO_3.out (by omega)
                    have hy15 : y130.length = ((ji6) : Int).toNat := (by rw [Ny130.out, List.length_take]; exact (show min _ _ = _ from (by omega)))
                    rw [← Ny130.out] at hr15
                    rw [← hy15] at hr15 hcut15
                    clear hy15 hi015 hsz15 HO_3
                    have HO132 := Aside0.mk hr15
                    clear hr15
                    replace q15 := eq_true q15
                    go_wp2
                    go_roundg k1
                    case measure => have := HK1.out; omega
                    case rel => exact ⟨(y130), (wrap64 (x8_1 + 1)), (by first | rfl | (simp; done) | (simp [*]; done)), H', ⟨by have := HK1.out; omega⟩, ⟨by (with_reducible repeat (first | apply Kd.R_alloc | apply Kd.R_drewN | apply Kd.R_drew)); exact HO132.out⟩, ⟨by repeat (first | (with_reducible first | exact HB.out | apply below_alloc | apply pw_below_drewN | apply below_drew1) | exact HB.out)⟩⟩
                · rw [if_neg c8] at H
                  exact absurd H (by simp)
              · rw [if_neg c7] at H
                exact absurd H (by simp)
            · rw [if_neg c5] at H
              have c5b0 : ((rdOf ByteArray.empty l0 x8_1).toList == ([46, 46] : List UInt8)) = false := beq_eq_false_iff_ne.mpr c5
              have c5b1 : ((rdOf ByteArray.empty l0 x8_1).toList != ([46, 46] : List UInt8)) = true := bne_iff_ne.mpr c5
              by_cases c16 : (rdOf ByteArray.empty l0 x8_1).toList = ([46] : List UInt8)
              · rw [if_pos c16] at H
                have c16b0 : ((rdOf ByteArray.empty l0 x8_1).toList == ([46] : List UInt8)) = true := beq_iff_eq.mpr c16
                have c16b1 : ((rdOf ByteArray.empty l0 x8_1).toList != ([46] : List UInt8)) = false := bne_eq_false_iff_eq.mpr c16
                clear c16
                by_cases c17 : x8_1 = (wrap64 ((l0.length : Int) - 1))
                · rw [if_pos c17] at H
                  have c17b0 : (x8_1 == (wrap64 ((l0.length : Int) - 1))) = true := beq_iff_eq.mpr c17
                  have c17b1 : (x8_1 != (wrap64 ((l0.length : Int) - 1))) = false := bne_eq_false_iff_eq.mpr c17
                  clear c17
                  by_cases c18 : x3_1.length < 8796093022208
                  · rw [if_pos c18] at H
                    have LMc18 := Aside0.mk c18
                    clear c18
                    obtain ⟨y136, hy136⟩ : ∃ y_ : List ByteArray, y_ = (x3_1 ++ [(⟨#[]⟩ : ByteArray)]) := ⟨_, rfl⟩
                    replace H : (percent_Dots.l0 k1 l0 y136 l0 (l0.length : Int) (wrap64 (x8_1 + 1))) = some r := by first | (rw [hy136]; with_reducible exact H) | (have H2_ := (Option.bind_some _ _).symm.trans H; rw [hy136]; with_reducible exact H2_) | (have H2_ := (Option.bind_some _ _).symm.trans H; with_reducible exact H2_) | with_reducible exact H | (rw [hy136]; exact H) | exact H
                    have Ny136 := Aside0.mk hy136
                    clear hy136
                    have H' := Aside0.mk H
                    clear H
                    have p129 : 0 ≤ (x8_1 : Int) := of_decide_eq_true (by first | (with_reducible assumption) | assumption)
                    have q129 : x8_1 < (l0.length : Int) := of_decide_eq_true (by first | (with_reducible assumption) | assumption)
                    obtain ⟨ad129, e129, hx129_0⟩ := Kd.at_string HR0.out x8_1 p129 q129
                    cases e129
                    replace hx129_0 := (HB.out.cell (World.block_lt_of_cell? w _ hx129_0)).trans hx129_0
                    replace p129 := eq_true p129
                    replace q129 := eq_true q129
                    go_wp2_with (first | ((with_reducible refine gate_builtin (b := .append) (xs := #[.tmp 33, .tmp 34]) rfl ?_); at_builtin; refine Kd.R_append Kd.string (w0 := w) w.heap.size rfl (.tmp 33) (.tmp 34) 23 9 (.string ⟨#[]⟩) 16 rfl Tryd.underlying23 info9 rfl (by decide) (by omega) u3 x3_1 (⟨#[]⟩ : ByteArray) [.string (⟨#[]⟩ : ByteArray)] (fun _ => True) (fun _ => False) rfl rfl ?aP (fun _ hk => hk.elim) ?aF ?aO ?aB ?aS ?aL ?_; (case aP => exact rfl); (case aB => exact (by repeat (first | (with_reducible first | exact HB.out | apply below_alloc | apply pw_below_drewN | apply below_drew1) | exact HB.out))); (case aF => exact (fun _ _ => trivial)); (case aO => exact (by (with_reducible repeat (first | apply Kd.R_alloc | apply Kd.R_drewN | apply Kd.R_drew)); exact HO_3.out)); (case aS => exact (below_size (by repeat (first | (with_reducible first | exact HB.out | apply below_alloc | apply pw_below_drewN | apply below_drew1) | exact HB.out)))); (case aL => have := LMc18.out; omega); intro v137 w19 ho hb hg hat; rw [← Ny136.out] at ho; have n0_ := Aside0.mk (hb); have n1_ := Aside0.mk (ho); clear HB; clear HO_3; have HB := n0_; have HO138 := n1_; clear n0_ n1_; clear ho hb hg hat))
                    go_roundg k1
                    case measure => have := HK1.out; omega
                    case rel => exact ⟨(y136), (wrap64 (x8_1 + 1)), (by first | rfl | (simp; done) | (simp [*]; done)), H', ⟨by have := HK1.out; omega⟩, ⟨by (with_reducible repeat (first | apply Kd.R_alloc | apply Kd.R_drewN | apply Kd.R_drew)); exact HO138.out⟩, ⟨by repeat (first | (with_reducible first | exact HB.out | apply below_alloc | apply pw_below_drewN | apply below_drew1) | exact HB.out)⟩⟩
                  · rw [if_neg c18] at H
                    exact absurd H (by simp)
                · rw [if_neg c17] at H
                  have c17b0 : (x8_1 == (wrap64 ((l0.length : Int) - 1))) = false := beq_eq_false_iff_ne.mpr c17
                  have c17b1 : (x8_1 != (wrap64 ((l0.length : Int) - 1))) = true := bne_iff_ne.mpr c17
                  have H' := Aside0.mk H
                  clear H
                  have p129 : 0 ≤ (x8_1 : Int) := of_decide_eq_true (by first | (with_reducible assumption) | assumption)
                  have q129 : x8_1 < (l0.length : Int) := of_decide_eq_true (by first | (with_reducible assumption) | assumption)
                  obtain ⟨ad129, e129, hx129_0⟩ := Kd.at_string HR0.out x8_1 p129 q129
                  cases e129
                  replace hx129_0 := (HB.out.cell (World.block_lt_of_cell? w _ hx129_0)).trans hx129_0
                  replace p129 := eq_true p129
                  replace q129 := eq_true q129
                  go_wp2
                  go_roundg k1
                  case measure => have := HK1.out; omega
                  case rel => exact ⟨(x3_1), (wrap64 (x8_1 + 1)), (by first | rfl | (simp; done) | (simp [*]; done)), H', ⟨by have := HK1.out; omega⟩, ⟨by (with_reducible repeat (first | apply Kd.R_alloc | apply Kd.R_drewN | apply Kd.R_drew)); exact HO_3.out⟩, ⟨by repeat (first | (with_reducible first | exact HB.out | apply below_alloc | apply pw_below_drewN | apply below_drew1) | exact HB.out)⟩⟩
              · rw [if_neg c16] at H
                have c16b0 : ((rdOf ByteArray.empty l0 x8_1).toList == ([46] : List UInt8)) = false := beq_eq_false_iff_ne.mpr c16
                have c16b1 : ((rdOf ByteArray.empty l0 x8_1).toList != ([46] : List UInt8)) = true := bne_iff_ne.mpr c16
                by_cases c20 : x3_1.length < 8796093022208
                · rw [if_pos c20] at H
                  have LMc20 := Aside0.mk c20
                  clear c20
                  obtain ⟨y139, hy139⟩ : ∃ y_ : List ByteArray, y_ = (x3_1 ++ [rdOf ByteArray.empty l0 x8_1]) := ⟨_, rfl⟩
                  replace H : (percent_Dots.l0 k1 l0 y139 l0 (l0.length : Int) (wrap64 (x8_1 + 1))) = some r := by first | (rw [hy139]; with_reducible exact H) | (have H2_ := (Option.bind_some _ _).symm.trans H; rw [hy139]; with_reducible exact H2_) | (have H2_ := (Option.bind_some _ _).symm.trans H; with_reducible exact H2_) | with_reducible exact H | (rw [hy139]; exact H) | exact H
                  have Ny139 := Aside0.mk hy139
                  clear hy139
                  have H' := Aside0.mk H
                  clear H
                  have p129 : 0 ≤ (x8_1 : Int) := of_decide_eq_true (by first | (with_reducible assumption) | assumption)
                  have q129 : x8_1 < (l0.length : Int) := of_decide_eq_true (by first | (with_reducible assumption) | assumption)
                  obtain ⟨ad129, e129, hx129_0⟩ := Kd.at_string HR0.out x8_1 p129 q129
                  cases e129
                  replace hx129_0 := (HB.out.cell (World.block_lt_of_cell? w _ hx129_0)).trans hx129_0
                  replace p129 := eq_true p129
                  replace q129 := eq_true q129
                  go_wp2_with (first | ((with_reducible refine gate_builtin (b := .append) (xs := #[.tmp 14, .tmp 16]) rfl ?_); at_builtin; refine Kd.R_append Kd.string (w0 := w) w.heap.size rfl (.tmp 14) (.tmp 16) 23 9 (.string ⟨#[]⟩) 16 rfl Tryd.underlying23 info9 rfl (by decide) (by omega) u3 x3_1 (rdOf ByteArray.empty l0 x8_1) [.string (rdOf ByteArray.empty l0 x8_1)] (fun _ => True) (fun _ => False) rfl rfl ?aP (fun _ hk => hk.elim) ?aF ?aO ?aB ?aS ?aL ?_; (case aP => exact rfl); (case aB => exact (by repeat (first | (with_reducible first | exact HB.out | apply below_alloc | apply pw_below_drewN | apply below_drew1) | exact HB.out))); (case aF => exact (fun _ _ => trivial)); (case aO => exact (by (with_reducible repeat (first | apply Kd.R_alloc | apply Kd.R_drewN | apply Kd.R_drew)); exact HO_3.out)); (case aS => exact (below_size (by repeat (first | (with_reducible first | exact HB.out | apply below_alloc | apply pw_below_drewN | apply below_drew1) | exact HB.out)))); (case aL => have := LMc20.out; omega); intro v140 w21 ho hb hg hat; rw [← Ny139.out] at ho; have n0_ := Aside0.mk (hb); have n1_ := Aside0.mk (ho); clear HB; clear HO_3; have HB := n0_; have HO141 := n1_; clear n0_ n1_; clear ho hb hg hat))
                  go_roundg k1
                  case measure => have := HK1.out; omega
                  case rel => exact ⟨(y139), (wrap64 (x8_1 + 1)), (by first | rfl | (simp; done) | (simp [*]; done)), H', ⟨by have := HK1.out; omega⟩, ⟨by (with_reducible repeat (first | apply Kd.R_alloc | apply Kd.R_drewN | apply Kd.R_drew)); exact HO141.out⟩, ⟨by repeat (first | (with_reducible first | exact HB.out | apply below_alloc | apply pw_below_drewN | apply below_drew1) | exact HB.out)⟩⟩
                · rw [if_neg c20] at H
                  exact absurd H (by simp)
          · rw [if_neg c4] at H
            exact absurd H (by simp)
        · rw [if_neg c3] at H
          exact absurd H (by simp)
      · rw [if_neg c2] at H
        have c2b0 : decide (x8_1 < (l0.length : Int)) = false := decide_eq_false c2
        clear c2
        by_cases c22 : (x3_1.length : Int) = 0
        · rw [if_pos c22] at H
          have c22b0 : ((x3_1.length : Int) == 0) = true := beq_iff_eq.mpr c22
          have c22b1 : ((x3_1.length : Int) != 0) = false := bne_eq_false_iff_eq.mpr c22
          clear c22
          by_cases c23 : x3_1.length < 8796093022208
          · rw [if_pos c23] at H
            have LMc23 := Aside0.mk c23
            clear c23
            obtain ⟨y126, hy126⟩ : ∃ y_ : List ByteArray, y_ = (x3_1 ++ [(⟨#[]⟩ : ByteArray)]) := ⟨_, rfl⟩
            replace H : (some y126) = some r := by first | (rw [hy126]; with_reducible exact H) | (have H2_ := (Option.bind_some _ _).symm.trans H; rw [hy126]; with_reducible exact H2_) | (have H2_ := (Option.bind_some _ _).symm.trans H; with_reducible exact H2_) | with_reducible exact H | (rw [hy126]; exact H) | exact H
            have Ny126 := Aside0.mk hy126
            clear hy126
            obtain rfl := Option.some.inj H
            obtain ⟨Ao24, co24, eo24⟩ := Kd.R_slice HO_3.out
            subst eo24
            go_wp2_with (first | ((with_reducible refine gate_builtin (b := .append) (xs := #[.tmp 40, .tmp 41]) rfl ?_); at_builtin; refine Kd.R_append Kd.string (w0 := w) w.heap.size rfl (.tmp 40) (.tmp 41) 23 9 (.string ⟨#[]⟩) 16 rfl Tryd.underlying23 info9 rfl (by decide) (by omega) (.slice Ao24 x3_1.length co24) x3_1 (⟨#[]⟩ : ByteArray) [.string (⟨#[]⟩ : ByteArray)] (fun _ => True) (fun _ => False) rfl rfl ?aP (fun _ hk => hk.elim) ?aF ?aO ?aB ?aS ?aL ?_; (case aP => exact rfl); (case aB => exact (by repeat (first | (with_reducible first | exact HB.out | apply below_alloc | apply pw_below_drewN | apply below_drew1) | exact HB.out))); (case aF => exact (fun _ _ => trivial)); (case aO => exact (by (with_reducible repeat (first | apply Kd.R_alloc | apply Kd.R_drewN | apply Kd.R_drew)); exact HO_3.out)); (case aS => exact (below_size (by repeat (first | (with_reducible first | exact HB.out | apply below_alloc | apply pw_below_drewN | apply below_drew1) | exact HB.out)))); (case aL => have := LMc23.out; omega); intro v127 w25 ho hb hg hat; rw [← Ny126.out] at ho; have n0_ := Aside0.mk (hb); have n1_ := Aside0.mk (ho); clear HB; clear HO_3; have HB := n0_; have HO128 := n1_; clear n0_ n1_; clear ho hb hg hat))
            go_ret
            exact ⟨_, by first | rfl | (simp [errW_none, errW_some] <;> rfl) | (simp [*, errW_none, errW_some] <;> rfl), by (with_reducible repeat (first | apply Kd.R_alloc | apply Kd.R_drewN | apply Kd.R_drew)); exact HO128.out, by repeat (first | (with_reducible first | exact HB.out | apply below_alloc | apply pw_below_drewN | apply below_drew1) | exact HB.out)⟩
          · rw [if_neg c23] at H
            exact absurd H (by simp)
        · rw [if_neg c22] at H
          have c22b0 : ((x3_1.length : Int) == 0) = false := beq_eq_false_iff_ne.mpr c22
          have c22b1 : ((x3_1.length : Int) != 0) = true := bne_iff_ne.mpr c22
          have c22b2 : ¬ (x3_1 = []) := fun h_ => c22 (by rw [h_]; rfl)
          obtain rfl := Option.some.inj H
          obtain ⟨Ao26, co26, eo26⟩ := Kd.R_slice HO_3.out
          subst eo26
          go_wp2
          go_ret
          exact ⟨_, by first | rfl | (simp [errW_none, errW_some] <;> rfl) | (simp [*, errW_none, errW_some] <;> rfl), by (with_reducible repeat (first | apply Kd.R_alloc | apply Kd.R_drewN | apply Kd.R_drew)); exact HO_3.out, by repeat (first | (with_reducible first | exact HB.out | apply below_alloc | apply pw_below_drewN | apply below_drew1) | exact HB.out)⟩

-- NOT PRINTED: function 48 (abi_NoEscape)

-- NOT PRINTED: function 40 (strings_Builder_copyCheck)

-- NOT PRINTED: function 30 (strings_Builder_WriteByte)

/-! ### octet_Digit: function 34 -/
def octet_Digit.f (a0 : Int) : Option (Bool) := if a0 ≥ 48 then (some (decide (a0 ≤ 57))) else (some false)
set_option maxHeartbeats 8000000 in
set_option maxRecDepth 100000 in
theorem octet_Digit.calls (a0 : Int) (r : Bool) (w : World) (h : octet_Digit.f a0 = some r) :
    Calls Tryd.prog 34 #[.int .u8 a0] w fun e w' => e = .returned (.bool r) ∧ Drawn0 w w' := by
  have H : (if a0 ≥ 48 then (some (decide (a0 ≤ 57))) else (some false)) = some r := h
  clear h
  by_cases c2 : a0 ≥ 48
  · rw [if_pos c2] at H
    have c2b0 : decide (48 ≤ a0) = true := decide_eq_true c2
    clear c2
    obtain rfl := Option.some.inj H
    go_enter Tryd.func34, Tryd.ntmps34
    go_wp2
    go_ret
    exact ⟨by first | rfl | (simp; done) | (simp [*]; done), by repeat (first | exact Drawn0.refl _ | apply Drawn0.step)⟩
  · rw [if_neg c2] at H
    have c2b0 : decide (48 ≤ a0) = false := decide_eq_false c2
    clear c2
    obtain rfl := Option.some.inj H
    go_enter Tryd.func34, Tryd.ntmps34
    go_wp2
    go_ret
    exact ⟨by first | rfl | (simp; done) | (simp [*]; done), by repeat (first | exact Drawn0.refl _ | apply Drawn0.step)⟩

/-! ### octet_letter: function 50 -/
def octet_letter.f (a0 : Int) : Option (Bool) := if (Go.bits .or .u8 a0 32) ≥ 97 then (some (decide ((Go.bits .or .u8 a0 32) ≤ 122))) else (some false)
set_option maxHeartbeats 8000000 in
set_option maxRecDepth 100000 in
theorem octet_letter.calls (a0 : Int) (r : Bool) (w : World) (h : octet_letter.f a0 = some r) :
    Calls Tryd.prog 50 #[.int .u8 a0] w fun e w' => e = .returned (.bool r) ∧ Drawn0 w w' := by
  have H : (if (Go.bits .or .u8 a0 32) ≥ 97 then (some (decide ((Go.bits .or .u8 a0 32) ≤ 122))) else (some false)) = some r := h
  clear h
  by_cases c2 : (Go.bits .or .u8 a0 32) ≥ 97
  · rw [if_pos c2] at H
    have c2b0 : decide (97 ≤ (Go.bits .or .u8 a0 32)) = true := decide_eq_true c2
    clear c2
    obtain rfl := Option.some.inj H
    go_enter Tryd.func50, Tryd.ntmps50
    go_wp2
    go_ret
    exact ⟨by first | rfl | (simp; done) | (simp [*]; done), by repeat (first | exact Drawn0.refl _ | apply Drawn0.step)⟩
  · rw [if_neg c2] at H
    have c2b0 : decide (97 ≤ (Go.bits .or .u8 a0 32)) = false := decide_eq_false c2
    clear c2
    obtain rfl := Option.some.inj H
    go_enter Tryd.func50, Tryd.ntmps50
    go_wp2
    go_ret
    exact ⟨by first | rfl | (simp; done) | (simp [*]; done), by repeat (first | exact Drawn0.refl _ | apply Drawn0.step)⟩

end Go.Proofs.YtljmpmipjdlkaaaDoor.PPercentOnce
