-- Written by a program of this session (wip/tools/myprint.sh)
import Derived.Test.YtomofacchnmepaaDoorPRecordCopiesx0
import Derived.Test.YtomofacchnmepaaDoorPRecordCopiesx2
namespace Go.Proofs.YtomofacchnmepaaDoor.PRecordCopies
open Go.RowKit Go.Proofs.YtomofacchnmepaaDoorW.PrintWords Go.Proofs.YtomofacchnmepaaDoorW.PrintLast Go.Proofs.YtomofacchnmepaaDoorW.PrintMore
attribute [local go_sem] max2_int min2_int max_two min_two max_three min_three max_four min_four   -- for this text's walks alone
set_option linter.unusedVariables false
set_option linter.unusedSimpArgs false

/-! ### strings_genSplit: function 61 -/
mutual
def strings_genSplit.j0 : Nat → ByteArray → ByteArray → Int → Int → Option (List ByteArray)
 | 0, _, _, _, _ => none
 | k + 1, x0, x1, x2, x3 => if 0 ≤ (mn x3 (wrap64 ((x0.size : Int) + 1))) then (if (mn x3 (wrap64 ((x0.size : Int) + 1)) : Int).toNat ≤ 17592186044416 then (strings_genSplit.l0 k x0 x1 x2 (wrap64 ((mn x3 (wrap64 ((x0.size : Int) + 1))) - 1)) (List.replicate (mn x3 (wrap64 ((x0.size : Int) + 1)) : Int).toNat (⟨#[]⟩ : ByteArray)) 0) else (none)) else (none)
def strings_genSplit.l0 : Nat → ByteArray → ByteArray → Int → Int → List ByteArray → Int → Option (List ByteArray)
 | 0, _, _, _, _, _, _ => none
 | k + 1, x0, x1, x2, x3, x9, x10 => if x10 < x3 then ((strings_Index.f x0 x1).bind fun t121 => (if t121 < 0 then (if 0 ≤ x10 then (if x10 < (x9.length : Int) then (if 0 ≤ (wrap64 (x10 + 1)) then (if (wrap64 (x10 + 1)) ≤ (x9.length : Int) then (some ((x9.set (x10 : Int).toNat x0).take ((wrap64 (x10 + 1)) : Int).toNat)) else (none)) else (none)) else (none)) else (none)) else (if 0 ≤ (wrap64 (t121 + x2)) then (if (wrap64 (t121 + x2)) ≤ (x0.size : Int) then (if 0 ≤ x10 then (if x10 < (x9.length : Int) then (if 0 ≤ (wrap64 (t121 + (x1.size : Int))) then (if (wrap64 (t121 + (x1.size : Int))) ≤ (x0.size : Int) then (strings_genSplit.l0 k (x0.extract ((wrap64 (t121 + (x1.size : Int))) : Int).toNat x0.size) x1 x2 x3 (x9.set (x10 : Int).toNat (x0.extract 0 ((wrap64 (t121 + x2)) : Int).toNat)) (wrap64 (x10 + 1))) else (none)) else (none)) else (none)) else (none)) else (none)) else (none)))) else (if 0 ≤ x10 then (if x10 < (x9.length : Int) then (if 0 ≤ (wrap64 (x10 + 1)) then (if (wrap64 (x10 + 1)) ≤ (x9.length : Int) then (some ((x9.set (x10 : Int).toNat x0).take ((wrap64 (x10 + 1)) : Int).toNat)) else (none)) else (none)) else (none)) else (none))
end
def strings_genSplit.f (k : Nat) (a0 : ByteArray) (a1 : ByteArray) (a2 : Int) (a3 : Int) : Option (List ByteArray) := if a3 = 0 then (some ([] : List ByteArray)) else (if a1.toList = ([] : List UInt8) then ((strings_explode.f a0 a3).bind fun t114 => (some t114)) else (if a3 < 0 then ((strings_Count.f a0 a1).bind fun t117 => (strings_genSplit.j0 k a0 a1 a2 (wrap64 (t117 + 1)))) else (strings_genSplit.j0 k a0 a1 a2 a3)))
theorem strings_genSplit.mono_l : ∀ k, (∀ y0 y1 y2 y3, LeO (strings_genSplit.j0 k y0 y1 y2 y3) (strings_genSplit.j0 (k + 1) y0 y1 y2 y3)) ∧ (∀ y0 y1 y2 y3 y4 y5, LeO (strings_genSplit.l0 k y0 y1 y2 y3 y4 y5) (strings_genSplit.l0 (k + 1) y0 y1 y2 y3 y4 y5))
 | 0 => ⟨fun _ _ _ _ r h => by simp [strings_genSplit.j0] at h, fun _ _ _ _ _ _ r h => by simp [strings_genSplit.l0] at h⟩
 | k + 1 => by
  obtain ⟨ih0, ih1⟩ := strings_genSplit.mono_l k
  refine ⟨?_, ?_⟩
  ·intro y0 y1 y2 y3
   unfold strings_genSplit.j0
   repeat' first
   | (with_reducible exact ih0 _ _ _ _)
   | (with_reducible exact ih1 _ _ _ _ _ _)
   | (with_reducible exact LeO.refl _)
   | (with_reducible exact LeO.none _)
   | (with_reducible refine LeO.ite ?_ ?_)
   | (with_reducible refine LeO.bind ?_ (fun _ => ?_))
   | exact ih0 _ _ _ _
   | exact ih1 _ _ _ _ _ _
   | exact LeO.none _
   | refine LeO.ite ?_ ?_
   | refine LeO.bind ?_ (fun _ => ?_)
  ·intro y0 y1 y2 y3 y4 y5
   unfold strings_genSplit.l0
   repeat' first
   | (with_reducible exact ih0 _ _ _ _)
   | (with_reducible exact ih1 _ _ _ _ _ _)
   | (with_reducible exact LeO.refl _)
   | (with_reducible exact LeO.none _)
   | (with_reducible refine LeO.ite ?_ ?_)
   | (with_reducible refine LeO.bind ?_ (fun _ => ?_))
   | exact ih0 _ _ _ _
   | exact ih1 _ _ _ _ _ _
   | exact LeO.none _
   | refine LeO.ite ?_ ?_
   | refine LeO.bind ?_ (fun _ => ?_)
theorem strings_genSplit.mono : ∀ a0 a1 a2 a3 k, LeO (strings_genSplit.f k a0 a1 a2 a3) (strings_genSplit.f (k + 1) a0 a1 a2 a3) := by
 intro a0 a1 a2 a3 k
 obtain ⟨ih0, ih1⟩ := strings_genSplit.mono_l k
 unfold strings_genSplit.f
 repeat' first
   | (with_reducible exact ih0 _ _ _ _)
   | (with_reducible exact ih1 _ _ _ _ _ _)
   | (with_reducible exact LeO.refl _)
   | (with_reducible exact LeO.none _)
   | (with_reducible refine LeO.ite ?_ ?_)
   | (with_reducible refine LeO.bind ?_ (fun _ => ?_))
   | exact ih0 _ _ _ _
   | exact ih1 _ _ _ _ _ _
   | exact LeO.none _
   | refine LeO.ite ?_ ?_
   | refine LeO.bind ?_ (fun _ => ?_)
set_option maxHeartbeats 8000000 in
set_option maxRecDepth 100000 in
theorem strings_genSplit.calls (k : Nat) (a0 : ByteArray) (a1 : ByteArray) (a2 : Int) (a3 : Int) (r : List ByteArray) (w : World) (h : strings_genSplit.f k a0 a1 a2 a3 = some r) :
  Calls Tryd.prog 61 #[.string a0, .string a1, .int .i64 a2, .int .i64 a3] w fun e w' => ∃ v0_ : Value, e = .returned (v0_) ∧ Kd.R Kd.string 9 w' w.heap.size (fun _ => True) v0_ r ∧ Below w.heap.size w w' := by
 have HB := Aside0.mk (Below.refl w.heap.size w)
 have H : (if a3 = 0 then (some ([] : List ByteArray)) else (if a1.toList = ([] : List UInt8) then ((strings_explode.f a0 a3).bind fun t114 => (some t114)) else (if a3 < 0 then ((strings_Count.f a0 a1).bind fun t117 => (strings_genSplit.j0 k a0 a1 a2 (wrap64 (t117 + 1)))) else (strings_genSplit.j0 k a0 a1 a2 a3)))) = some r := h
 clear h
 by_cases c5 : a3 = 0
 ·rw [if_pos c5] at H
  have c5b0 : (a3 == 0) = true := beq_iff_eq.mpr c5
  have c5b1 : (a3 != 0) = false := bne_eq_false_iff_eq.mpr c5
  clear c5
  obtain rfl := Option.some.inj H
  go_enter Tryd.func61, Tryd.ntmps61
  go_wp2
  go_ret
  exact ⟨_, by first | rfl | (simp [errW_none, errW_some] <;> rfl) | (simp [*, errW_none, errW_some] <;> rfl), by first | exact Kd.R_nil _ _ _ _ _ | exact Kd.N_nil _ _ _ _ _ | exact Kd.V_nil _ _ _ _ _ | exact Kd.Q_nil _ _ _ _ _ | exact Kd.S_nil _ _ _ _ _, Mark.h⟩
 ·rw [if_neg c5] at H
  have c5b0 : (a3 == 0) = false := beq_eq_false_iff_ne.mpr c5
  have c5b1 : (a3 != 0) = true := bne_iff_ne.mpr c5
  by_cases c6 : a1.toList = ([] : List UInt8)
  ·rw [if_pos c6] at H
   have c6b0 : (a1.toList == ([] : List UInt8)) = true := beq_iff_eq.mpr c6
   have c6b1 : (a1.toList != ([] : List UInt8)) = false := bne_eq_false_iff_eq.mpr c6
   clear c6
   replace H := Option.bind_eq_some_iff.mp H
   obtain ⟨t114, A70, H⟩ := H
   replace H : (some t114) = some r := H
   have A7 := Aside0.mk A70
   clear A70
   obtain rfl := Option.some.inj H
   go_enter Tryd.func61, Tryd.ntmps61
   go_wp2_with (first | ((with_reducible refine gate_callee (f := 65) rfl ?_); refine goesL_ (some 18) rfl rfl Tryd.func65 (by kernel_rfl) rfl #[.string a0, .int .i64 a3] rfl (by (try simp only [List.map_toArray, List.map_cons, List.map_nil]); first | done | rfl | (simp only [List.length_drop, List.length_take]; rfl)) ?_; (with_reducible refine (strings_explode.calls a0 a3 t114 _ A7.out).mono ?_); rintro e w8 ⟨v115, rfl, ho0, hb⟩; refine ⟨_, rfl, ?_⟩; have n0_ := Aside0.mk (Kd.R_lower ho0 (below_size Mark.h)); have n1_ := Aside0.mk (below_step Mark.h hb); clear HB; have HO116 := n0_; have HB := n1_; clear n0_ n1_; (try clear hb); (try clear hb2); (try clear hk); (try clear hi); (try clear ho0)))
   go_ret
   exact ⟨_, by first | rfl | (simp [errW_none, errW_some] <;> rfl) | (simp [*, errW_none, errW_some] <;> rfl), Mark.r HO116, Mark.h⟩
  ·rw [if_neg c6] at H
   have c6b0 : (a1.toList == ([] : List UInt8)) = false := beq_eq_false_iff_ne.mpr c6
   have c6b1 : (a1.toList != ([] : List UInt8)) = true := bne_iff_ne.mpr c6
   have HC9 := Aside0.mk H
   clear H
   go_enter Tryd.func61, Tryd.ntmps61
   go_upto_if 20 with (fail)
   go_cut [3] (fun v3 wc => ∃ (kq : Nat) (x3_8 : Int), v3 = .int .i64 x3_8 ∧ Aside0 (strings_genSplit.j0 kq a0 a1 a2 x3_8 = some r) ∧ Aside0 (kq ≤ k) ∧ Aside0 (Below w.heap.size w wc))
   case first =>
    have H := HC9.out
    clear HC9
    by_cases c10 : a3 < 0
    ·rw [if_pos c10] at H
     have c10b0 : decide (a3 < 0) = true := decide_eq_true c10
     clear c10
     (first | rw [c10b0] | (simp only [i64_w, i32_w]; rw [c10b0]) | skip)
     replace H := Option.bind_eq_some_iff.mp H
     obtain ⟨t117, A110, H⟩ := H
     replace H : (strings_genSplit.j0 k a0 a1 a2 (wrap64 (t117 + 1))) = some r := H
     have A11 := Aside0.mk A110
     clear A110
     have H' := Aside0.mk H
     clear H
     go_wp2_with (first | ((with_reducible refine gate_callee (f := 66) rfl ?_); refine goesL_ (some 23) rfl rfl Tryd.func66 (by kernel_rfl) rfl #[.string a0, .string a1] rfl (by (try simp only [List.map_toArray, List.map_cons, List.map_nil]); first | done | rfl | (simp only [List.length_drop, List.length_take]; rfl)) ?_; (with_reducible refine (strings_Count.calls a0 a1 t117 _ A11.out).mono ?_); rintro e w' ⟨rfl, ⟨nd, rfl⟩⟩; refine ⟨_, rfl, ?_⟩))
     go_meet
     case rel => exact ⟨_, (wrap64 (t117 + 1)), (by first | rfl | (simp; done) | (simp [*]; done)), H', ⟨by first | omega | exact Nat.le_refl _⟩, ⟨Mark.h⟩⟩
    ·rw [if_neg c10] at H
     have c10b0 : decide (a3 < 0) = false := decide_eq_false c10
     clear c10
     (first | rw [c10b0] | (simp only [i64_w, i32_w]; rw [c10b0]) | skip)
     have H' := Aside0.mk H
     clear H
     go_wp2
     go_meet
     case rel => exact ⟨_, (a3), (by first | rfl | (simp; done) | (simp [*]; done)), H', ⟨by first | omega | exact Nat.le_refl _⟩, ⟨Mark.h⟩⟩
   case rest =>
    clear HC9
    try clear c1
    try clear p2
    try clear c5
    try clear c5b0
    try clear c5b1
    try clear c6
    try clear c6b0
    try clear c6b1
    try clear p6
    try clear c10
    try clear c10b0
    obtain ⟨kq, x3_8, rfl, HA, HJ8, HB⟩ := hcut
    cases kq with
    | zero => exact absurd HA.out (by simp [strings_genSplit.j0])
    | succ kj8 =>
     have H := HA.out
     clear HA
     simp only [strings_genSplit.j0] at H
     obtain ⟨ji12, hji12⟩ : ∃ j_ : Int, (mn x3_8 (wrap64 ((a0.size : Int) + 1))) = j_ := ⟨_, rfl⟩
     replace H : (if 0 ≤ (ji12) then (if (ji12 : Int).toNat ≤ 17592186044416 then (strings_genSplit.l0 kj8 a0 a1 a2 (wrap64 ((ji12) - 1)) (List.replicate (ji12 : Int).toNat (⟨#[]⟩ : ByteArray)) 0) else (none)) else (none)) = some r := by first | (rw [hji12] at H; exact H) | (simp only [hji12] at H ⊢; exact H)
     have hji12_ : (if (wrap64 ((a0.size : Int) + 1)) < x3_8 then (wrap64 ((a0.size : Int) + 1)) else x3_8) = ji12 := hji12
     by_cases c13 : 0 ≤ (ji12)
     ·rw [if_pos c13] at H
      have c13b0 := eq_true c13
      have c13b1 : decide (0 ≤ (ji12)) = true := decide_eq_true c13
      clear c13
      by_cases c14 : (ji12 : Int).toNat ≤ 17592186044416
      ·rw [if_pos c14] at H
       have c14b0 := eq_true c14
       have c14b1 : decide ((ji12 : Int).toNat ≤ 17592186044416) = true := decide_eq_true c14
       clear c14
       obtain ⟨y118, hy118⟩ : ∃ y_ : List ByteArray, y_ = (List.replicate (ji12 : Int).toNat (⟨#[]⟩ : ByteArray)) := ⟨_, rfl⟩
       replace H : (strings_genSplit.l0 kj8 a0 a1 a2 (wrap64 ((ji12) - 1)) y118 0) = some r := by first | (rw [hy118]; with_reducible exact H) | (have H2_ := (Option.bind_some _ _).symm.trans H; rw [hy118]; with_reducible exact H2_) | (have H2_ := (Option.bind_some _ _).symm.trans H; with_reducible exact H2_) | with_reducible exact H | (rw [hy118]; exact H) | exact H
       have Ny118 := Aside0.mk hy118
       clear hy118
       have H' := Aside0.mk H
       clear H
       go_wp2_with (first | ((with_reducible refine gate_dst (N := 31) rfl ?_); refine Kd.R_make Kd.string _ 9 rfl (N := 31) rfl 29 _ _ rfl ji12 rfl rfl Tryd.underlying29 (.string ⟨#[]⟩) 16 info9 rfl (by decide) (by omega) (⟨#[]⟩ : ByteArray) (ok := fun _ => True) (okp := fun _ => True) rfl (fun _ hk => hk) trivial (of_decide_eq_true (by first | (with_reducible assumption) | assumption)) (Nat.le_trans (Nat.mul_le_mul_right _ (of_decide_eq_true (by first | (with_reducible assumption) | assumption) : ji12.toNat ≤ 17592186044416)) (by omega)) (Below.refl _ _) (Nat.le_refl _) ?_; intro v119 w15 ho16 hb hg_ hnew_; clear hg_ hnew_; (first | rw [← Ny118.out] at ho16 | (simp only [Int.reduceToNat] at ho16; rw [← Ny118.out] at ho16)); have n0_ := Aside0.mk (Kd.R_lower ho16 (below_size Mark.h)); have n1_ := Aside0.mk (below_step Mark.h hb); clear HB; have HO120 := n0_; have HB := n1_; clear n0_ n1_; clear hb ho16))
       go_loopg [0, 10] kj8 (fun kq v0 v10 w' => ∃ (x0_2 : ByteArray) (x9_2 : List ByteArray) (x10_2 : Int), v0 = .string x0_2 ∧ v10 = .int .i64 x10_2 ∧ Aside0 (strings_genSplit.l0 kq x0_2 a1 a2 (wrap64 ((ji12) - 1)) x9_2 x10_2 = some r) ∧ Aside0 (kq ≤ kj8) ∧ Aside0 (Kd.R Kd.string 9 w' w.heap.size (fun _ => True) v119 x9_2) ∧ Aside0 (Below w.heap.size w w'))
       case atStart => exact ⟨(a0), (y118), (0), (by first | rfl | (simp; done) | (simp [*]; done)), (by first | rfl | (simp; done) | (simp [*]; done)), H', ⟨Nat.le_refl _⟩, ⟨Mark.r HO120⟩, ⟨Mark.h⟩⟩
       case round =>
        clear H'
        try clear c1
        try clear p2
        try clear c5
        try clear c5b0
        try clear c5b1
        try clear c6
        try clear c6b0
        try clear c6b1
        try clear p6
        try clear c10
        try clear c10b0
        try clear c13
        try clear c13b0
        try clear c13b1
        try clear c14
        try clear c14b0
        try clear c14b1
        try clear p2
        try clear p6
        obtain ⟨x0_2, x9_2, x10_2, rfl, rfl, HA, HK2, HO_9, HB⟩ := hrel
        cases gk with
        | zero => exact absurd HA.out (by simp [strings_genSplit.l0])
        | succ k2 =>
         have H := HA.out
         clear HA
         simp only [strings_genSplit.l0] at H
         by_cases c17 : x10_2 < (wrap64 ((ji12) - 1))
         ·rw [if_pos c17] at H
          have c17b0 : decide (x10_2 < (wrap64 ((ji12) - 1))) = true := decide_eq_true c17
          clear c17
          replace H := Option.bind_eq_some_iff.mp H
          obtain ⟨t121, A180, H⟩ := H
          replace H : (if t121 < 0 then (if 0 ≤ x10_2 then (if x10_2 < (x9_2.length : Int) then (if 0 ≤ (wrap64 (x10_2 + 1)) then (if (wrap64 (x10_2 + 1)) ≤ (x9_2.length : Int) then (some ((x9_2.set (x10_2 : Int).toNat x0_2).take ((wrap64 (x10_2 + 1)) : Int).toNat)) else (none)) else (none)) else (none)) else (none)) else (if 0 ≤ (wrap64 (t121 + a2)) then (if (wrap64 (t121 + a2)) ≤ (x0_2.size : Int) then (if 0 ≤ x10_2 then (if x10_2 < (x9_2.length : Int) then (if 0 ≤ (wrap64 (t121 + (a1.size : Int))) then (if (wrap64 (t121 + (a1.size : Int))) ≤ (x0_2.size : Int) then (strings_genSplit.l0 k2 (x0_2.extract ((wrap64 (t121 + (a1.size : Int))) : Int).toNat x0_2.size) a1 a2 (wrap64 ((ji12) - 1)) (x9_2.set (x10_2 : Int).toNat (x0_2.extract 0 ((wrap64 (t121 + a2)) : Int).toNat)) (wrap64 (x10_2 + 1))) else (none)) else (none)) else (none)) else (none)) else (none)) else (none))) = some r := H
          have A18 := Aside0.mk A180
          clear A180
          by_cases c19 : t121 < 0
          ·rw [if_pos c19] at H
           have c19b0 : decide (t121 < 0) = true := decide_eq_true c19
           clear c19
           by_cases c20 : 0 ≤ x10_2
           ·rw [if_pos c20] at H
            have c20b0 : decide (0 ≤ x10_2) = true := decide_eq_true c20
            clear c20
            by_cases c21 : x10_2 < (x9_2.length : Int)
            ·rw [if_pos c21] at H
             have c21b0 : decide (x10_2 < (x9_2.length : Int)) = true := decide_eq_true c21
             clear c21
             obtain ⟨y122, hy122⟩ : ∃ y_ : List ByteArray, y_ = (x9_2.set (x10_2 : Int).toNat x0_2) := ⟨_, rfl⟩
             replace H : (if 0 ≤ (wrap64 (x10_2 + 1)) then (if (wrap64 (x10_2 + 1)) ≤ (x9_2.length : Int) then (some (y122.take ((wrap64 (x10_2 + 1)) : Int).toNat)) else (none)) else (none)) = some r := by first | (rw [hy122]; with_reducible exact H) | (have H2_ := (Option.bind_some _ _).symm.trans H; rw [hy122]; with_reducible exact H2_) | (have H2_ := (Option.bind_some _ _).symm.trans H; with_reducible exact H2_) | with_reducible exact H | (rw [hy122]; exact H) | exact H
             have Ny122 := Aside0.mk hy122
             clear hy122
             obtain ⟨ji23, hji23⟩ : ∃ j_ : Int, (wrap64 (x10_2 + 1)) = j_ := ⟨_, rfl⟩
             replace H : (if 0 ≤ (ji23) then (if (ji23) ≤ (x9_2.length : Int) then (some (y122.take ((ji23) : Int).toNat)) else (none)) else (none)) = some r := by first | (rw [hji23] at H; exact H) | (simp only [hji23] at H ⊢; exact H)
             (try rw [hji23] at A18)
             have hji23w : (IntKind.i64.wrap (x10_2 + 1)) = ji23 := (i64_w _).trans hji23
             by_cases c24 : 0 ≤ (ji23)
             ·rw [if_pos c24] at H
              have c24b0 := eq_true c24
              have c24b1 : decide (0 ≤ (ji23)) = true := decide_eq_true c24
              clear c24
              by_cases c25 : (ji23) ≤ (x9_2.length : Int)
              ·rw [if_pos c25] at H
               have c25b0 := eq_true c25
               have c25b1 : decide ((ji23) ≤ (x9_2.length : Int)) = true := decide_eq_true c25
               clear c25
               obtain ⟨y123, hy123⟩ : ∃ y_ : List ByteArray, y_ = (y122.take ((ji23) : Int).toNat) := ⟨_, rfl⟩
               replace H : (some y123) = some r := by first | (rw [hy123]; with_reducible exact H) | (have H2_ := (Option.bind_some _ _).symm.trans H; rw [hy123]; with_reducible exact H2_) | (have H2_ := (Option.bind_some _ _).symm.trans H; with_reducible exact H2_) | with_reducible exact H | (rw [hy123]; exact H) | exact H
               have Ny123 := Aside0.mk hy123
               clear hy123
               obtain rfl := Option.some.inj H
               go_wp2_with (first | ((with_reducible refine gate_callee (f := 67) rfl ?_); refine goesL_ (some 39) rfl rfl Tryd.func67 (by kernel_rfl) rfl #[.string x0_2, .string a1] rfl (by (try simp only [List.map_toArray, List.map_cons, List.map_nil]); first | done | rfl | (simp only [List.length_drop, List.length_take]; rfl)) ?_; (with_reducible refine (strings_Index.calls x0_2 a1 t121 _ A18.out).mono ?_); rintro e w' ⟨rfl, ⟨nd, rfl⟩⟩; refine ⟨_, rfl, ?_⟩; (try (rw [drewN_self wr]; generalize hq_ : World.drewN wr _ = wr; have n0_ : Aside0 (Kd.R Kd.string 9 wr w.heap.size (fun _ => True) v119 x9_2) := ⟨by rw [← hq_]; exact (Mark.r HO_9)⟩; have n1_ : Aside0 (Below w.heap.size w wr) := ⟨by rw [← hq_]; exact Mark.h⟩; clear HO_9 HB hq_; have HO_9 := n0_; have HB := n1_; clear n0_ n1_)); have p22 : 0 ≤ (x10_2 : Int) := of_decide_eq_true (by first | (with_reducible assumption) | assumption); have q22 : (x10_2 : Int) < ((x9_2.length : Int) : Int) := of_decide_eq_true (by first | (with_reducible assumption) | assumption); obtain ⟨go22, co22, eo22, gb22, gl22, cl22, HG22⟩ := Kd.R_form HO_9.out (by omega); (first | cases eo22 | (injection eo22 with ea_ en_ ec_; (first | subst ea_ | (injection ea_ with ea_; subst ea_)); subst ec_; clear en_)); have GB22 := Aside0.mk gb22; have GG22 := Aside0.mk HG22; clear gb22 gl22 HG22; obtain ⟨hx22_0, hf22_0⟩ := Kd.R_celln (⟨#[]⟩ : ByteArray) HO_9.out (x10_2 : Int) p22 q22; replace p22 := eq_true p22; replace q22 := eq_true q22; obtain ⟨hy26_, hz26_⟩ := Kd.R_celln (⟨#[]⟩ : ByteArray) HO_9.out (x10_2 : Int) (of_decide_eq_true (by first | (with_reducible assumption) | assumption)) (of_decide_eq_true (by first | (with_reducible assumption) | assumption)); have HP26 := Kd.R_putg HO_9.out (x10_2 : Int) x0_2) | ((with_reducible refine gate_store (t := 9) (p := 61) rfl ?_); refine store_event (t := 9) (p := 61) (v := ?vo_w27) (w1 := (wr.setCell ⟨go22, (x10_2 : Int).toNat, none⟩ (.string x0_2))) ?hg ?ho ?hn ?hr ?_; (case ho => rfl); (case hg => rfl); (case hn => rfl); (case hr => first | (go_simp; done) | (go_simp; rfl)); intro w27 hw; have hg : wr.grownBy w27 (some go22) := (by rw [hw]; exact HP26.2); have hp_ : Kd.R Kd.string 9 w27 w.heap.size (fun _ => True) (.slice (some ⟨go22, 0, none⟩) x9_2.length co22) y122 := (by rw [hw, Ny122.out]; exact HP26.1); clear HP26; have n0_ := Aside0.mk (hp_); have n1_ := Aside0.mk ((by rw [hw]; exact below_set (HB.out) GB22.out : Below w.heap.size w w27)); clear HO_9; clear HB; have HO_9 := n0_; have HB := n1_; clear n0_ n1_; clear hg hw hp_; have q28 : ((ji23) : Int) ≤ ((x9_2.length : Int) : Int) := of_decide_eq_true (by first | (with_reducible assumption) | assumption); obtain ⟨i028, hi028, _, hsz28, _⟩ := info_parts info9; have hcut28 := cut_to (P := Tryd.prog) 29 9 .i64 Tryd.underlying29 hi028 (some ⟨go22, 0, none⟩) x9_2.length co22 (ji23) (of_decide_eq_true (by first | (with_reducible assumption) | assumption)) q28 (Kd.R_reads' HO_9.out).2.1; have hr28 := Kd.R_take (m := ((ji23) : Int).toNat) HO_9.out (by first | omega | (have h0_ := congrArg List.length Ny122.out; (try simp only [List.length_set] at h0_); omega)); have hy28 : y123.length = ((ji23) : Int).toNat := (by rw [Ny123.out, List.length_take]; exact (show min _ _ = _ from (by first | omega | (have h0_ := congrArg List.length Ny122.out; (try simp only [List.length_set] at h0_); omega)))); rw [← Ny123.out] at hr28; rw [← hy28] at hr28 hcut28; clear hy28 hi028 hsz28 HO_9; have HO125 := Aside0.mk hr28; clear hr28; replace q28 := eq_true q28))
               go_ret
               exact ⟨_, by first | rfl | (simp [errW_none, errW_some] <;> rfl) | (simp only [← hji12, ← hji23]; first | rfl | (simp [errW_none, errW_some] <;> rfl)) | (simp [*, errW_none, errW_some] <;> rfl), Mark.r HO125, Mark.h⟩
              ·rw [if_neg c25] at H
               exact absurd H (by simp)
             ·rw [if_neg c24] at H
              exact absurd H (by simp)
            ·rw [if_neg c21] at H
             exact absurd H (by simp)
           ·rw [if_neg c20] at H
            exact absurd H (by simp)
          ·rw [if_neg c19] at H
           have c19b0 : decide (t121 < 0) = false := decide_eq_false c19
           clear c19
           obtain ⟨ji29, hji29⟩ : ∃ j_ : Int, (wrap64 (t121 + a2)) = j_ := ⟨_, rfl⟩
           replace H : (if 0 ≤ (ji29) then (if (ji29) ≤ (x0_2.size : Int) then (if 0 ≤ x10_2 then (if x10_2 < (x9_2.length : Int) then (if 0 ≤ (wrap64 (t121 + (a1.size : Int))) then (if (wrap64 (t121 + (a1.size : Int))) ≤ (x0_2.size : Int) then (strings_genSplit.l0 k2 (x0_2.extract ((wrap64 (t121 + (a1.size : Int))) : Int).toNat x0_2.size) a1 a2 (wrap64 ((ji12) - 1)) (x9_2.set (x10_2 : Int).toNat (x0_2.extract 0 ((ji29) : Int).toNat)) (wrap64 (x10_2 + 1))) else (none)) else (none)) else (none)) else (none)) else (none)) else (none)) = some r := by first | (rw [hji29] at H; exact H) | (simp only [hji29] at H ⊢; exact H)
           (try rw [hji29] at A18)
           have hji29w : (IntKind.i64.wrap (t121 + a2)) = ji29 := (i64_w _).trans hji29
           by_cases c30 : 0 ≤ (ji29)
           ·rw [if_pos c30] at H
            have c30b0 := eq_true c30
            have c30b1 : decide (0 ≤ (ji29)) = true := decide_eq_true c30
            clear c30
            by_cases c31 : (ji29) ≤ (x0_2.size : Int)
            ·rw [if_pos c31] at H
             have c31b0 := eq_true c31
             have c31b1 : decide ((ji29) ≤ (x0_2.size : Int)) = true := decide_eq_true c31
             clear c31
             by_cases c32 : 0 ≤ x10_2
             ·rw [if_pos c32] at H
              have c32b0 : decide (0 ≤ x10_2) = true := decide_eq_true c32
              clear c32
              by_cases c33 : x10_2 < (x9_2.length : Int)
              ·rw [if_pos c33] at H
               have c33b0 : decide (x10_2 < (x9_2.length : Int)) = true := decide_eq_true c33
               clear c33
               obtain ⟨y126, hy126⟩ : ∃ y_ : List ByteArray, y_ = (x9_2.set (x10_2 : Int).toNat (x0_2.extract 0 ((ji29) : Int).toNat)) := ⟨_, rfl⟩
               replace H : (if 0 ≤ (wrap64 (t121 + (a1.size : Int))) then (if (wrap64 (t121 + (a1.size : Int))) ≤ (x0_2.size : Int) then (strings_genSplit.l0 k2 (x0_2.extract ((wrap64 (t121 + (a1.size : Int))) : Int).toNat x0_2.size) a1 a2 (wrap64 ((ji12) - 1)) y126 (wrap64 (x10_2 + 1))) else (none)) else (none)) = some r := by first | (rw [hy126]; with_reducible exact H) | (have H2_ := (Option.bind_some _ _).symm.trans H; rw [hy126]; with_reducible exact H2_) | (have H2_ := (Option.bind_some _ _).symm.trans H; with_reducible exact H2_) | with_reducible exact H | (rw [hy126]; exact H) | exact H
               have Ny126 := Aside0.mk hy126
               clear hy126
               obtain ⟨ji35, hji35⟩ : ∃ j_ : Int, (wrap64 (t121 + (a1.size : Int))) = j_ := ⟨_, rfl⟩
               replace H : (if 0 ≤ (ji35) then (if (ji35) ≤ (x0_2.size : Int) then (strings_genSplit.l0 k2 (x0_2.extract ((ji35) : Int).toNat x0_2.size) a1 a2 (wrap64 ((ji12) - 1)) y126 (wrap64 (x10_2 + 1))) else (none)) else (none)) = some r := by first | (rw [hji35] at H; exact H) | (simp only [hji35] at H ⊢; exact H)
               (try rw [hji35] at A18)
               have hji35w : (IntKind.i64.wrap (t121 + (a1.size : Int))) = ji35 := (i64_w _).trans hji35
               by_cases c36 : 0 ≤ (ji35)
               ·rw [if_pos c36] at H
                have c36b0 := eq_true c36
                have c36b1 : decide (0 ≤ (ji35)) = true := decide_eq_true c36
                clear c36
                by_cases c37 : (ji35) ≤ (x0_2.size : Int)
                ·rw [if_pos c37] at H
                 have c37b0 := eq_true c37
                 have c37b1 : decide ((ji35) ≤ (x0_2.size : Int)) = true := decide_eq_true c37
                 clear c37
                 have H' := Aside0.mk H
                 clear H
                 go_wp2_with (first | ((with_reducible refine gate_callee (f := 67) rfl ?_); refine goesL_ (some 39) rfl rfl Tryd.func67 (by kernel_rfl) rfl #[.string x0_2, .string a1] rfl (by (try simp only [List.map_toArray, List.map_cons, List.map_nil]); first | done | rfl | (simp only [List.length_drop, List.length_take]; rfl) | (simp only [ByteArray.size_extract, Nat.min_self]; rfl)) ?_; (with_reducible refine (strings_Index.calls x0_2 a1 t121 _ A18.out).mono ?_); rintro e w' ⟨rfl, ⟨nd, rfl⟩⟩; refine ⟨_, rfl, ?_⟩; (try (rw [drewN_self wr]; generalize hq_ : World.drewN wr _ = wr; have n0_ : Aside0 (Kd.R Kd.string 9 wr w.heap.size (fun _ => True) v119 x9_2) := ⟨by rw [← hq_]; exact (Mark.r HO_9)⟩; have n1_ : Aside0 (Below w.heap.size w wr) := ⟨by rw [← hq_]; exact Mark.h⟩; clear HO_9 HB hq_; have HO_9 := n0_; have HB := n1_; clear n0_ n1_)); have p34 : 0 ≤ (x10_2 : Int) := of_decide_eq_true (by first | (with_reducible assumption) | assumption); have q34 : (x10_2 : Int) < ((x9_2.length : Int) : Int) := of_decide_eq_true (by first | (with_reducible assumption) | assumption); obtain ⟨go34, co34, eo34, gb34, gl34, cl34, HG34⟩ := Kd.R_form HO_9.out (by omega); (first | cases eo34 | (injection eo34 with ea_ en_ ec_; (first | subst ea_ | (injection ea_ with ea_; subst ea_)); subst ec_; clear en_)); have GB34 := Aside0.mk gb34; have GG34 := Aside0.mk HG34; clear gb34 gl34 HG34; obtain ⟨hx34_0, hf34_0⟩ := Kd.R_celln (⟨#[]⟩ : ByteArray) HO_9.out (x10_2 : Int) p34 q34; replace p34 := eq_true p34; replace q34 := eq_true q34; obtain ⟨hy38_, hz38_⟩ := Kd.R_celln (⟨#[]⟩ : ByteArray) HO_9.out (x10_2 : Int) (of_decide_eq_true (by first | (with_reducible assumption) | assumption)) (of_decide_eq_true (by first | (with_reducible assumption) | assumption)); have HP38 := Kd.R_putg HO_9.out (x10_2 : Int) (x0_2.extract 0 ((ji29) : Int).toNat)) | ((with_reducible refine gate_store (t := 9) (p := 49) rfl ?_); refine store_event (t := 9) (p := 49) (v := ?vo_w39) (w1 := (wr.setCell ⟨go34, (x10_2 : Int).toNat, none⟩ (.string (x0_2.extract 0 ((ji29) : Int).toNat)))) ?hg ?ho ?hn ?hr ?_; (case ho => rfl); (case hg => rfl); (case hn => rfl); (case hr => first | (go_simp; done) | (go_simp; rfl)); intro w39 hw; have hg : wr.grownBy w39 (some go34) := (by rw [hw]; exact HP38.2); have hp_ : Kd.R Kd.string 9 w39 w.heap.size (fun _ => True) (.slice (some ⟨go34, 0, none⟩) x9_2.length co34) y126 := (by rw [hw, Ny126.out]; exact HP38.1); clear HP38; have n0_ := Aside0.mk (hp_); have n1_ := Aside0.mk ((by rw [hw]; exact below_set (HB.out) GB34.out : Below w.heap.size w w39)); clear HO_9; clear HB; have HO_9 := n0_; have HB := n1_; clear n0_ n1_; clear hg hw hp_))
                 go_roundg k2
                 case measure => have := HJ8.out; have := HK2.out; omega
                 case rel => exact ⟨(x0_2.extract ((ji35) : Int).toNat x0_2.size), (y126), (wrap64 (x10_2 + 1)), (by first | rfl | (simp; done) | (simp only [← hji35] <;> (first | rfl | simp)) | (simp [*]; done)), (by first | rfl | (simp; done) | (simp [*]; done)), H', ⟨by have := HJ8.out; have := HK2.out; omega⟩, ⟨Mark.r HO_9⟩, ⟨Mark.h⟩⟩
                ·rw [if_neg c37] at H
                 exact absurd H (by simp)
               ·rw [if_neg c36] at H
                exact absurd H (by simp)
              ·rw [if_neg c33] at H
               exact absurd H (by simp)
             ·rw [if_neg c32] at H
              exact absurd H (by simp)
            ·rw [if_neg c31] at H
             exact absurd H (by simp)
           ·rw [if_neg c30] at H
            exact absurd H (by simp)
         ·rw [if_neg c17] at H
          have c17b0 : decide (x10_2 < (wrap64 ((ji12) - 1))) = false := decide_eq_false c17
          clear c17
          by_cases c40 : 0 ≤ x10_2
          ·rw [if_pos c40] at H
           have c40b0 : decide (0 ≤ x10_2) = true := decide_eq_true c40
           clear c40
           by_cases c41 : x10_2 < (x9_2.length : Int)
           ·rw [if_pos c41] at H
            have c41b0 : decide (x10_2 < (x9_2.length : Int)) = true := decide_eq_true c41
            clear c41
            obtain ⟨y127, hy127⟩ : ∃ y_ : List ByteArray, y_ = (x9_2.set (x10_2 : Int).toNat x0_2) := ⟨_, rfl⟩
            replace H : (if 0 ≤ (wrap64 (x10_2 + 1)) then (if (wrap64 (x10_2 + 1)) ≤ (x9_2.length : Int) then (some (y127.take ((wrap64 (x10_2 + 1)) : Int).toNat)) else (none)) else (none)) = some r := by first | (rw [hy127]; with_reducible exact H) | (have H2_ := (Option.bind_some _ _).symm.trans H; rw [hy127]; with_reducible exact H2_) | (have H2_ := (Option.bind_some _ _).symm.trans H; with_reducible exact H2_) | with_reducible exact H | (rw [hy127]; exact H) | exact H
            have Ny127 := Aside0.mk hy127
            clear hy127
            obtain ⟨ji43, hji43⟩ : ∃ j_ : Int, (wrap64 (x10_2 + 1)) = j_ := ⟨_, rfl⟩
            replace H : (if 0 ≤ (ji43) then (if (ji43) ≤ (x9_2.length : Int) then (some (y127.take ((ji43) : Int).toNat)) else (none)) else (none)) = some r := by first | (rw [hji43] at H; exact H) | (simp only [hji43] at H ⊢; exact H)
            have hji43w : (IntKind.i64.wrap (x10_2 + 1)) = ji43 := (i64_w _).trans hji43
            by_cases c44 : 0 ≤ (ji43)
            ·rw [if_pos c44] at H
             have c44b0 := eq_true c44
             have c44b1 : decide (0 ≤ (ji43)) = true := decide_eq_true c44
             clear c44
             by_cases c45 : (ji43) ≤ (x9_2.length : Int)
             ·rw [if_pos c45] at H
              have c45b0 := eq_true c45
              have c45b1 : decide ((ji43) ≤ (x9_2.length : Int)) = true := decide_eq_true c45
              clear c45
              obtain ⟨y128, hy128⟩ : ∃ y_ : List ByteArray, y_ = (y127.take ((ji43) : Int).toNat) := ⟨_, rfl⟩
              replace H : (some y128) = some r := by first | (rw [hy128]; with_reducible exact H) | (have H2_ := (Option.bind_some _ _).symm.trans H; rw [hy128]; with_reducible exact H2_) | (have H2_ := (Option.bind_some _ _).symm.trans H; with_reducible exact H2_) | with_reducible exact H | (rw [hy128]; exact H) | exact H
              have Ny128 := Aside0.mk hy128
              clear hy128
              obtain rfl := Option.some.inj H
              have p42 : 0 ≤ (x10_2 : Int) := of_decide_eq_true (by first | (with_reducible assumption) | assumption)
              have q42 : (x10_2 : Int) < ((x9_2.length : Int) : Int) := of_decide_eq_true (by first | (with_reducible assumption) | assumption)
              obtain ⟨go42, co42, eo42, gb42, gl42, cl42, HG42⟩ := Kd.R_form HO_9.out (by omega)
              (first | cases eo42 | (injection eo42 with ea_ en_ ec_; (first | subst ea_ | (injection ea_ with ea_; subst ea_)); subst ec_; clear en_))
              have GB42 := Aside0.mk gb42
              have GG42 := Aside0.mk HG42
              clear gb42 gl42 HG42
              obtain ⟨hx42_0, hf42_0⟩ := Kd.R_celln (⟨#[]⟩ : ByteArray) HO_9.out (x10_2 : Int) p42 q42
              replace p42 := eq_true p42
              replace q42 := eq_true q42
              have HP46 := Kd.R_putg HO_9.out (x10_2 : Int) x0_2
              go_wp2_with (first | ((with_reducible refine gate_store (t := 9) (p := 61) rfl ?_); refine store_event (t := 9) (p := 61) (v := ?vo_w47) (w1 := (wr.setCell ⟨go42, (x10_2 : Int).toNat, none⟩ (.string x0_2))) ?hg ?ho ?hn ?hr ?_; (case ho => rfl); (case hg => rfl); (case hn => rfl); (case hr => first | (go_simp; done) | (go_simp; rfl)); intro w47 hw; have hg : wr.grownBy w47 (some go42) := (by rw [hw]; exact HP46.2); have hp_ : Kd.R Kd.string 9 w47 w.heap.size (fun _ => True) (.slice (some ⟨go42, 0, none⟩) x9_2.length co42) y127 := (by rw [hw, Ny127.out]; exact HP46.1); clear HP46; have n0_ := Aside0.mk (hp_); have n1_ := Aside0.mk ((by rw [hw]; exact below_set (HB.out) GB42.out : Below w.heap.size w w47)); clear HO_9; clear HB; have HO_9 := n0_; have HB := n1_; clear n0_ n1_; clear hg hw hp_; have q48 : ((ji43) : Int) ≤ ((x9_2.length : Int) : Int) := of_decide_eq_true (by first | (with_reducible assumption) | assumption); obtain ⟨i048, hi048, _, hsz48, _⟩ := info_parts info9; have hcut48 := cut_to (P := Tryd.prog) 29 9 .i64 Tryd.underlying29 hi048 (some ⟨go42, 0, none⟩) x9_2.length co42 (ji43) (of_decide_eq_true (by first | (with_reducible assumption) | assumption)) q48 (Kd.R_reads' HO_9.out).2.1; have hr48 := Kd.R_take (m := ((ji43) : Int).toNat) HO_9.out (by first | omega | (have h0_ := congrArg List.length Ny127.out; (try simp only [List.length_set] at h0_); omega)); have hy48 : y128.length = ((ji43) : Int).toNat := (by rw [Ny128.out, List.length_take]; exact (show min _ _ = _ from (by first | omega | (have h0_ := congrArg List.length Ny127.out; (try simp only [List.length_set] at h0_); omega)))); rw [← Ny128.out] at hr48; rw [← hy48] at hr48 hcut48; clear hy48 hi048 hsz48 HO_9; have HO130 := Aside0.mk hr48; clear hr48; replace q48 := eq_true q48))
              go_ret
              exact ⟨_, by first | rfl | (simp [errW_none, errW_some] <;> rfl) | (simp only [← hji12, ← hji43]; first | rfl | (simp [errW_none, errW_some] <;> rfl)) | (simp [*, errW_none, errW_some] <;> rfl), Mark.r HO130, Mark.h⟩
             ·rw [if_neg c45] at H
              exact absurd H (by simp)
            ·rw [if_neg c44] at H
             exact absurd H (by simp)
           ·rw [if_neg c41] at H
            exact absurd H (by simp)
          ·rw [if_neg c40] at H
           exact absurd H (by simp)
      ·rw [if_neg c14] at H
       exact absurd H (by simp)
     ·rw [if_neg c13] at H
      exact absurd H (by simp)

/-! ### strings_Split: function 51 -/
def strings_Split.f (k : Nat) (a0 : ByteArray) (a1 : ByteArray) : Option (List ByteArray) := (strings_genSplit.f k a0 a1 0 (-1)).bind fun t131 => (some t131)
theorem strings_Split.mono : ∀ a0 a1 k, LeO (strings_Split.f k a0 a1) (strings_Split.f (k + 1) a0 a1) := by
 intro a0 a1 k
 unfold strings_Split.f
 repeat' first
   | (with_reducible exact strings_genSplit.mono _ _ _ _ _)
   | (with_reducible exact LeO.refl _)
   | (with_reducible exact LeO.none _)
   | (with_reducible refine LeO.ite ?_ ?_)
   | (with_reducible refine LeO.bind ?_ (fun _ => ?_))
   | exact strings_genSplit.mono _ _ _ _ _
   | exact LeO.none _
   | refine LeO.ite ?_ ?_
   | refine LeO.bind ?_ (fun _ => ?_)
set_option maxHeartbeats 8000000 in
set_option maxRecDepth 100000 in
theorem strings_Split.calls (k : Nat) (a0 : ByteArray) (a1 : ByteArray) (r : List ByteArray) (w : World) (h : strings_Split.f k a0 a1 = some r) :
  Calls Tryd.prog 51 #[.string a0, .string a1] w fun e w' => ∃ v0_ : Value, e = .returned (v0_) ∧ Kd.R Kd.string 9 w' w.heap.size (fun _ => True) v0_ r ∧ Below w.heap.size w w' := by
 have HB := Aside0.mk (Below.refl w.heap.size w)
 have H : ((strings_genSplit.f k a0 a1 0 (-1)).bind fun t131 => (some t131)) = some r := h
 clear h
 replace H := Option.bind_eq_some_iff.mp H
 obtain ⟨t131, A30, H⟩ := H
 replace H : (some t131) = some r := H
 have A3 := Aside0.mk A30
 clear A30
 obtain rfl := Option.some.inj H
 go_enter Tryd.func51, Tryd.ntmps51
 go_wp2_with (first | ((with_reducible refine gate_callee (f := 61) rfl ?_); refine goesL_ (some 7) rfl rfl Tryd.func61 (by kernel_rfl) rfl #[.string a0, .string a1, .int .i64 0, .int .i64 (-1)] rfl (by (try simp only [List.map_toArray, List.map_cons, List.map_nil]); first | done | rfl | (simp only [List.length_drop, List.length_take]; rfl)) ?_; (with_reducible refine (strings_genSplit.calls k a0 a1 0 (-1) t131 _ A3.out).mono ?_); rintro e w4 ⟨v132, rfl, ho0, hb⟩; refine ⟨_, rfl, ?_⟩; have n0_ := Aside0.mk (Kd.R_lower ho0 (below_size Mark.h)); have n1_ := Aside0.mk (below_step Mark.h hb); clear HB; have HO133 := n0_; have HB := n1_; clear n0_ n1_; (try clear hb); (try clear hb2); (try clear hk); (try clear hi); (try clear ho0)))
 go_ret
 exact ⟨_, by first | rfl | (simp [errW_none, errW_some] <;> rfl) | (simp [*, errW_none, errW_some] <;> rfl), Mark.r HO133, Mark.h⟩

/-! ### text_Trim: function 52 -/
def text_Trim.f (a0 : ByteArray) : Option (ByteArray) := if a0.size ≤ 9223372036854775807 then some (Trim.trimB Trim.blankB a0) else none
theorem text_Trim.calls (a0 : ByteArray) (r : ByteArray) (w : World) (h : text_Trim.f a0 = some r) :
  Calls Tryd.prog 52 #[.string a0] w fun e w' => e = .returned (.string r) ∧ Drawn0 w w' := by
 unfold text_Trim.f at h
 split at h
 ·rename_i hc
  obtain rfl := Option.some.inj h
  exact (Hand.text_Trim a0 w hc).mono fun e w' hq => ⟨hq.1, hq.2 ▸ Drawn0.refl _⟩
 ·cases h

/-! ### text_List: function 42 -/
mutual
def text_List.l0 : Nat → List ByteArray → List ByteArray → Int → Int → Option (List ByteArray)
 | 0, _, _, _, _ => none
 | k + 1, x3, x8, x9, x10 => if x10 < x9 then (if 0 ≤ x10 then (if x10 < (x8.length : Int) then ((strings_Split.f k (rdOf ByteArray.empty x8 x10) (⟨#[44]⟩ : ByteArray)).bind fun t135 => (text_List.l1 k x3 x8 x9 x10 t135 (t135.length : Int) 0)) else (none)) else (none)) else (some x3)
def text_List.l1 : Nat → List ByteArray → List ByteArray → Int → Int → List ByteArray → Int → Int → Option (List ByteArray)
 | 0, _, _, _, _, _, _, _ => none
 | k + 1, x3, x8, x9, x10, x15, x16, x17 => if x17 < x16 then (if 0 ≤ x17 then (if x17 < (x15.length : Int) then ((text_Trim.f (rdOf ByteArray.empty x15 x17)).bind fun t139 => (if x3.length < 8796093022208 then (text_List.l1 k (x3 ++ [t139]) x8 x9 x10 x15 x16 (wrap64 (x17 + 1))) else (none))) else (none)) else (none)) else (text_List.l0 k x3 x8 x9 (wrap64 (x10 + 1)))
end
def text_List.f (k : Nat) (l0 : List ByteArray) : Option (List ByteArray) := text_List.l0 k ([] : List ByteArray) l0 (l0.length : Int) 0
theorem text_List.mono_l : ∀ k, (∀ y0 y1 y2 y3, LeO (text_List.l0 k y0 y1 y2 y3) (text_List.l0 (k + 1) y0 y1 y2 y3)) ∧ (∀ y0 y1 y2 y3 y4 y5 y6, LeO (text_List.l1 k y0 y1 y2 y3 y4 y5 y6) (text_List.l1 (k + 1) y0 y1 y2 y3 y4 y5 y6))
 | 0 => ⟨fun _ _ _ _ r h => by simp [text_List.l0] at h, fun _ _ _ _ _ _ _ r h => by simp [text_List.l1] at h⟩
 | k + 1 => by
  obtain ⟨ih0, ih1⟩ := text_List.mono_l k
  refine ⟨?_, ?_⟩
  ·intro y0 y1 y2 y3
   unfold text_List.l0
   repeat' first
   | (with_reducible exact ih0 _ _ _ _)
   | (with_reducible exact ih1 _ _ _ _ _ _ _)
   | (with_reducible exact strings_Split.mono _ _ _)
   | (with_reducible exact LeO.refl _)
   | (with_reducible exact LeO.none _)
   | (with_reducible refine LeO.ite ?_ ?_)
   | (with_reducible refine LeO.bind ?_ (fun _ => ?_))
   | exact ih0 _ _ _ _
   | exact ih1 _ _ _ _ _ _ _
   | exact strings_Split.mono _ _ _
   | exact LeO.none _
   | refine LeO.ite ?_ ?_
   | refine LeO.bind ?_ (fun _ => ?_)
  ·intro y0 y1 y2 y3 y4 y5 y6
   unfold text_List.l1
   repeat' first
   | (with_reducible exact ih0 _ _ _ _)
   | (with_reducible exact ih1 _ _ _ _ _ _ _)
   | (with_reducible exact strings_Split.mono _ _ _)
   | (with_reducible exact LeO.refl _)
   | (with_reducible exact LeO.none _)
   | (with_reducible refine LeO.ite ?_ ?_)
   | (with_reducible refine LeO.bind ?_ (fun _ => ?_))
   | exact ih0 _ _ _ _
   | exact ih1 _ _ _ _ _ _ _
   | exact strings_Split.mono _ _ _
   | exact LeO.none _
   | refine LeO.ite ?_ ?_
   | refine LeO.bind ?_ (fun _ => ?_)
theorem text_List.mono : ∀ a0 k, LeO (text_List.f k a0) (text_List.f (k + 1) a0) := by
 intro a0 k
 obtain ⟨ih0, ih1⟩ := text_List.mono_l k
 unfold text_List.f
 repeat' first
   | (with_reducible exact ih0 _ _ _ _)
   | (with_reducible exact ih1 _ _ _ _ _ _ _)
   | (with_reducible exact strings_Split.mono _ _ _)
   | (with_reducible exact LeO.refl _)
   | (with_reducible exact LeO.none _)
   | (with_reducible refine LeO.ite ?_ ?_)
   | (with_reducible refine LeO.bind ?_ (fun _ => ?_))
   | exact ih0 _ _ _ _
   | exact ih1 _ _ _ _ _ _ _
   | exact strings_Split.mono _ _ _
   | exact LeO.none _
   | refine LeO.ite ?_ ?_
   | refine LeO.bind ?_ (fun _ => ?_)
set_option maxHeartbeats 8000000 in
set_option maxRecDepth 100000 in
theorem text_List.calls (k : Nat) (A0 : Option Addr) (c0 : Nat) (l0 : List ByteArray) (r : List ByteArray) (w : World) (hr0 : Kd.C Kd.string w A0 l0.length l0) (hc0 : l0.length ≤ c0) (h : text_List.f k l0 = some r) :
  Calls Tryd.prog 42 #[.slice A0 l0.length c0] w fun e w' => ∃ v0_ : Value, e = .returned (v0_) ∧ Kd.R Kd.string 9 w' w.heap.size (fun _ => True) v0_ r ∧ Below w.heap.size w w' := by
 have HR0 := Aside0.mk hr0
 have HC0 := Aside0.mk hc0
 clear hr0 hc0
 have HB := Aside0.mk (Below.refl w.heap.size w)
 have H : (text_List.l0 k ([] : List ByteArray) l0 (l0.length : Int) 0) = some r := h
 clear h
 have H' := Aside0.mk H
 clear H
 go_enter Tryd.func42, Tryd.ntmps42
 go_wp2
 go_loopg [3, 10] k (fun kq v3 v10 w' => ∃ (x3_1 : List ByteArray) (x10_1 : Int), v10 = .int .i64 x10_1 ∧ Aside0 (text_List.l0 kq x3_1 l0 (l0.length : Int) x10_1 = some r) ∧ Aside0 (kq ≤ k) ∧ Aside0 (Kd.R Kd.string 9 w' w.heap.size (fun _ => True) v3 x3_1) ∧ Aside0 (Below w.heap.size w w'))
 case atStart => exact ⟨(([] : List ByteArray)), (0), (by first | rfl | (simp; done) | (simp [*]; done)), H', ⟨Nat.le_refl _⟩, ⟨by first | exact Kd.R_nil _ _ _ _ _ | exact Kd.N_nil _ _ _ _ _ | exact Kd.V_nil _ _ _ _ _ | exact Kd.Q_nil _ _ _ _ _ | exact Kd.S_nil _ _ _ _ _⟩, ⟨Mark.h⟩⟩
 case round =>
  clear H'
  obtain ⟨x3_1, x10_1, rfl, HA, HK1, HO_3, HB⟩ := hrel
  cases gk with
  | zero => exact absurd HA.out (by simp [text_List.l0])
  | succ k1 =>
   have H := HA.out
   clear HA
   simp only [text_List.l0] at H
   by_cases c2 : x10_1 < (l0.length : Int)
   ·rw [if_pos c2] at H
    have c2b0 : decide (x10_1 < (l0.length : Int)) = true := decide_eq_true c2
    clear c2
    by_cases c3 : 0 ≤ x10_1
    ·rw [if_pos c3] at H
     have c3b0 : decide (0 ≤ x10_1) = true := decide_eq_true c3
     clear c3
     by_cases c4 : x10_1 < (l0.length : Int)
     ·rw [if_pos c4] at H
      have c4b0 : decide (x10_1 < (l0.length : Int)) = true := decide_eq_true c4
      clear c4
      replace H := Option.bind_eq_some_iff.mp H
      obtain ⟨t135, A50, H⟩ := H
      replace H : (text_List.l1 k1 x3_1 l0 (l0.length : Int) x10_1 t135 (t135.length : Int) 0) = some r := H
      have A5 := Aside0.mk A50
      clear A50
      have H' := Aside0.mk H
      clear H
      have p134 : 0 ≤ (x10_1 : Int) := of_decide_eq_true (by first | (with_reducible assumption) | assumption)
      have q134 : x10_1 < (l0.length : Int) := of_decide_eq_true (by first | (with_reducible assumption) | assumption)
      obtain ⟨ad134, e134, hx134_0⟩ := Kd.at_string HR0.out x10_1 p134 q134
      cases e134
      replace hx134_0 := (HB.out.cell (World.block_lt_of_cell? w _ hx134_0)).trans hx134_0
      replace p134 := eq_true p134
      replace q134 := eq_true q134
      go_wp2_with (first | ((with_reducible refine gate_callee (f := 51) rfl ?_); refine goesL_ (some 15) rfl rfl Tryd.func51 (by kernel_rfl) rfl #[.string (rdOf ByteArray.empty l0 x10_1), .string (⟨#[44]⟩ : ByteArray)] rfl (by (try simp only [List.map_toArray, List.map_cons, List.map_nil]); first | done | rfl | (simp only [List.length_drop, List.length_take]; rfl)) ?_; (with_reducible refine (strings_Split.calls k1 (rdOf ByteArray.empty l0 x10_1) (⟨#[44]⟩ : ByteArray) t135 _ A5.out).mono ?_); rintro e w6 ⟨v136, rfl, ho0, hb⟩; refine ⟨_, rfl, ?_⟩; have n0_ := Aside0.mk (Kd.R_elder' (Mark.r HO_3) (Kd.R_base ho0) hb); have n1_ := Aside0.mk (Kd.R_lower (Kd.R_new' ho0 (Kd.R_lt (Mark.r HO_3))) (below_size Mark.h)); have n2_ := Aside0.mk (below_step Mark.h hb); clear HO_3; clear HB; have HO_3 := n0_; have HO137 := n1_; have HB := n2_; clear n0_ n1_ n2_; (try clear hb); (try clear hb2); (try clear hk); (try clear hi); (try clear ho0); obtain ⟨Ao7, co7, eo7⟩ := Kd.R_slice HO137.out; subst eo7))
      go_loopg [3, 17] k1 (fun kq v3 v17 w' => ∃ (x3_2 : List ByteArray) (x17_2 : Int), v17 = .int .i64 x17_2 ∧ Aside0 (text_List.l1 kq x3_2 l0 (l0.length : Int) x10_1 t135 (t135.length : Int) x17_2 = some r) ∧ Aside0 (kq ≤ k1) ∧ Aside0 (Kd.R Kd.string 9 w' w.heap.size (fun k_ => some k_ ≠ ((.slice Ao7 t135.length co7) : Value).ownBlock) v3 x3_2) ∧ Aside0 (Kd.R Kd.string 9 w' w.heap.size (fun k_ => some k_ ≠ (v3 : Value).ownBlock) (.slice Ao7 t135.length co7) t135) ∧ Aside0 (Below w.heap.size w w'))
      case atStart => exact ⟨(x3_1), (0), (by first | rfl | (simp; done) | (simp [*]; done)), H', ⟨Nat.le_refl _⟩, ⟨by (with_reducible repeat (first | apply Kd.R_alloc | apply Kd.R_drewN | apply Kd.R_drew)); exact Kd.R_mono HO_3.out Mark.K⟩, ⟨by (with_reducible repeat (first | apply Kd.R_alloc | apply Kd.R_drewN | apply Kd.R_drew)); exact Kd.R_mono HO137.out Mark.K⟩, ⟨Mark.h⟩⟩
      case round =>
       clear H'
       try clear p1
       try clear q1
       try clear hx1
       try clear c2
       try clear c2b0
       try clear p2
       try clear c3
       try clear c3b0
       try clear c4
       try clear c4b0
       try clear c5
       try clear hx134_0
       try clear p134
       try clear q134
       obtain ⟨x3_2, x17_2, rfl, HA, HK2, HO_3, HO_15, HB⟩ := hrel
       cases gk with
       | zero => exact absurd HA.out (by simp [text_List.l1])
       | succ k2 =>
        have H := HA.out
        clear HA
        simp only [text_List.l1] at H
        by_cases c8 : x17_2 < (t135.length : Int)
        ·rw [if_pos c8] at H
         have c8b0 : decide (x17_2 < (t135.length : Int)) = true := decide_eq_true c8
         clear c8
         by_cases c9 : 0 ≤ x17_2
         ·rw [if_pos c9] at H
          have c9b0 : decide (0 ≤ x17_2) = true := decide_eq_true c9
          clear c9
          by_cases c10 : x17_2 < (t135.length : Int)
          ·rw [if_pos c10] at H
           have c10b0 : decide (x17_2 < (t135.length : Int)) = true := decide_eq_true c10
           clear c10
           replace H := Option.bind_eq_some_iff.mp H
           obtain ⟨t139, A110, H⟩ := H
           replace H : (if x3_2.length < 8796093022208 then (text_List.l1 k2 (x3_2 ++ [t139]) l0 (l0.length : Int) x10_1 t135 (t135.length : Int) (wrap64 (x17_2 + 1))) else (none)) = some r := H
           have A11 := Aside0.mk A110
           clear A110
           by_cases c12 : x3_2.length < 8796093022208
           ·rw [if_pos c12] at H
            have LMc12 := Aside0.mk c12
            clear c12
            obtain ⟨y140, hy140⟩ : ∃ y_ : List ByteArray, y_ = (x3_2 ++ [t139]) := ⟨_, rfl⟩
            replace H : (text_List.l1 k2 y140 l0 (l0.length : Int) x10_1 t135 (t135.length : Int) (wrap64 (x17_2 + 1))) = some r := by first | (rw [hy140]; with_reducible exact H) | (have H2_ := (Option.bind_some _ _).symm.trans H; rw [hy140]; with_reducible exact H2_) | (have H2_ := (Option.bind_some _ _).symm.trans H; with_reducible exact H2_) | with_reducible exact H | (rw [hy140]; exact H) | exact H
            have Ny140 := Aside0.mk hy140
            clear hy140
            have H' := Aside0.mk H
            clear H
            have p138 : 0 ≤ (x17_2 : Int) := of_decide_eq_true (by first | (with_reducible assumption) | assumption)
            have q138 : x17_2 < (t135.length : Int) := of_decide_eq_true (by first | (with_reducible assumption) | assumption)
            obtain ⟨ad138, e138, hx138_0⟩ := Kd.at_string (Kd.R_reads' HO_15.out).2.2 x17_2 p138 q138
            cases e138
            replace p138 := eq_true p138
            replace q138 := eq_true q138
            go_wp2_with (first | ((with_reducible refine gate_callee (f := 52) rfl ?_); refine goesL_ (some 23) rfl rfl Tryd.func52 (by kernel_rfl) rfl #[.string (rdOf ByteArray.empty t135 x17_2)] rfl (by (try simp only [List.map_toArray, List.map_cons, List.map_nil]); first | done | rfl | (simp only [List.length_drop, List.length_take]; rfl)) ?_; (with_reducible refine (text_Trim.calls (rdOf ByteArray.empty t135 x17_2) t139 _ A11.out).mono ?_); rintro e w' ⟨rfl, ⟨nd, rfl⟩⟩; refine ⟨_, rfl, ?_⟩) | ((with_reducible refine gate_builtin (b := .append) (xs := #[.tmp 21, .tmp 24]) rfl ?_); at_builtin; refine Kd.R_append Kd.string (w0 := w) w.heap.size rfl (.tmp 21) (.tmp 24) 29 9 (.string ⟨#[]⟩) 16 rfl Tryd.underlying29 info9 rfl (by decide) (by omega) u3 x3_2 t139 [.string t139] (fun k_ => some k_ ≠ (.slice (some ad138) t135.length co7 : Value).ownBlock) (fun _ => False) rfl rfl ?aP (fun _ hk => hk.elim) ?aF ?aO ?aB ?aS ?aL ?_; (case aP => exact rfl); (case aB => exact Mark.h); (case aF => exact (fun k_ hk => Kd.fresh' (Kd.R_lt (Mark.r HO_15)) k_ hk)); (case aO => exact (Mark.r HO_3)); (case aS => exact (below_size Mark.h)); (case aL => have := LMc12.out; omega); intro v141 w13 ho hb hg hat; rw [← Ny140.out] at ho; have n0_ := Aside0.mk (Kd.R_after (ok := (fun _ => True)) (by (with_reducible repeat (first | apply Kd.R_alloc | apply Kd.R_drewN | apply Kd.R_drew)); exact Kd.R_mono HO_15.out (fun _ hk => ⟨trivial, hk⟩)) hg hat); have n1_ := Aside0.mk (hb); have n2_ := Aside0.mk (ho); clear HO_15; clear HB; clear HO_3; have HO_15 := n0_; have HB := n1_; have HO142 := n2_; clear n0_ n1_ n2_; clear ho hb hg hat))
            go_roundg k2
            case measure => have := HK1.out; have := HK2.out; omega
            case rel => exact ⟨(y140), (wrap64 (x17_2 + 1)), (by first | rfl | (simp; done) | (simp [*]; done)), H', ⟨by have := HK1.out; have := HK2.out; omega⟩, ⟨Mark.r HO142⟩, ⟨by (with_reducible repeat (first | apply Kd.R_alloc | apply Kd.R_drewN | apply Kd.R_drew)); exact Kd.R_mono HO_15.out Mark.K⟩, ⟨Mark.h⟩⟩
           ·rw [if_neg c12] at H
            exact absurd H (by simp)
          ·rw [if_neg c10] at H
           exact absurd H (by simp)
         ·rw [if_neg c9] at H
          exact absurd H (by simp)
        ·rw [if_neg c8] at H
         have c8b0 : decide (x17_2 < (t135.length : Int)) = false := decide_eq_false c8
         clear c8
         have H' := Aside0.mk H
         clear H
         go_wp2
         go_roundg k2
         case measure => have := HK1.out; have := HK2.out; omega
         case rel => exact ⟨(x3_2), (wrap64 (x10_1 + 1)), (by first | rfl | (simp; done) | (simp [*]; done)), H', ⟨by have := HK1.out; have := HK2.out; omega⟩, ⟨by (with_reducible repeat (first | apply Kd.R_alloc | apply Kd.R_drewN | apply Kd.R_drew)); exact Kd.R_mono HO_3.out (fun _ hk => trivial)⟩, ⟨Mark.h⟩⟩
     ·rw [if_neg c4] at H
      exact absurd H (by simp)
    ·rw [if_neg c3] at H
     exact absurd H (by simp)
   ·rw [if_neg c2] at H
    have c2b0 : decide (x10_1 < (l0.length : Int)) = false := decide_eq_false c2
    clear c2
    obtain rfl := Option.some.inj H
    go_wp2
    go_ret
    exact ⟨_, by first | rfl | (simp [errW_none, errW_some] <;> rfl) | (simp [*, errW_none, errW_some] <;> rfl), Mark.r HO_3, Mark.h⟩

/-! ### text_Same: function 45 -/
def text_Same.f (a0 a1 : ByteArray) : Option (Bool) := if a0.size ≤ 9223372036854775807 ∧ a1.size ≤ 9223372036854775807 then some (Hand.sameB a0 a1) else none
theorem text_Same.calls (a0 a1 : ByteArray) (r : Bool) (w : World) (h : text_Same.f a0 a1 = some r) :
  Calls Tryd.prog 45 #[.string a0, .string a1] w fun e w' => e = .returned (.bool r) ∧ Below w.heap.size w w' := by
 unfold text_Same.f at h
 split at h
 ·rename_i hc
  obtain rfl := Option.some.inj h
  exact (Hand.text_Same a0 a1 w hc.1 hc.2).mono fun e w' hq => hq
 ·cases h

/-! ### text_Find: function 43 -/
def text_Find.l0 : Nat → ByteArray → List ByteArray → List (S31) → Int → Int → Option (List ByteArray)
 | 0, _, _, _, _, _ => none
 | k + 1, x1, x5, x8, x9, x10 => if x10 < x9 then (if 0 ≤ x10 then (if x10 < (x8.length : Int) then ((text_Same.f ((rd_T31 x8 x10).f0) x1).bind fun t145 => (if t145 = true then (if x5.length < 8796093022208 then (text_Find.l0 k x1 (x5 ++ [(rd_T31 x8 x10).f1]) x8 x9 (wrap64 (x10 + 1))) else (none)) else (text_Find.l0 k x1 x5 x8 x9 (wrap64 (x10 + 1))))) else (none)) else (none)) else (some x5)
def text_Find.f (k : Nat) (l0 : List (S31)) (a1 : ByteArray) : Option (List ByteArray) := text_Find.l0 k a1 ([] : List ByteArray) l0 (l0.length : Int) 0
theorem text_Find.mono_l : ∀ k, (∀ y0 y1 y2 y3 y4, LeO (text_Find.l0 k y0 y1 y2 y3 y4) (text_Find.l0 (k + 1) y0 y1 y2 y3 y4))
 | 0 => fun _ _ _ _ _ r h => by simp [text_Find.l0] at h
 | k + 1 => by
  have ih0 := text_Find.mono_l k
  ·intro y0 y1 y2 y3 y4
   unfold text_Find.l0
   repeat' first
   | (with_reducible exact ih0 _ _ _ _ _)
   | (with_reducible exact LeO.refl _)
   | (with_reducible exact LeO.none _)
   | (with_reducible refine LeO.ite ?_ ?_)
   | (with_reducible refine LeO.bind ?_ (fun _ => ?_))
   | exact ih0 _ _ _ _ _
   | exact LeO.none _
   | refine LeO.ite ?_ ?_
   | refine LeO.bind ?_ (fun _ => ?_)
theorem text_Find.mono : ∀ a0 a1 k, LeO (text_Find.f k a0 a1) (text_Find.f (k + 1) a0 a1) := by
 intro a0 a1 k
 have ih0 := text_Find.mono_l k
 unfold text_Find.f
 repeat' first
   | (with_reducible exact ih0 _ _ _ _ _)
   | (with_reducible exact LeO.refl _)
   | (with_reducible exact LeO.none _)
   | (with_reducible refine LeO.ite ?_ ?_)
   | (with_reducible refine LeO.bind ?_ (fun _ => ?_))
   | exact ih0 _ _ _ _ _
   | exact LeO.none _
   | refine LeO.ite ?_ ?_
   | refine LeO.bind ?_ (fun _ => ?_)
set_option maxHeartbeats 8000000 in
set_option maxRecDepth 100000 in
theorem text_Find.calls (k : Nat) (A0 : Option Addr) (c0 : Nat) (l0 : List (S31)) (a1 : ByteArray) (r : List ByteArray) (w : World) (hr0 : Kd.C k31 w A0 l0.length l0) (hc0 : l0.length ≤ c0) (h : text_Find.f k l0 a1 = some r) :
  Calls Tryd.prog 43 #[.slice A0 l0.length c0, .string a1] w fun e w' => ∃ v0_ : Value, e = .returned (v0_) ∧ Kd.R Kd.string 9 w' w.heap.size (fun _ => True) v0_ r ∧ Below w.heap.size w w' := by
 have hu31 := Tryd.underlying31
 have HR0 := Aside0.mk hr0
 have HC0 := Aside0.mk hc0
 clear hr0 hc0
 have HB := Aside0.mk (Below.refl w.heap.size w)
 have H : (text_Find.l0 k a1 ([] : List ByteArray) l0 (l0.length : Int) 0) = some r := h
 clear h
 have H' := Aside0.mk H
 clear H
 go_enter Tryd.func43, Tryd.ntmps43
 go_wp2
 go_loopg [5, 10] k (fun kq v5 v10 w' => ∃ (x5_1 : List ByteArray) (x10_1 : Int), v10 = .int .i64 x10_1 ∧ Aside0 (text_Find.l0 kq a1 x5_1 l0 (l0.length : Int) x10_1 = some r) ∧ Aside0 (kq ≤ k) ∧ Aside0 (Kd.R Kd.string 9 w' w.heap.size (fun _ => True) v5 x5_1) ∧ Aside0 (Below w.heap.size w w'))
 case atStart => exact ⟨(([] : List ByteArray)), (0), (by first | rfl | (simp; done) | (simp [*]; done)), H', ⟨Nat.le_refl _⟩, ⟨by first | exact Kd.R_nil _ _ _ _ _ | exact Kd.N_nil _ _ _ _ _ | exact Kd.V_nil _ _ _ _ _ | exact Kd.Q_nil _ _ _ _ _ | exact Kd.S_nil _ _ _ _ _⟩, ⟨Mark.h⟩⟩
 case round =>
  clear H'
  try clear p2
  obtain ⟨x5_1, x10_1, rfl, HA, HK1, HO_5, HB⟩ := hrel
  cases gk with
  | zero => exact absurd HA.out (by simp [text_Find.l0])
  | succ k1 =>
   have H := HA.out
   clear HA
   simp only [text_Find.l0] at H
   by_cases c3 : x10_1 < (l0.length : Int)
   ·rw [if_pos c3] at H
    have c3b0 : decide (x10_1 < (l0.length : Int)) = true := decide_eq_true c3
    clear c3
    by_cases c4 : 0 ≤ x10_1
    ·rw [if_pos c4] at H
     have c4b0 : decide (0 ≤ x10_1) = true := decide_eq_true c4
     clear c4
     by_cases c5 : x10_1 < (l0.length : Int)
     ·rw [if_pos c5] at H
      have c5b0 : decide (x10_1 < (l0.length : Int)) = true := decide_eq_true c5
      clear c5
      replace H := Option.bind_eq_some_iff.mp H
      obtain ⟨t145, A60, H⟩ := H
      replace H : (if t145 = true then (if x5_1.length < 8796093022208 then (text_Find.l0 k1 a1 (x5_1 ++ [(rd_T31 l0 x10_1).f1]) l0 (l0.length : Int) (wrap64 (x10_1 + 1))) else (none)) else (text_Find.l0 k1 a1 x5_1 l0 (l0.length : Int) (wrap64 (x10_1 + 1)))) = some r := H
      have A6 := Aside0.mk A60
      clear A60
      by_cases c7 : t145 = true
      ·subst c7
       have H1 : (if x5_1.length < 8796093022208 then (text_Find.l0 k1 a1 (x5_1 ++ [(rd_T31 l0 x10_1).f1]) l0 (l0.length : Int) (wrap64 (x10_1 + 1))) else (none)) = some r := by rw [if_pos rfl] at H; exact H
       clear H
       have H := H1
       clear H1
       by_cases c8 : x5_1.length < 8796093022208
       ·rw [if_pos c8] at H
        have LMc8 := Aside0.mk c8
        clear c8
        obtain ⟨y146, hy146⟩ : ∃ y_ : List ByteArray, y_ = (x5_1 ++ [(rd_T31 l0 x10_1).f1]) := ⟨_, rfl⟩
        replace H : (text_Find.l0 k1 a1 y146 l0 (l0.length : Int) (wrap64 (x10_1 + 1))) = some r := by first | (rw [hy146]; with_reducible exact H) | (have H2_ := (Option.bind_some _ _).symm.trans H; rw [hy146]; with_reducible exact H2_) | (have H2_ := (Option.bind_some _ _).symm.trans H; with_reducible exact H2_) | with_reducible exact H | (rw [hy146]; exact H) | exact H
        have Ny146 := Aside0.mk hy146
        clear hy146
        have H' := Aside0.mk H
        clear H
        have p143 : 0 ≤ (x10_1 : Int) := of_decide_eq_true (by first | (with_reducible assumption) | assumption)
        have q143 : x10_1 < (l0.length : Int) := of_decide_eq_true (by first | (with_reducible assumption) | assumption)
        obtain ⟨ad143, e143, hx143_0, hx143_1⟩ := at_T31 HR0.out x10_1 p143 q143
        cases e143
        replace hx143_0 := (HB.out.cell (World.block_lt_of_cell? w _ hx143_0)).trans hx143_0
        replace hx143_1 := (HB.out.cell (World.block_lt_of_cell? w _ hx143_1)).trans hx143_1
        replace p143 := eq_true p143
        replace q143 := eq_true q143
        go_wp2_with (first | ((with_reducible refine gate_dst (N := 7) rfl ?_); refine box_event ?hg (N := 7) ?hd (cs := #[.string (⟨#[]⟩ : ByteArray), .string (⟨#[]⟩ : ByteArray)]) (t := 31) ?hr ?_; (case hd => rfl); (case hg => rfl); (case hr => first | (go_simp; done) | (go_simp; rfl)); intro gb144 hg w9 hbox hb; have n0_ := Aside0.mk (Kd.R_below (Mark.r HO_5) hb); have n1_ := Aside0.mk (below_step Mark.h hb); have n2_ := Aside0.mk (hbox); have n3_ := Aside0.mk ((by rw [hg]; exact (below_size Mark.h) : w.heap.size ≤ gb144)); have n4_ := Aside0.mk ((by rw [hg]; exact (below_size Mark.h) : w.heap.size ≤ gb144)); clear HO_5; clear HB; have HO_5 := n0_; have HB := n1_; have BK144 := n2_; have GW144 := n3_; have GE144 := n4_; clear n0_ n1_ n2_ n3_ n4_; clear hb hbox hg; have hcz10_0 : w9.cell? ⟨gb144, 0, none⟩ = some (.string (⟨#[]⟩ : ByteArray)) := (blk_cell BK144.out 0).trans rfl; have hcz10_1 : w9.cell? ⟨gb144, 1, none⟩ = some (.string (⟨#[]⟩ : ByteArray)) := (blk_cell BK144.out 1).trans rfl; have hfz10_0 := blk_frozen BK144.out 0; have hfz10_1 := blk_frozen BK144.out 1) | ((with_reducible refine gate_callee (f := 45) rfl ?_); refine goesL_ (some 17) rfl rfl Tryd.func45 (by kernel_rfl) rfl #[.string ((rd_T31 l0 x10_1).f0), .string a1] rfl (by (try simp only [List.map_toArray, List.map_cons, List.map_nil]); first | done | rfl | (simp only [List.length_drop, List.length_take]; rfl)) ?_; (with_reducible refine (text_Same.calls ((rd_T31 l0 x10_1).f0) a1 true _ A6.out).mono ?_); rintro e w11 ⟨rfl, hb⟩; refine ⟨_, rfl, ?_⟩; have n0_ := Aside0.mk (Kd.R_below (by (with_reducible repeat (first | apply Kd.R_alloc | apply Kd.R_drewN | apply Kd.R_drew)); exact (Kd.R_mono (Kd.R_far (p := ⟨gb144, 1, none⟩) (Kd.R_far (p := ⟨gb144, 0, none⟩) (Kd.R_types HO_5.out BK144.out (by decide)) Mark.K (.string ((rd_T31 l0 x10_1).f0))) Mark.K (.string ((rd_T31 l0 x10_1).f1))) (fun _ h_ => h_.1))) hb); have n1_ := Aside0.mk (blk_below (g := gb144) (o := .cells #[.string ((rd_T31 l0 x10_1).f0), .string ((rd_T31 l0 x10_1).f1)] 31 (0, 0)) (by (with_reducible repeat (first | refine blk_drewN ?_ _ | refine blk_drew ?_ | refine blk_alloc ?_ _)); refine blk_put (cs := #[.string ((rd_T31 l0 x10_1).f0), .string (⟨#[]⟩ : ByteArray)]) ?_ 1 _ rfl; (with_reducible repeat (first | refine blk_drewN ?_ _ | refine blk_drew ?_ | refine blk_alloc ?_ _)); refine blk_put (cs := #[.string (⟨#[]⟩ : ByteArray), .string (⟨#[]⟩ : ByteArray)]) ?_ 0 _ rfl; (with_reducible repeat (first | refine blk_drewN ?_ _ | refine blk_drew ?_ | refine blk_alloc ?_ _)); exact BK144.out) hb); have n2_ := Aside0.mk (below_step Mark.h hb); clear HO_5; clear BK144; clear HB; have HO_5 := n0_; have BK144 := n1_; have HB := n2_; clear n0_ n1_ n2_; (try clear hb); (try clear hb2); (try clear hk); (try clear hi); have hcz12_0 : w11.cell? ⟨gb144, 0, none⟩ = some (.string ((rd_T31 l0 x10_1).f0)) := (blk_cell BK144.out 0).trans rfl; have hcz12_1 : w11.cell? ⟨gb144, 1, none⟩ = some (.string ((rd_T31 l0 x10_1).f1)) := (blk_cell BK144.out 1).trans rfl; have hfz12_0 := blk_frozen BK144.out 0; have hfz12_1 := blk_frozen BK144.out 1) | ((with_reducible refine gate_builtin (b := .append) (xs := #[.tmp 18, .tmp 21]) rfl ?_); at_builtin; refine Kd.R_append Kd.string (w0 := w) w.heap.size rfl (.tmp 18) (.tmp 21) 29 9 (.string ⟨#[]⟩) 16 rfl Tryd.underlying29 info9 rfl (by decide) (by omega) u5 x5_1 ((rd_T31 l0 x10_1).f1) [.string ((rd_T31 l0 x10_1).f1)] (fun _ => True) (fun _ => False) rfl rfl ?aP (fun _ hk => hk.elim) ?aF ?aO ?aB ?aS ?aL ?_; (case aP => exact rfl); (case aB => exact Mark.h); (case aF => exact (fun _ _ => trivial)); (case aO => exact (Mark.r HO_5)); (case aS => exact (below_size Mark.h)); (case aL => have := LMc8.out; omega); intro v147 w13 ho hb hg hat; rw [← Ny146.out] at ho; have n0_ := Aside0.mk (blk_grown (g := gb144) (o := .cells #[.string ((rd_T31 l0 x10_1).f0), .string ((rd_T31 l0 x10_1).f1)] 31 (0, 0)) (Mark.b BK144) hg (Kd.R_ne HO_5.out BK144.out (by decide))); have n1_ := Aside0.mk (hb); have n2_ := Aside0.mk (ho); clear BK144; clear HB; clear HO_5; have BK144 := n0_; have HB := n1_; have HO148 := n2_; clear n0_ n1_ n2_; clear ho hb hg hat))
        go_roundg k1
        case measure => have := HK1.out; omega
        case rel => exact ⟨(y146), (wrap64 (x10_1 + 1)), (by first | rfl | (simp; done) | (simp [*]; done)), H', ⟨by have := HK1.out; omega⟩, ⟨Mark.r HO148⟩, ⟨Mark.h⟩⟩
       ·rw [if_neg c8] at H
        exact absurd H (by simp)
      ·replace c7 := Bool.eq_false_iff.mpr c7
       subst c7
       have H1 : (text_Find.l0 k1 a1 x5_1 l0 (l0.length : Int) (wrap64 (x10_1 + 1))) = some r := by rw [if_neg (show ¬ (false = true) by decide)] at H; exact H
       clear H
       have H := H1
       clear H1
       have H' := Aside0.mk H
       clear H
       have p143 : 0 ≤ (x10_1 : Int) := of_decide_eq_true (by first | (with_reducible assumption) | assumption)
       have q143 : x10_1 < (l0.length : Int) := of_decide_eq_true (by first | (with_reducible assumption) | assumption)
       obtain ⟨ad143, e143, hx143_0, hx143_1⟩ := at_T31 HR0.out x10_1 p143 q143
       cases e143
       replace hx143_0 := (HB.out.cell (World.block_lt_of_cell? w _ hx143_0)).trans hx143_0
       replace hx143_1 := (HB.out.cell (World.block_lt_of_cell? w _ hx143_1)).trans hx143_1
       replace p143 := eq_true p143
       replace q143 := eq_true q143
       go_wp2_with (first | ((with_reducible refine gate_dst (N := 7) rfl ?_); refine box_event ?hg (N := 7) ?hd (cs := #[.string (⟨#[]⟩ : ByteArray), .string (⟨#[]⟩ : ByteArray)]) (t := 31) ?hr ?_; (case hd => rfl); (case hg => rfl); (case hr => first | (go_simp; done) | (go_simp; rfl)); intro gb144 hg w14 hbox hb; have n0_ := Aside0.mk (Kd.R_below (Mark.r HO_5) hb); have n1_ := Aside0.mk (below_step Mark.h hb); have n2_ := Aside0.mk (hbox); have n3_ := Aside0.mk ((by rw [hg]; exact (below_size Mark.h) : w.heap.size ≤ gb144)); have n4_ := Aside0.mk ((by rw [hg]; exact (below_size Mark.h) : w.heap.size ≤ gb144)); clear HO_5; clear HB; have HO_5 := n0_; have HB := n1_; have BK144 := n2_; have GW144 := n3_; have GE144 := n4_; clear n0_ n1_ n2_ n3_ n4_; clear hb hbox hg; have hcz15_0 : w14.cell? ⟨gb144, 0, none⟩ = some (.string (⟨#[]⟩ : ByteArray)) := (blk_cell BK144.out 0).trans rfl; have hcz15_1 : w14.cell? ⟨gb144, 1, none⟩ = some (.string (⟨#[]⟩ : ByteArray)) := (blk_cell BK144.out 1).trans rfl; have hfz15_0 := blk_frozen BK144.out 0; have hfz15_1 := blk_frozen BK144.out 1) | ((with_reducible refine gate_callee (f := 45) rfl ?_); refine goesL_ (some 17) rfl rfl Tryd.func45 (by kernel_rfl) rfl #[.string ((rd_T31 l0 x10_1).f0), .string a1] rfl (by (try simp only [List.map_toArray, List.map_cons, List.map_nil]); first | done | rfl | (simp only [List.length_drop, List.length_take]; rfl)) ?_; (with_reducible refine (text_Same.calls ((rd_T31 l0 x10_1).f0) a1 false _ A6.out).mono ?_); rintro e w16 ⟨rfl, hb⟩; refine ⟨_, rfl, ?_⟩; have n0_ := Aside0.mk (Kd.R_below (by (with_reducible repeat (first | apply Kd.R_alloc | apply Kd.R_drewN | apply Kd.R_drew)); exact (Kd.R_mono (Kd.R_far (p := ⟨gb144, 1, none⟩) (Kd.R_far (p := ⟨gb144, 0, none⟩) (Kd.R_types HO_5.out BK144.out (by decide)) Mark.K (.string ((rd_T31 l0 x10_1).f0))) Mark.K (.string ((rd_T31 l0 x10_1).f1))) (fun _ h_ => h_.1))) hb); have n1_ := Aside0.mk (blk_below (g := gb144) (o := .cells #[.string ((rd_T31 l0 x10_1).f0), .string ((rd_T31 l0 x10_1).f1)] 31 (0, 0)) (by (with_reducible repeat (first | refine blk_drewN ?_ _ | refine blk_drew ?_ | refine blk_alloc ?_ _)); refine blk_put (cs := #[.string ((rd_T31 l0 x10_1).f0), .string (⟨#[]⟩ : ByteArray)]) ?_ 1 _ rfl; (with_reducible repeat (first | refine blk_drewN ?_ _ | refine blk_drew ?_ | refine blk_alloc ?_ _)); refine blk_put (cs := #[.string (⟨#[]⟩ : ByteArray), .string (⟨#[]⟩ : ByteArray)]) ?_ 0 _ rfl; (with_reducible repeat (first | refine blk_drewN ?_ _ | refine blk_drew ?_ | refine blk_alloc ?_ _)); exact BK144.out) hb); have n2_ := Aside0.mk (below_step Mark.h hb); clear HO_5; clear BK144; clear HB; have HO_5 := n0_; have BK144 := n1_; have HB := n2_; clear n0_ n1_ n2_; (try clear hb); (try clear hb2); (try clear hk); (try clear hi)))
       go_roundg k1
       case measure => have := HK1.out; omega
       case rel => exact ⟨(x5_1), (wrap64 (x10_1 + 1)), (by first | rfl | (simp; done) | (simp [*]; done)), H', ⟨by have := HK1.out; omega⟩, ⟨Mark.r HO_5⟩, ⟨Mark.h⟩⟩
     ·rw [if_neg c5] at H
      exact absurd H (by simp)
    ·rw [if_neg c4] at H
     exact absurd H (by simp)
   ·rw [if_neg c3] at H
    have c3b0 : decide (x10_1 < (l0.length : Int)) = false := decide_eq_false c3
    clear c3
    obtain rfl := Option.some.inj H
    go_wp2
    go_ret
    exact ⟨_, by first | rfl | (simp [errW_none, errW_some] <;> rfl) | (simp [*, errW_none, errW_some] <;> rfl), Mark.r HO_5, Mark.h⟩

/-! ### record_says: function 29 -/
set_option maxHeartbeats 1000000 in
theorem record_says_1 (what s : ByteArray) (B : Nat) (w : World) (hc : w.cell? ⟨B, 0, none⟩ = some (.string what)) (ha : what.size ≤ 9223372036854775807) (hb : s.size ≤ 9223372036854775807) :
  Calls Tryd.prog 44 #[.string s, .pointer (some ⟨B, 0, none⟩)] w fun e w' => e = .returned (.bool (Hand.sameB s what)) ∧ Below w.heap.size w w' := by
 go_enter Tryd.func44, Tryd.ntmps44
 go_wp2_with (go_at_call 45; (with_reducible refine (Hand.text_Same s what _ hb ha).mono ?_); rintro e w1 ⟨rfl, h1⟩)
 go_ret
 exact ⟨rfl, h1⟩
def record_says.f (k : Nat) (a0_0 a0_1 : ByteArray) (a0_2 : Int) (l0_3 : List (S31)) (a0_4 : Bool) (l0_5 : List Int) (l0_6 : List (S31)) (a1 a2 : ByteArray) : Option (Bool) :=
 (text_Find.f k l0_3 a1).bind fun t1 => ((text_List.f k t1).bind fun t2 => (if t2.length ≤ 9223372036854775807 ∧ a2.size ≤ 9223372036854775807 ∧ (t2.all fun s => decide (s.size ≤ 9223372036854775807)) = true then some (t2.any fun s => Hand.sameB s a2) else none))
theorem record_says.mono : ∀ a0 a1 a2 a3 a4 a5 a6 a7 a8 k, LeO (record_says.f k a0 a1 a2 a3 a4 a5 a6 a7 a8) (record_says.f (k + 1) a0 a1 a2 a3 a4 a5 a6 a7 a8) := by
 intro a0 a1 a2 a3 a4 a5 a6 a7 a8 k
 unfold record_says.f
 exact LeO.bind (text_Find.mono _ _ _) (fun _ => LeO.bind (text_List.mono _ _) (fun _ => LeO.refl _))
set_option maxHeartbeats 8000000 in
set_option maxRecDepth 100000 in
theorem record_says.calls (k : Nat) (a0_0 : ByteArray) (a0_1 : ByteArray) (a0_2 : Int) (A0_3 : Option Addr) (c0_3 : Nat) (l0_3 : List (S31)) (a0_4 : Bool) (A0_5 : Option Addr) (c0_5 : Nat) (l0_5 : List Int) (A0_6 : Option Addr) (c0_6 : Nat) (l0_6 : List (S31)) (a1 a2 : ByteArray) (r : Bool) (w : World)
  (hr0_3 : Kd.C k31 w A0_3 l0_3.length l0_3) (hc0_3 : l0_3.length ≤ c0_3) (hr0_5 : Kd.C (Kd.int .u8) w A0_5 l0_5.length l0_5) (hc0_5 : l0_5.length ≤ c0_5) (hr0_6 : Kd.C k31 w A0_6 l0_6.length l0_6) (hc0_6 : l0_6.length ≤ c0_6)
  (h : record_says.f k a0_0 a0_1 a0_2 l0_3 a0_4 l0_5 l0_6 a1 a2 = some r) :
  Calls Tryd.prog 29 #[.agg #[.string a0_0, .string a0_1, .int .i64 a0_2, .slice A0_3 l0_3.length c0_3, .bool a0_4, .slice A0_5 l0_5.length c0_5, .slice A0_6 l0_6.length c0_6], .string a1, .string a2] w fun e w' => e = .returned (.bool r) ∧ Below w.heap.size w w' := by
 have HR := Aside0.mk hr0_3
 have HC := Aside0.mk hc0_3
 clear hr0_3 hc0_3 hr0_5 hc0_5 hr0_6 hc0_6
 unfold record_says.f at h
 obtain ⟨t1, h1, h⟩ := Option.bind_eq_some_iff.mp h
 obtain ⟨t2, h2, h⟩ := Option.bind_eq_some_iff.mp h
 split at h
 ·rename_i hq
  obtain rfl := Option.some.inj h
  have H1 := Aside0.mk h1
  have H2 := Aside0.mk h2
  have HQ := Aside0.mk hq
  clear h h1 h2 hq
  have hu9 := Tryd.underlying9
  have hu25 := Tryd.underlying25
  have HB := Aside0.mk (Below.refl w.heap.size w)
  go_enter Tryd.func29, Tryd.ntmps29
  go_wp2_with (first
   | ((with_reducible refine gate_dst (N := 3) rfl ?_); refine box_event ?hg (N := 3) ?hd (cs := #[.string a0_0, .string a0_1, .int .i64 a0_2, .slice A0_3 l0_3.length c0_3, .bool a0_4, .slice A0_5 l0_5.length c0_5, .slice A0_6 l0_6.length c0_6]) (t := 25) ?hr ?_; (case hd => rfl); (case hg => rfl); (case hr => first | (go_simp; done) | (go_simp; rfl)); intro gr hgr w4 hbox hb; have n0_ := Aside0.mk (below_step Mark.h hb); have BR := Aside0.mk hbox; clear HB; have HB := n0_; clear n0_ hb hbox hgr)
   | ((with_reducible refine gate_dst (N := 5) rfl ?_); refine box_event ?hg (N := 5) ?hd (cs := #[.string a2]) (t := 9) ?hr ?_; (case hd => rfl); (case hg => rfl); (case hr => first | (go_simp; done) | (go_simp; rfl)); intro gb hg w5 hbox hb; have n0_ := Aside0.mk (below_step Mark.h hb); have BK := Aside0.mk hbox; have hcf_ := (blk_cell (blk_below BR.out hb) 3).trans rfl; have hff_ := blk_frozen (blk_below BR.out hb) 3; clear HB; have HB := n0_; clear n0_ hb hbox hg)
   | (go_at_call 43; (with_reducible refine (text_Find.calls k _ _ l0_3 a1 t1 _ ?side1 ?side2 H1.out).mono ?_); (case side1 => exact (Kd.C_below HR.out HB.out)); (case side2 => exact HC.out); rintro e w8 ⟨v1, rfl, ho0, hb⟩; have n0_ := Aside0.mk (Kd.R_lower ho0 HB.out.size); have n1_ := Aside0.mk (blk_below BK.out hb); have n2_ := Aside0.mk (below_step HB.out hb); clear BK HB; have HO1 := n0_; have BK := n1_; have HB := n2_; clear n0_ n1_ n2_ hb ho0; obtain ⟨Ao1, co1, eo1⟩ := Kd.R_slice HO1.out; subst eo1)
   | (go_at_call 42; (with_reducible refine (text_List.calls k _ _ t1 t2 _ ?side1 ?side2 H2.out).mono ?_); (case side1 => exact (Kd.R_reads' HO1.out).2.2); (case side2 => exact (Kd.R_reads' HO1.out).2.1); rintro e w10 ⟨v2, rfl, ho0, hb⟩; have n0_ := Aside0.mk (Kd.R_lower ho0 HB.out.size); have n1_ := Aside0.mk (blk_below BK.out hb); have n2_ := Aside0.mk (below_step HB.out hb); clear BK HB; have HO2 := n0_; have BK := n1_; have HB := n2_; clear n0_ n1_ n2_ hb ho0; obtain ⟨Ao2, co2, eo2⟩ := Kd.R_slice HO2.out; subst eo2)
   | (go_at_call 41; (with_reducible refine (Hand.contains_cap 44 (.pointer (some ⟨gb, 0, none⟩)) (fun s => Hand.sameB s a2) _ _ t2 _ ?side1 ?side2 ?side3 ?side4).mono ?_); (case side1 => exact (Kd.R_reads' HO2.out).2.2); (case side2 => exact HQ.out.1); (case side3 => exact fun s W => by kernel_rfl); (case side4 => exact fun W hW s hs => record_says_1 a2 s gb W ((blk_cell (blk_below BK.out hW) 0).trans rfl) HQ.out.2.1 (by have := List.all_eq_true.mp HQ.out.2.2 s hs; simpa using this)); rintro e w12 ⟨rfl, hb⟩; have n2_ := Aside0.mk (below_step HB.out hb); clear HB; have HB := n2_; clear n2_ hb))
  go_ret
  exact ⟨rfl, HB.out⟩
 ·cases h


/-! ### record_Closes: function 14 -/
def record_Closes.f (k : Nat) (a0_0 : ByteArray) (a0_1 : ByteArray) (a0_2 : Int) (l0_3 : List (S31)) (a0_4 : Bool) (l0_5 : List Int) (l0_6 : List (S31)) : Option (Bool) := (record_says.f k a0_0 a0_1 a0_2 l0_3 a0_4 l0_5 l0_6 (⟨#[67, 111, 110, 110, 101, 99, 116, 105, 111, 110]⟩ : ByteArray) (⟨#[99, 108, 111, 115, 101]⟩ : ByteArray)).bind fun t150 => (if t150 = true then (some true) else (if a0_2 = 0 then ((record_says.f k a0_0 a0_1 a0_2 l0_3 a0_4 l0_5 l0_6 (⟨#[67, 111, 110, 110, 101, 99, 116, 105, 111, 110]⟩ : ByteArray) (⟨#[107, 101, 101, 112, 45, 97, 108, 105, 118, 101]⟩ : ByteArray)).bind fun t151 => (some (!t151))) else (some false)))
theorem record_Closes.mono : ∀ a0 a1 a2 a3 a4 a5 a6 k, LeO (record_Closes.f k a0 a1 a2 a3 a4 a5 a6) (record_Closes.f (k + 1) a0 a1 a2 a3 a4 a5 a6) := by
 intro a0 a1 a2 a3 a4 a5 a6 k
 unfold record_Closes.f
 repeat' first
   | (with_reducible exact record_says.mono _ _ _ _ _ _ _ _ _ _)
   | (with_reducible exact LeO.refl _)
   | (with_reducible exact LeO.none _)
   | (with_reducible refine LeO.ite ?_ ?_)
   | (with_reducible refine LeO.bind ?_ (fun _ => ?_))
   | exact record_says.mono _ _ _ _ _ _ _ _ _ _
   | exact LeO.none _
   | refine LeO.ite ?_ ?_
   | refine LeO.bind ?_ (fun _ => ?_)
set_option maxHeartbeats 8000000 in
set_option maxRecDepth 100000 in
theorem record_Closes.calls (k : Nat) (a0_0 : ByteArray) (a0_1 : ByteArray) (a0_2 : Int) (A0_3 : Option Addr) (c0_3 : Nat) (l0_3 : List (S31)) (a0_4 : Bool) (A0_5 : Option Addr) (c0_5 : Nat) (l0_5 : List Int) (A0_6 : Option Addr) (c0_6 : Nat) (l0_6 : List (S31)) (r : Bool) (w : World) (hr0_3 : Kd.C k31 w A0_3 l0_3.length l0_3) (hc0_3 : l0_3.length ≤ c0_3) (hr0_5 : Kd.C (Kd.int .u8) w A0_5 l0_5.length l0_5) (hc0_5 : l0_5.length ≤ c0_5) (hr0_6 : Kd.C k31 w A0_6 l0_6.length l0_6) (hc0_6 : l0_6.length ≤ c0_6) (h : record_Closes.f k a0_0 a0_1 a0_2 l0_3 a0_4 l0_5 l0_6 = some r) :
  Calls Tryd.prog 14 #[.agg #[.string a0_0, .string a0_1, .int .i64 a0_2, .slice A0_3 l0_3.length c0_3, .bool a0_4, .slice A0_5 l0_5.length c0_5, .slice A0_6 l0_6.length c0_6]] w fun e w' => e = .returned (.bool r) ∧ Below w.heap.size w w' := by
 have hu25 := Tryd.underlying25
 have HR0_3 := Aside0.mk hr0_3
 have HC0_3 := Aside0.mk hc0_3
 clear hr0_3 hc0_3
 have HR0_5 := Aside0.mk hr0_5
 have HC0_5 := Aside0.mk hc0_5
 clear hr0_5 hc0_5
 have HR0_6 := Aside0.mk hr0_6
 have HC0_6 := Aside0.mk hc0_6
 clear hr0_6 hc0_6
 have HB := Aside0.mk (Below.refl w.heap.size w)
 have H : ((record_says.f k a0_0 a0_1 a0_2 l0_3 a0_4 l0_5 l0_6 (⟨#[67, 111, 110, 110, 101, 99, 116, 105, 111, 110]⟩ : ByteArray) (⟨#[99, 108, 111, 115, 101]⟩ : ByteArray)).bind fun t150 => (if t150 = true then (some true) else (if a0_2 = 0 then ((record_says.f k a0_0 a0_1 a0_2 l0_3 a0_4 l0_5 l0_6 (⟨#[67, 111, 110, 110, 101, 99, 116, 105, 111, 110]⟩ : ByteArray) (⟨#[107, 101, 101, 112, 45, 97, 108, 105, 118, 101]⟩ : ByteArray)).bind fun t151 => (some (!t151))) else (some false)))) = some r := h
 clear h
 replace H := Option.bind_eq_some_iff.mp H
 obtain ⟨t150, A20, H⟩ := H
 replace H : (if t150 = true then (some true) else (if a0_2 = 0 then ((record_says.f k a0_0 a0_1 a0_2 l0_3 a0_4 l0_5 l0_6 (⟨#[67, 111, 110, 110, 101, 99, 116, 105, 111, 110]⟩ : ByteArray) (⟨#[107, 101, 101, 112, 45, 97, 108, 105, 118, 101]⟩ : ByteArray)).bind fun t151 => (some (!t151))) else (some false))) = some r := H
 have A2 := Aside0.mk A20
 clear A20
 by_cases c3 : t150 = true
 ·subst c3
  have H1 : (some true) = some r := by rw [if_pos rfl] at H; exact H
  clear H
  have H := H1
  clear H1
  obtain rfl := Option.some.inj H
  go_enter Tryd.func14, Tryd.ntmps14
  go_wp2_with (first | ((with_reducible refine gate_dst (N := 1) rfl ?_); refine box_event ?hg (N := 1) ?hd (cs := #[.string a0_0, .string a0_1, .int .i64 a0_2, .slice A0_3 l0_3.length c0_3, .bool a0_4, .slice A0_5 l0_5.length c0_5, .slice A0_6 l0_6.length c0_6]) (t := 25) ?hr ?_; (case hd => rfl); (case hg => rfl); (case hr => first | (go_simp; done) | (go_simp; rfl)); intro gb149 hg w4 hbox hb; have n0_ := Aside0.mk (below_step Mark.h hb); have n1_ := Aside0.mk (hbox); have n2_ := Aside0.mk ((by rw [hg]; exact (below_size Mark.h) : w.heap.size ≤ gb149)); have n3_ := Aside0.mk ((by rw [hg]; exact (below_size Mark.h) : w.heap.size ≤ gb149)); clear HB; have HB := n0_; have BK149 := n1_; have GW149 := n2_; have GE149 := n3_; clear n0_ n1_ n2_ n3_; clear hb hbox hg; have hcz5_0 : w4.cell? ⟨gb149, 0, none⟩ = some (.string a0_0) := (blk_cell BK149.out 0).trans rfl; have hcz5_1 : w4.cell? ⟨gb149, 1, none⟩ = some (.string a0_1) := (blk_cell BK149.out 1).trans rfl; have hcz5_2 : w4.cell? ⟨gb149, 2, none⟩ = some (.int .i64 a0_2) := (blk_cell BK149.out 2).trans rfl; have hcz5_3 : w4.cell? ⟨gb149, 3, none⟩ = some (.slice A0_3 l0_3.length c0_3) := (blk_cell BK149.out 3).trans rfl; have hcz5_4 : w4.cell? ⟨gb149, 4, none⟩ = some (.bool a0_4) := (blk_cell BK149.out 4).trans rfl; have hcz5_5 : w4.cell? ⟨gb149, 5, none⟩ = some (.slice A0_5 l0_5.length c0_5) := (blk_cell BK149.out 5).trans rfl; have hcz5_6 : w4.cell? ⟨gb149, 6, none⟩ = some (.slice A0_6 l0_6.length c0_6) := (blk_cell BK149.out 6).trans rfl; have hfz5_0 := blk_frozen BK149.out 0; have hfz5_1 := blk_frozen BK149.out 1; have hfz5_2 := blk_frozen BK149.out 2; have hfz5_3 := blk_frozen BK149.out 3; have hfz5_4 := blk_frozen BK149.out 4; have hfz5_5 := blk_frozen BK149.out 5; have hfz5_6 := blk_frozen BK149.out 6) | ((with_reducible refine gate_callee (f := 29) rfl ?_); refine goesL_ (some 4) rfl rfl Tryd.func29 (by kernel_rfl) rfl #[.agg #[.string a0_0, .string a0_1, .int .i64 a0_2, .slice A0_3 l0_3.length c0_3, .bool a0_4, .slice A0_5 l0_5.length c0_5, .slice A0_6 l0_6.length c0_6], .string (⟨#[67, 111, 110, 110, 101, 99, 116, 105, 111, 110]⟩ : ByteArray), .string (⟨#[99, 108, 111, 115, 101]⟩ : ByteArray)] rfl (by (try simp only [List.map_toArray, List.map_cons, List.map_nil]); first | done | rfl | (simp only [List.length_drop, List.length_take]; rfl)) ?_; (with_reducible refine (record_says.calls k a0_0 a0_1 a0_2 _ _ l0_3 a0_4 _ _ l0_5 _ _ l0_6 (⟨#[67, 111, 110, 110, 101, 99, 116, 105, 111, 110]⟩ : ByteArray) (⟨#[99, 108, 111, 115, 101]⟩ : ByteArray) true _ ?side1 ?side2 ?side3 ?side4 ?side5 ?side6 A2.out).mono ?_); (case side1 => repeat (first | exact (Kd.C_below HR0_3.out HB.out) | (with_reducible refine Kd.C_alloc ?_ _) | (with_reducible refine Kd.C_drewN ?_ _) | (with_reducible refine Kd.C_drew ?_))); (case side2 => exact HC0_3.out); (case side3 => repeat (first | exact (Kd.C_below HR0_5.out HB.out) | (with_reducible refine Kd.C_alloc ?_ _) | (with_reducible refine Kd.C_drewN ?_ _) | (with_reducible refine Kd.C_drew ?_))); (case side4 => exact HC0_5.out); (case side5 => repeat (first | exact (Kd.C_below HR0_6.out HB.out) | (with_reducible refine Kd.C_alloc ?_ _) | (with_reducible refine Kd.C_drewN ?_ _) | (with_reducible refine Kd.C_drew ?_))); (case side6 => exact HC0_6.out); rintro e w6 ⟨rfl, hb⟩; refine ⟨_, rfl, ?_⟩; have n0_ := Aside0.mk (blk_below (g := gb149) (o := .cells #[.string a0_0, .string a0_1, .int .i64 a0_2, .slice A0_3 l0_3.length c0_3, .bool a0_4, .slice A0_5 l0_5.length c0_5, .slice A0_6 l0_6.length c0_6] 25 (0, 0)) (Mark.b BK149) hb); have n1_ := Aside0.mk (below_step Mark.h hb); clear BK149; clear HB; have BK149 := n0_; have HB := n1_; clear n0_ n1_; (try clear hb); (try clear hb2); (try clear hk); (try clear hi)))
  go_ret
  exact ⟨by first | rfl | (simp [errW_none, errW_some] <;> rfl) | (simp [*, errW_none, errW_some] <;> rfl), Mark.h⟩
 ·replace c3 := Bool.eq_false_iff.mpr c3
  subst c3
  have H1 : (if a0_2 = 0 then ((record_says.f k a0_0 a0_1 a0_2 l0_3 a0_4 l0_5 l0_6 (⟨#[67, 111, 110, 110, 101, 99, 116, 105, 111, 110]⟩ : ByteArray) (⟨#[107, 101, 101, 112, 45, 97, 108, 105, 118, 101]⟩ : ByteArray)).bind fun t151 => (some (!t151))) else (some false)) = some r := by rw [if_neg (show ¬ (false = true) by decide)] at H; exact H
  clear H
  have H := H1
  clear H1
  by_cases c7 : a0_2 = 0
  ·rw [if_pos c7] at H
   have c7b0 : (a0_2 == 0) = true := beq_iff_eq.mpr c7
   have c7b1 : (a0_2 != 0) = false := bne_eq_false_iff_eq.mpr c7
   clear c7
   replace H := Option.bind_eq_some_iff.mp H
   obtain ⟨t151, A80, H⟩ := H
   replace H : (some (!t151)) = some r := H
   have A8 := Aside0.mk A80
   clear A80
   obtain rfl := Option.some.inj H
   go_enter Tryd.func14, Tryd.ntmps14
   go_wp2_with (first | ((with_reducible refine gate_dst (N := 1) rfl ?_); refine box_event ?hg (N := 1) ?hd (cs := #[.string a0_0, .string a0_1, .int .i64 a0_2, .slice A0_3 l0_3.length c0_3, .bool a0_4, .slice A0_5 l0_5.length c0_5, .slice A0_6 l0_6.length c0_6]) (t := 25) ?hr ?_; (case hd => rfl); (case hg => rfl); (case hr => first | (go_simp; done) | (go_simp; rfl)); intro gb149 hg w9 hbox hb; have n0_ := Aside0.mk (below_step Mark.h hb); have n1_ := Aside0.mk (hbox); have n2_ := Aside0.mk ((by rw [hg]; exact (below_size Mark.h) : w.heap.size ≤ gb149)); have n3_ := Aside0.mk ((by rw [hg]; exact (below_size Mark.h) : w.heap.size ≤ gb149)); clear HB; have HB := n0_; have BK149 := n1_; have GW149 := n2_; have GE149 := n3_; clear n0_ n1_ n2_ n3_; clear hb hbox hg; have hcz10_0 : w9.cell? ⟨gb149, 0, none⟩ = some (.string a0_0) := (blk_cell BK149.out 0).trans rfl; have hcz10_1 : w9.cell? ⟨gb149, 1, none⟩ = some (.string a0_1) := (blk_cell BK149.out 1).trans rfl; have hcz10_2 : w9.cell? ⟨gb149, 2, none⟩ = some (.int .i64 a0_2) := (blk_cell BK149.out 2).trans rfl; have hcz10_3 : w9.cell? ⟨gb149, 3, none⟩ = some (.slice A0_3 l0_3.length c0_3) := (blk_cell BK149.out 3).trans rfl; have hcz10_4 : w9.cell? ⟨gb149, 4, none⟩ = some (.bool a0_4) := (blk_cell BK149.out 4).trans rfl; have hcz10_5 : w9.cell? ⟨gb149, 5, none⟩ = some (.slice A0_5 l0_5.length c0_5) := (blk_cell BK149.out 5).trans rfl; have hcz10_6 : w9.cell? ⟨gb149, 6, none⟩ = some (.slice A0_6 l0_6.length c0_6) := (blk_cell BK149.out 6).trans rfl; have hfz10_0 := blk_frozen BK149.out 0; have hfz10_1 := blk_frozen BK149.out 1; have hfz10_2 := blk_frozen BK149.out 2; have hfz10_3 := blk_frozen BK149.out 3; have hfz10_4 := blk_frozen BK149.out 4; have hfz10_5 := blk_frozen BK149.out 5; have hfz10_6 := blk_frozen BK149.out 6) | ((with_reducible refine gate_callee (f := 29) rfl ?_); refine goesL_ (some 4) rfl rfl Tryd.func29 (by kernel_rfl) rfl #[.agg #[.string a0_0, .string a0_1, .int .i64 a0_2, .slice A0_3 l0_3.length c0_3, .bool a0_4, .slice A0_5 l0_5.length c0_5, .slice A0_6 l0_6.length c0_6], .string (⟨#[67, 111, 110, 110, 101, 99, 116, 105, 111, 110]⟩ : ByteArray), .string (⟨#[99, 108, 111, 115, 101]⟩ : ByteArray)] rfl (by (try simp only [List.map_toArray, List.map_cons, List.map_nil]); first | done | rfl | (simp only [List.length_drop, List.length_take]; rfl)) ?_; (with_reducible refine (record_says.calls k a0_0 a0_1 a0_2 _ _ l0_3 a0_4 _ _ l0_5 _ _ l0_6 (⟨#[67, 111, 110, 110, 101, 99, 116, 105, 111, 110]⟩ : ByteArray) (⟨#[99, 108, 111, 115, 101]⟩ : ByteArray) false _ ?side1 ?side2 ?side3 ?side4 ?side5 ?side6 A2.out).mono ?_); (case side1 => repeat (first | exact (Kd.C_below HR0_3.out HB.out) | (with_reducible refine Kd.C_alloc ?_ _) | (with_reducible refine Kd.C_drewN ?_ _) | (with_reducible refine Kd.C_drew ?_))); (case side2 => exact HC0_3.out); (case side3 => repeat (first | exact (Kd.C_below HR0_5.out HB.out) | (with_reducible refine Kd.C_alloc ?_ _) | (with_reducible refine Kd.C_drewN ?_ _) | (with_reducible refine Kd.C_drew ?_))); (case side4 => exact HC0_5.out); (case side5 => repeat (first | exact (Kd.C_below HR0_6.out HB.out) | (with_reducible refine Kd.C_alloc ?_ _) | (with_reducible refine Kd.C_drewN ?_ _) | (with_reducible refine Kd.C_drew ?_))); (case side6 => exact HC0_6.out); rintro e w11 ⟨rfl, hb⟩; refine ⟨_, rfl, ?_⟩; have n0_ := Aside0.mk (blk_below (g := gb149) (o := .cells #[.string a0_0, .string a0_1, .int .i64 a0_2, .slice A0_3 l0_3.length c0_3, .bool a0_4, .slice A0_5 l0_5.length c0_5, .slice A0_6 l0_6.length c0_6] 25 (0, 0)) (Mark.b BK149) hb); have n1_ := Aside0.mk (below_step Mark.h hb); clear BK149; clear HB; have BK149 := n0_; have HB := n1_; clear n0_ n1_; (try clear hb); (try clear hb2); (try clear hk); (try clear hi); have hcz12_0 : w11.cell? ⟨gb149, 0, none⟩ = some (.string a0_0) := (blk_cell BK149.out 0).trans rfl; have hcz12_1 : w11.cell? ⟨gb149, 1, none⟩ = some (.string a0_1) := (blk_cell BK149.out 1).trans rfl; have hcz12_2 : w11.cell? ⟨gb149, 2, none⟩ = some (.int .i64 a0_2) := (blk_cell BK149.out 2).trans rfl; have hcz12_3 : w11.cell? ⟨gb149, 3, none⟩ = some (.slice A0_3 l0_3.length c0_3) := (blk_cell BK149.out 3).trans rfl; have hcz12_4 : w11.cell? ⟨gb149, 4, none⟩ = some (.bool a0_4) := (blk_cell BK149.out 4).trans rfl; have hcz12_5 : w11.cell? ⟨gb149, 5, none⟩ = some (.slice A0_5 l0_5.length c0_5) := (blk_cell BK149.out 5).trans rfl; have hcz12_6 : w11.cell? ⟨gb149, 6, none⟩ = some (.slice A0_6 l0_6.length c0_6) := (blk_cell BK149.out 6).trans rfl; have hfz12_0 := blk_frozen BK149.out 0; have hfz12_1 := blk_frozen BK149.out 1; have hfz12_2 := blk_frozen BK149.out 2; have hfz12_3 := blk_frozen BK149.out 3; have hfz12_4 := blk_frozen BK149.out 4; have hfz12_5 := blk_frozen BK149.out 5; have hfz12_6 := blk_frozen BK149.out 6) | (go_at_call 29; (with_reducible refine (record_says.calls k a0_0 a0_1 a0_2 _ _ l0_3 a0_4 _ _ l0_5 _ _ l0_6 (⟨#[67, 111, 110, 110, 101, 99, 116, 105, 111, 110]⟩ : ByteArray) (⟨#[107, 101, 101, 112, 45, 97, 108, 105, 118, 101]⟩ : ByteArray) t151 _ ?side1 ?side2 ?side3 ?side4 ?side5 ?side6 A8.out).mono ?_); (case side1 => repeat (first | exact (Kd.C_below HR0_3.out HB.out) | (with_reducible refine Kd.C_alloc ?_ _) | (with_reducible refine Kd.C_drewN ?_ _) | (with_reducible refine Kd.C_drew ?_))); (case side2 => exact HC0_3.out); (case side3 => repeat (first | exact (Kd.C_below HR0_5.out HB.out) | (with_reducible refine Kd.C_alloc ?_ _) | (with_reducible refine Kd.C_drewN ?_ _) | (with_reducible refine Kd.C_drew ?_))); (case side4 => exact HC0_5.out); (case side5 => repeat (first | exact (Kd.C_below HR0_6.out HB.out) | (with_reducible refine Kd.C_alloc ?_ _) | (with_reducible refine Kd.C_drewN ?_ _) | (with_reducible refine Kd.C_drew ?_))); (case side6 => exact HC0_6.out); rintro e w13 ⟨rfl, hb⟩; have n0_ := Aside0.mk (blk_below (g := gb149) (o := .cells #[.string a0_0, .string a0_1, .int .i64 a0_2, .slice A0_3 l0_3.length c0_3, .bool a0_4, .slice A0_5 l0_5.length c0_5, .slice A0_6 l0_6.length c0_6] 25 (0, 0)) (Mark.b BK149) hb); have n1_ := Aside0.mk (below_step Mark.h hb); clear BK149; clear HB; have BK149 := n0_; have HB := n1_; clear n0_ n1_; (try clear hb); (try clear hb2); (try clear hk); (try clear hi)))
   go_ret
   exact ⟨by first | rfl | (simp [errW_none, errW_some] <;> rfl) | (simp [*, errW_none, errW_some] <;> rfl), Mark.h⟩
  ·rw [if_neg c7] at H
   have c7b0 : (a0_2 == 0) = false := beq_eq_false_iff_ne.mpr c7
   have c7b1 : (a0_2 != 0) = true := bne_iff_ne.mpr c7
   obtain rfl := Option.some.inj H
   go_enter Tryd.func14, Tryd.ntmps14
   go_wp2_with (first | ((with_reducible refine gate_dst (N := 1) rfl ?_); refine box_event ?hg (N := 1) ?hd (cs := #[.string a0_0, .string a0_1, .int .i64 a0_2, .slice A0_3 l0_3.length c0_3, .bool a0_4, .slice A0_5 l0_5.length c0_5, .slice A0_6 l0_6.length c0_6]) (t := 25) ?hr ?_; (case hd => rfl); (case hg => rfl); (case hr => first | (go_simp; done) | (go_simp; rfl)); intro gb149 hg w14 hbox hb; have n0_ := Aside0.mk (below_step Mark.h hb); have n1_ := Aside0.mk (hbox); have n2_ := Aside0.mk ((by rw [hg]; exact (below_size Mark.h) : w.heap.size ≤ gb149)); have n3_ := Aside0.mk ((by rw [hg]; exact (below_size Mark.h) : w.heap.size ≤ gb149)); clear HB; have HB := n0_; have BK149 := n1_; have GW149 := n2_; have GE149 := n3_; clear n0_ n1_ n2_ n3_; clear hb hbox hg; have hcz15_0 : w14.cell? ⟨gb149, 0, none⟩ = some (.string a0_0) := (blk_cell BK149.out 0).trans rfl; have hcz15_1 : w14.cell? ⟨gb149, 1, none⟩ = some (.string a0_1) := (blk_cell BK149.out 1).trans rfl; have hcz15_2 : w14.cell? ⟨gb149, 2, none⟩ = some (.int .i64 a0_2) := (blk_cell BK149.out 2).trans rfl; have hcz15_3 : w14.cell? ⟨gb149, 3, none⟩ = some (.slice A0_3 l0_3.length c0_3) := (blk_cell BK149.out 3).trans rfl; have hcz15_4 : w14.cell? ⟨gb149, 4, none⟩ = some (.bool a0_4) := (blk_cell BK149.out 4).trans rfl; have hcz15_5 : w14.cell? ⟨gb149, 5, none⟩ = some (.slice A0_5 l0_5.length c0_5) := (blk_cell BK149.out 5).trans rfl; have hcz15_6 : w14.cell? ⟨gb149, 6, none⟩ = some (.slice A0_6 l0_6.length c0_6) := (blk_cell BK149.out 6).trans rfl; have hfz15_0 := blk_frozen BK149.out 0; have hfz15_1 := blk_frozen BK149.out 1; have hfz15_2 := blk_frozen BK149.out 2; have hfz15_3 := blk_frozen BK149.out 3; have hfz15_4 := blk_frozen BK149.out 4; have hfz15_5 := blk_frozen BK149.out 5; have hfz15_6 := blk_frozen BK149.out 6) | ((with_reducible refine gate_callee (f := 29) rfl ?_); refine goesL_ (some 4) rfl rfl Tryd.func29 (by kernel_rfl) rfl #[.agg #[.string a0_0, .string a0_1, .int .i64 a0_2, .slice A0_3 l0_3.length c0_3, .bool a0_4, .slice A0_5 l0_5.length c0_5, .slice A0_6 l0_6.length c0_6], .string (⟨#[67, 111, 110, 110, 101, 99, 116, 105, 111, 110]⟩ : ByteArray), .string (⟨#[99, 108, 111, 115, 101]⟩ : ByteArray)] rfl (by (try simp only [List.map_toArray, List.map_cons, List.map_nil]); first | done | rfl | (simp only [List.length_drop, List.length_take]; rfl)) ?_; (with_reducible refine (record_says.calls k a0_0 a0_1 a0_2 _ _ l0_3 a0_4 _ _ l0_5 _ _ l0_6 (⟨#[67, 111, 110, 110, 101, 99, 116, 105, 111, 110]⟩ : ByteArray) (⟨#[99, 108, 111, 115, 101]⟩ : ByteArray) false _ ?side1 ?side2 ?side3 ?side4 ?side5 ?side6 A2.out).mono ?_); (case side1 => repeat (first | exact (Kd.C_below HR0_3.out HB.out) | (with_reducible refine Kd.C_alloc ?_ _) | (with_reducible refine Kd.C_drewN ?_ _) | (with_reducible refine Kd.C_drew ?_))); (case side2 => exact HC0_3.out); (case side3 => repeat (first | exact (Kd.C_below HR0_5.out HB.out) | (with_reducible refine Kd.C_alloc ?_ _) | (with_reducible refine Kd.C_drewN ?_ _) | (with_reducible refine Kd.C_drew ?_))); (case side4 => exact HC0_5.out); (case side5 => repeat (first | exact (Kd.C_below HR0_6.out HB.out) | (with_reducible refine Kd.C_alloc ?_ _) | (with_reducible refine Kd.C_drewN ?_ _) | (with_reducible refine Kd.C_drew ?_))); (case side6 => exact HC0_6.out); rintro e w16 ⟨rfl, hb⟩; refine ⟨_, rfl, ?_⟩; have n0_ := Aside0.mk (blk_below (g := gb149) (o := .cells #[.string a0_0, .string a0_1, .int .i64 a0_2, .slice A0_3 l0_3.length c0_3, .bool a0_4, .slice A0_5 l0_5.length c0_5, .slice A0_6 l0_6.length c0_6] 25 (0, 0)) (Mark.b BK149) hb); have n1_ := Aside0.mk (below_step Mark.h hb); clear BK149; clear HB; have BK149 := n0_; have HB := n1_; clear n0_ n1_; (try clear hb); (try clear hb2); (try clear hk); (try clear hi); have hcz17_0 : w16.cell? ⟨gb149, 0, none⟩ = some (.string a0_0) := (blk_cell BK149.out 0).trans rfl; have hcz17_1 : w16.cell? ⟨gb149, 1, none⟩ = some (.string a0_1) := (blk_cell BK149.out 1).trans rfl; have hcz17_2 : w16.cell? ⟨gb149, 2, none⟩ = some (.int .i64 a0_2) := (blk_cell BK149.out 2).trans rfl; have hcz17_3 : w16.cell? ⟨gb149, 3, none⟩ = some (.slice A0_3 l0_3.length c0_3) := (blk_cell BK149.out 3).trans rfl; have hcz17_4 : w16.cell? ⟨gb149, 4, none⟩ = some (.bool a0_4) := (blk_cell BK149.out 4).trans rfl; have hcz17_5 : w16.cell? ⟨gb149, 5, none⟩ = some (.slice A0_5 l0_5.length c0_5) := (blk_cell BK149.out 5).trans rfl; have hcz17_6 : w16.cell? ⟨gb149, 6, none⟩ = some (.slice A0_6 l0_6.length c0_6) := (blk_cell BK149.out 6).trans rfl; have hfz17_0 := blk_frozen BK149.out 0; have hfz17_1 := blk_frozen BK149.out 1; have hfz17_2 := blk_frozen BK149.out 2; have hfz17_3 := blk_frozen BK149.out 3; have hfz17_4 := blk_frozen BK149.out 4; have hfz17_5 := blk_frozen BK149.out 5; have hfz17_6 := blk_frozen BK149.out 6))
   go_ret
   exact ⟨by first | rfl | (simp [errW_none, errW_some] <;> rfl) | (simp [*, errW_none, errW_some] <;> rfl), Mark.h⟩

end Go.Proofs.YtomofacchnmepaaDoor.PRecordCopies
