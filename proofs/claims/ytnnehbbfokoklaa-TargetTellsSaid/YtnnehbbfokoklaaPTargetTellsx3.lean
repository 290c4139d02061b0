-- Written by a program of this session (wip/tools/myprint.sh)
import Derived.Test.YtnnehbbfokoklaaPTargetTellsx0
import Derived.Test.YtnnehbbfokoklaaPTargetTellsx2
namespace Go.Proofs.Ytnnehbbfokoklaa.PTargetTells
open Go.RowKit Go.Proofs.YtnnehbbfokoklaaW.PrintWords Go.Proofs.YtnnehbbfokoklaaW.PrintLast Go.Proofs.YtnnehbbfokoklaaW.PrintMore
attribute [local go_sem] max2_int min2_int max_two min_two max_three min_three max_four min_four   -- for this text's walks alone
set_option linter.unusedVariables false
set_option linter.unusedSimpArgs false

/-! ### number_read: function 46 -/
mutual
def number_read.j0 : Nat → ByteArray → Int → Int → Bool → Option (Int × Int)
 | 0, _, _, _, _ => none
 | k + 1, x0, x1, x2, x22 => if x22 = true then (some (0, 22)) else (number_read.l0 k x0 x1 (mx x2 0) 0 (x0.size : Int) 0)
def number_read.l0 : Nat → ByteArray → Int → Int → Int → Int → Int → Option (Int × Int)
 | 0, _, _, _, _, _, _ => none
 | k + 1, x0, x1, x2, x10, x26, x27 => if x27 < x26 then (if 0 ≤ x27 then (if x27 < (x0.size : Int) then ((octet_Hex.f (bt x0 x27)).bind fun bt125 => (if bt125.1 > x2 then (some (0, 23)) else (if x1 = 0 then (none) else (if x10 > (wrap64 (Int.tdiv (wrap64 (x2 - bt125.1)) x1)) then (some (0, 23)) else (number_read.l0 k x0 x1 x2 (wrap64 ((wrap64 (x10 * x1)) + bt125.1)) x26 (wrap64 (x27 + 1))))))) else (none)) else (none)) else (some (x10, 0))
end
def number_read.f (k : Nat) (a0 : ByteArray) (a1 : Int) (a2 : Int) (a3 : Int) : Option (Int × Int) := if a0.toList = ([] : List UInt8) then (number_read.j0 k a0 a1 a2 true) else ((octet_All.f k a0 (([a3] : List Int))).bind fun t124 => (number_read.j0 k a0 a1 a2 (!t124)))
theorem number_read.mono_l : ∀ k, (∀ y0 y1 y2 y3, LeO (number_read.j0 k y0 y1 y2 y3) (number_read.j0 (k + 1) y0 y1 y2 y3)) ∧ (∀ y0 y1 y2 y3 y4 y5, LeO (number_read.l0 k y0 y1 y2 y3 y4 y5) (number_read.l0 (k + 1) y0 y1 y2 y3 y4 y5))
 | 0 => ⟨fun _ _ _ _ r h => by simp [number_read.j0] at h, fun _ _ _ _ _ _ r h => by simp [number_read.l0] at h⟩
 | k + 1 => by
  obtain ⟨ih0, ih1⟩ := number_read.mono_l k
  refine ⟨?_, ?_⟩
  ·intro y0 y1 y2 y3
   unfold number_read.j0
   repeat' first
   | (with_reducible exact ih0 _ _ _ _)
   | (with_reducible exact ih1 _ _ _ _ _ _)
   | (with_reducible exact octet_All.mono _ _ _)
   | (with_reducible exact LeO.refl _)
   | (with_reducible exact LeO.none _)
   | (with_reducible refine LeO.ite ?_ ?_)
   | (with_reducible refine LeO.bind ?_ (fun _ => ?_))
   | exact ih0 _ _ _ _
   | exact ih1 _ _ _ _ _ _
   | exact octet_All.mono _ _ _
   | exact LeO.none _
   | refine LeO.ite ?_ ?_
   | refine LeO.bind ?_ (fun _ => ?_)
  ·intro y0 y1 y2 y3 y4 y5
   unfold number_read.l0
   repeat' first
   | (with_reducible exact ih0 _ _ _ _)
   | (with_reducible exact ih1 _ _ _ _ _ _)
   | (with_reducible exact octet_All.mono _ _ _)
   | (with_reducible exact LeO.refl _)
   | (with_reducible exact LeO.none _)
   | (with_reducible refine LeO.ite ?_ ?_)
   | (with_reducible refine LeO.bind ?_ (fun _ => ?_))
   | exact ih0 _ _ _ _
   | exact ih1 _ _ _ _ _ _
   | exact octet_All.mono _ _ _
   | exact LeO.none _
   | refine LeO.ite ?_ ?_
   | refine LeO.bind ?_ (fun _ => ?_)
theorem number_read.mono : ∀ a0 a1 a2 a3 k, LeO (number_read.f k a0 a1 a2 a3) (number_read.f (k + 1) a0 a1 a2 a3) := by
 intro a0 a1 a2 a3 k
 obtain ⟨ih0, ih1⟩ := number_read.mono_l k
 unfold number_read.f
 repeat' first
   | (with_reducible exact ih0 _ _ _ _)
   | (with_reducible exact ih1 _ _ _ _ _ _)
   | (with_reducible exact octet_All.mono _ _ _)
   | (with_reducible exact LeO.refl _)
   | (with_reducible exact LeO.none _)
   | (with_reducible refine LeO.ite ?_ ?_)
   | (with_reducible refine LeO.bind ?_ (fun _ => ?_))
   | exact ih0 _ _ _ _
   | exact ih1 _ _ _ _ _ _
   | exact octet_All.mono _ _ _
   | exact LeO.none _
   | refine LeO.ite ?_ ?_
   | refine LeO.bind ?_ (fun _ => ?_)
set_option maxHeartbeats 8000000 in
set_option maxRecDepth 100000 in
theorem number_read.calls (k : Nat) (a0 : ByteArray) (a1 : Int) (a2 : Int) (a3 : Int) (r1 : Int) (r2 : Int) (w : World) (h : number_read.f k a0 a1 a2 a3 = some (r1, r2)) :
  Calls Try.prog 46 #[.string a0, .int .i64 a1, .int .i64 a2, .int .i64 a3] w fun e w' => e = .returned (.tuple #[.int .i64 r1, .int .i64 r2]) ∧ Below w.heap.size w w' := by
 have HB := Aside0.mk (Below.refl w.heap.size w)
 have H : (if a0.toList = ([] : List UInt8) then (number_read.j0 k a0 a1 a2 true) else ((octet_All.f k a0 (([a3] : List Int))).bind fun t124 => (number_read.j0 k a0 a1 a2 (!t124)))) = some (r1, r2) := h
 clear h
 have HC5 := Aside0.mk H
 clear H
 go_enter Try.func46, Try.ntmps46
 go_upto_region 1 with (fail)
 go_cut [22] (fun v22 wc => ∃ (kq : Nat) (x22_4 : Bool), v22 = .bool x22_4 ∧ Aside0 (number_read.j0 kq a0 a1 a2 x22_4 = some (r1, r2)) ∧ Aside0 (kq ≤ k) ∧ Aside0 (Below w.heap.size w wc))
 case first =>
  have H := HC5.out
  clear HC5
  by_cases c6 : a0.toList = ([] : List UInt8)
  ·rw [if_pos c6] at H
   have c6b0 : (a0.toList == ([] : List UInt8)) = true := beq_iff_eq.mpr c6
   have c6b1 : (a0.toList != ([] : List UInt8)) = false := bne_eq_false_iff_eq.mpr c6
   clear c6
   (first | rw [c6b0] | (simp only [i64_w, i32_w]; rw [c6b0]) | skip)
   have H' := Aside0.mk H
   clear H
   go_wp2
   go_meet
   case rel => exact ⟨_, (true), (by first | rfl | (simp; done) | (simp [*]; done)), H', ⟨by first | omega | exact Nat.le_refl _⟩, ⟨by repeat (first | (with_reducible first | exact HB.out | apply below_alloc | apply pw_below_drewN | apply below_drew1) | exact HB.out)⟩⟩
  ·rw [if_neg c6] at H
   have c6b0 : (a0.toList == ([] : List UInt8)) = false := beq_eq_false_iff_ne.mpr c6
   have c6b1 : (a0.toList != ([] : List UInt8)) = true := bne_iff_ne.mpr c6
   (first | rw [c6b0] | (simp only [i64_w, i32_w]; rw [c6b0]) | skip)
   obtain ⟨y121, hy121⟩ : ∃ y_ : List Int, y_ = (([a3] : List Int)) := ⟨_, rfl⟩
   replace H : ((octet_All.f k a0 y121).bind fun t124 => (number_read.j0 k a0 a1 a2 (!t124))) = some (r1, r2) := by first | (rw [hy121]; with_reducible exact H) | (have H2_ := (Option.bind_some _ _).symm.trans H; rw [hy121]; with_reducible exact H2_) | (have H2_ := (Option.bind_some _ _).symm.trans H; with_reducible exact H2_) | with_reducible exact H | (rw [hy121]; exact H) | exact H
   have Ny121 := Aside0.mk hy121
   clear hy121
   replace H := Option.bind_eq_some_iff.mp H
   obtain ⟨t124, A70, H⟩ := H
   replace H : (number_read.j0 k a0 a1 a2 (!t124)) = some (r1, r2) := H
   have A7 := Aside0.mk A70
   clear A70
   have H' := Aside0.mk H
   clear H
   go_wp2_with (first | ((with_reducible refine gate_dst (N := 19) rfl ?_); (try (refine gate_guard (by rfl) ?_; dsimp only)); refine Kd.R_lit (Kd.int .i64) _ 3 ?hg (N := 19) ?hd (xs := ([a3] : List Int)) (inner := [.int .i64 a3]) (ok := fun _ => True) (okp := fun _ => True) ?hr ?hp (fun _ hk => hk) trivial (Below.refl _ _) (Nat.le_refl _) (by simp) ?_; (case hd => rfl); (case hg => rfl); (case hr => first | (go_simp; done) | (go_simp; rfl)); (case hp => exact (Reps.one (show Kd.M (Kd.int .i64) _ _ _ a3 [.int .i64 a3] from rfl) (Reps.none _ _))); intro v122 w8 ho9 hb hg_ hnew_; clear hg_ hnew_; (first | rw [← Ny121.out] at ho9 | (simp only [Int.reduceToNat] at ho9; rw [← Ny121.out] at ho9)); have n0_ := Aside0.mk (Kd.R_lower ho9 (below_size (by repeat (first | (with_reducible first | exact HB.out | apply below_alloc | apply pw_below_drewN | apply below_drew1) | exact HB.out)))); have n1_ := Aside0.mk (below_step (by repeat (first | (with_reducible first | exact HB.out | apply below_alloc | apply pw_below_drewN | apply below_drew1) | exact HB.out)) hb); clear HB; have HO123 := n0_; have HB := n1_; clear n0_ n1_; clear hb ho9; obtain ⟨Ao10, co10, eo10⟩ := Kd.R_slice HO123.out; subst eo10) | (go_at_call 49; (with_reducible refine (octet_All.calls k a0 _ _ y121 t124 _ ?side1 ?side2 A7.out).mono ?_); (case side1 => repeat (first | exact (Kd.R_reads' HO123.out).2.2 | (with_reducible refine Kd.C_alloc ?_ _) | (with_reducible refine Kd.C_drewN ?_ _) | (with_reducible refine Kd.C_drew ?_))); (case side2 => exact (Kd.R_reads' HO123.out).2.1); rintro e w' ⟨rfl, ⟨nd, rfl⟩⟩))
   go_meet
   case rel => exact ⟨_, (!t124), (by first | rfl | (simp; done) | (simp [*]; done)), H', ⟨by first | omega | exact Nat.le_refl _⟩, ⟨by repeat (first | (with_reducible first | exact HB.out | apply below_alloc | apply pw_below_drewN | apply below_drew1) | exact HB.out)⟩⟩
 case rest =>
  clear HC5
  try clear p2
  try clear c4
  try clear c6
  try clear c6b0
  try clear c6b1
  obtain ⟨kq, x22_4, rfl, HA, HJ4, HB⟩ := hcut
  cases kq with
  | zero => exact absurd HA.out (by simp [number_read.j0])
  | succ kj4 =>
   have H := HA.out
   clear HA
   simp only [number_read.j0] at H
   by_cases c11 : x22_4 = true
   ·subst c11
    have H1 : (some (0, 22)) = some (r1, r2) := by rw [if_pos rfl] at H; exact H
    clear H
    have H := H1
    clear H1
    simp only [Option.some.injEq, Prod.mk.injEq] at H
    obtain ⟨rfl, rfl⟩ := H
    go_wp2
    go_ret2
    exact ⟨by first | rfl | (simp [errW_none, errW_some] <;> rfl) | (simp [*, errW_none, errW_some] <;> rfl), by repeat (first | (with_reducible first | exact HB.out | apply below_alloc | apply pw_below_drewN | apply below_drew1) | exact HB.out)⟩
   ·replace c11 := Bool.eq_false_iff.mpr c11
    subst c11
    have H1 : (number_read.l0 kj4 a0 a1 (mx a2 0) 0 (a0.size : Int) 0) = some (r1, r2) := by rw [if_neg (show ¬ (false = true) by decide)] at H; exact H
    clear H
    have H := H1
    clear H1
    obtain ⟨ji12, hji12⟩ : ∃ j_ : Int, (mx a2 0) = j_ := ⟨_, rfl⟩
    replace H : (number_read.l0 kj4 a0 a1 ji12 0 (a0.size : Int) 0) = some (r1, r2) := by first | (rw [hji12] at H; exact H) | (simp only [hji12] at H ⊢; exact H)
    have hji12_ : (if a2 < 0 then 0 else a2) = ji12 := hji12
    have H' := Aside0.mk H
    clear H
    go_wp2
    go_loopg [10, 27] kj4 (fun kq v10 v27 w' => ∃ (x10_2 : Int) (x27_2 : Int), v10 = .int .i64 x10_2 ∧ v27 = .int .i64 x27_2 ∧ Aside0 (number_read.l0 kq a0 a1 ji12 x10_2 (a0.size : Int) x27_2 = some (r1, r2)) ∧ Aside0 (kq ≤ kj4) ∧ Aside0 (Below w.heap.size w w'))
    case atStart => exact ⟨(0), (0), (by first | rfl | (simp; done) | (simp [*]; done)), (by first | rfl | (simp; done) | (simp [*]; done)), H', ⟨Nat.le_refl _⟩, ⟨by repeat (first | (with_reducible first | exact HB.out | apply below_alloc | apply pw_below_drewN | apply below_drew1) | exact HB.out)⟩⟩
    case round =>
     clear H'
     try clear c1
     try clear p2
     try clear c4
     try clear c6
     try clear c6b0
     try clear c6b1
     try clear c11
     try clear p2
     obtain ⟨x10_2, x27_2, rfl, rfl, HA, HK2, HB⟩ := hrel
     cases gk with
     | zero => exact absurd HA.out (by simp [number_read.l0])
     | succ k2 =>
      have H := HA.out
      clear HA
      simp only [number_read.l0] at H
      by_cases c13 : x27_2 < (a0.size : Int)
      ·rw [if_pos c13] at H
       have c13b0 : decide (x27_2 < (a0.size : Int)) = true := decide_eq_true c13
       clear c13
       by_cases c14 : 0 ≤ x27_2
       ·rw [if_pos c14] at H
        have c14b0 : decide (0 ≤ x27_2) = true := decide_eq_true c14
        clear c14
        by_cases c15 : x27_2 < (a0.size : Int)
        ·rw [if_pos c15] at H
         have c15b0 : decide (x27_2 < (a0.size : Int)) = true := decide_eq_true c15
         clear c15
         replace H := Option.bind_eq_some_iff.mp H
         obtain ⟨⟨t125, t126⟩, A170, H⟩ := H
         replace H : (if t125 > ji12 then (some (0, 23)) else (if a1 = 0 then (none) else (if x10_2 > (wrap64 (Int.tdiv (wrap64 (ji12 - t125)) a1)) then (some (0, 23)) else (number_read.l0 k2 a0 a1 ji12 (wrap64 ((wrap64 (x10_2 * a1)) + t125)) (a0.size : Int) (wrap64 (x27_2 + 1)))))) = some (r1, r2) := H
         have A17 := Aside0.mk A170
         clear A170
         by_cases c18 : t125 > ji12
         ·rw [if_pos c18] at H
          have c18b0 : decide (ji12 < t125) = true := decide_eq_true c18
          clear c18
          simp only [Option.some.injEq, Prod.mk.injEq] at H
          obtain ⟨rfl, rfl⟩ := H
          have p16 : 0 ≤ (x27_2 : Int) := of_decide_eq_true (by first | (with_reducible assumption) | assumption)
          have q16 : x27_2 < (a0.size : Int) := of_decide_eq_true (by first | (with_reducible assumption) | assumption)
          have hx16 := bt_at a0 x27_2
          replace p16 := eq_true p16
          replace q16 := eq_true q16
          go_wp2_with (first | ((with_reducible refine gate_callee (f := 56) rfl ?_); refine goesL_ (some 34) rfl rfl Try.func56 (by kernel_rfl) rfl #[.int .u8 (bt a0 x27_2)] rfl (by (try simp only [List.map_toArray, List.map_cons, List.map_nil]); first | done | rfl | (simp only [List.length_drop, List.length_take]; rfl)) ?_; (with_reducible refine (octet_Hex.calls (bt a0 x27_2) t125 t126 _ A17.out).mono ?_); rintro e w' ⟨rfl, ⟨nd, rfl⟩⟩; refine ⟨_, rfl, ?_⟩))
          go_ret2
          exact ⟨by first | rfl | (simp [errW_none, errW_some] <;> rfl) | (simp only [← hji12]; first | rfl | (simp [errW_none, errW_some] <;> rfl)) | (simp [*, errW_none, errW_some] <;> rfl), by repeat (first | (with_reducible first | exact HB.out | apply below_alloc | apply pw_below_drewN | apply below_drew1) | exact HB.out)⟩
         ·rw [if_neg c18] at H
          have c18b0 : decide (ji12 < t125) = false := decide_eq_false c18
          clear c18
          by_cases c19 : a1 = 0
          ·rw [if_pos c19] at H
           exact absurd H (by simp)
          ·rw [if_neg c19] at H
           have c19b0 : (a1 == 0) = false := beq_eq_false_iff_ne.mpr c19
           have c19b1 : (a1 != 0) = true := bne_iff_ne.mpr c19
           by_cases c20 : x10_2 > (wrap64 (Int.tdiv (wrap64 (ji12 - t125)) a1))
           ·rw [if_pos c20] at H
            have c20b0 : decide ((wrap64 (Int.tdiv (wrap64 (ji12 - t125)) a1)) < x10_2) = true := decide_eq_true c20
            clear c20
            simp only [Option.some.injEq, Prod.mk.injEq] at H
            obtain ⟨rfl, rfl⟩ := H
            have p16 : 0 ≤ (x27_2 : Int) := of_decide_eq_true (by first | (with_reducible assumption) | assumption)
            have q16 : x27_2 < (a0.size : Int) := of_decide_eq_true (by first | (with_reducible assumption) | assumption)
            have hx16 := bt_at a0 x27_2
            replace p16 := eq_true p16
            replace q16 := eq_true q16
            go_wp2_with (first | ((with_reducible refine gate_callee (f := 56) rfl ?_); refine goesL_ (some 34) rfl rfl Try.func56 (by kernel_rfl) rfl #[.int .u8 (bt a0 x27_2)] rfl (by (try simp only [List.map_toArray, List.map_cons, List.map_nil]); first | done | rfl | (simp only [List.length_drop, List.length_take]; rfl)) ?_; (with_reducible refine (octet_Hex.calls (bt a0 x27_2) t125 t126 _ A17.out).mono ?_); rintro e w' ⟨rfl, ⟨nd, rfl⟩⟩; refine ⟨_, rfl, ?_⟩))
            go_ret2
            exact ⟨by first | rfl | (simp [errW_none, errW_some] <;> rfl) | (simp only [← hji12]; first | rfl | (simp [errW_none, errW_some] <;> rfl)) | (simp [*, errW_none, errW_some] <;> rfl), by repeat (first | (with_reducible first | exact HB.out | apply below_alloc | apply pw_below_drewN | apply below_drew1) | exact HB.out)⟩
           ·rw [if_neg c20] at H
            have c20b0 : decide ((wrap64 (Int.tdiv (wrap64 (ji12 - t125)) a1)) < x10_2) = false := decide_eq_false c20
            clear c20
            have H' := Aside0.mk H
            clear H
            have p16 : 0 ≤ (x27_2 : Int) := of_decide_eq_true (by first | (with_reducible assumption) | assumption)
            have q16 : x27_2 < (a0.size : Int) := of_decide_eq_true (by first | (with_reducible assumption) | assumption)
            have hx16 := bt_at a0 x27_2
            replace p16 := eq_true p16
            replace q16 := eq_true q16
            go_wp2_with (first | ((with_reducible refine gate_callee (f := 56) rfl ?_); refine goesL_ (some 34) rfl rfl Try.func56 (by kernel_rfl) rfl #[.int .u8 (bt a0 x27_2)] rfl (by (try simp only [List.map_toArray, List.map_cons, List.map_nil]); first | done | rfl | (simp only [List.length_drop, List.length_take]; rfl)) ?_; (with_reducible refine (octet_Hex.calls (bt a0 x27_2) t125 t126 _ A17.out).mono ?_); rintro e w' ⟨rfl, ⟨nd, rfl⟩⟩; refine ⟨_, rfl, ?_⟩))
            go_roundg k2
            case measure => have := HJ4.out; have := HK2.out; omega
            case rel => exact ⟨(wrap64 ((wrap64 (x10_2 * a1)) + t125)), (wrap64 (x27_2 + 1)), (by first | rfl | (simp; done) | (simp [*]; done)), (by first | rfl | (simp; done) | (simp [*]; done)), H', ⟨by have := HJ4.out; have := HK2.out; omega⟩, ⟨by repeat (first | (with_reducible first | exact HB.out | apply below_alloc | apply pw_below_drewN | apply below_drew1) | exact HB.out)⟩⟩
        ·rw [if_neg c15] at H
         exact absurd H (by simp)
       ·rw [if_neg c14] at H
        exact absurd H (by simp)
      ·rw [if_neg c13] at H
       have c13b0 : decide (x27_2 < (a0.size : Int)) = false := decide_eq_false c13
       clear c13
       simp only [Option.some.injEq, Prod.mk.injEq] at H
       obtain ⟨rfl, rfl⟩ := H
       go_wp2
       go_ret2
       exact ⟨by first | rfl | (simp [errW_none, errW_some] <;> rfl) | (simp only [← hji12]; first | rfl | (simp [errW_none, errW_some] <;> rfl)) | (simp [*, errW_none, errW_some] <;> rfl), by repeat (first | (with_reducible first | exact HB.out | apply below_alloc | apply pw_below_drewN | apply below_drew1) | exact HB.out)⟩

/-! ### number_Dec: function 29 -/
def number_Dec.f (k : Nat) (a0 : ByteArray) (a1 : Int) : Option (Int × Int) := (number_read.f k a0 10 a1 4).bind fun bt127 => (some (bt127.1, bt127.2))
theorem number_Dec.mono : ∀ a0 a1 k, LeO (number_Dec.f k a0 a1) (number_Dec.f (k + 1) a0 a1) := by
 intro a0 a1 k
 unfold number_Dec.f
 repeat' first
   | (with_reducible exact number_read.mono _ _ _ _ _)
   | (with_reducible exact LeO.refl _)
   | (with_reducible exact LeO.none _)
   | (with_reducible refine LeO.ite ?_ ?_)
   | (with_reducible refine LeO.bind ?_ (fun _ => ?_))
   | exact number_read.mono _ _ _ _ _
   | exact LeO.none _
   | refine LeO.ite ?_ ?_
   | refine LeO.bind ?_ (fun _ => ?_)
set_option maxHeartbeats 8000000 in
set_option maxRecDepth 100000 in
theorem number_Dec.calls (k : Nat) (a0 : ByteArray) (a1 : Int) (r1 : Int) (r2 : Int) (w : World) (h : number_Dec.f k a0 a1 = some (r1, r2)) :
  Calls Try.prog 29 #[.string a0, .int .i64 a1] w fun e w' => e = .returned (.tuple #[.int .i64 r1, .int .i64 r2]) ∧ Below w.heap.size w w' := by
 have HB := Aside0.mk (Below.refl w.heap.size w)
 have H : ((number_read.f k a0 10 a1 4).bind fun bt127 => (some (bt127.1, bt127.2))) = some (r1, r2) := h
 clear h
 replace H := Option.bind_eq_some_iff.mp H
 obtain ⟨⟨t127, t128⟩, A30, H⟩ := H
 replace H : (some (t127, t128)) = some (r1, r2) := H
 have A3 := Aside0.mk A30
 clear A30
 simp only [Option.some.injEq, Prod.mk.injEq] at H
 obtain ⟨rfl, rfl⟩ := H
 go_enter Try.func29, Try.ntmps29
 go_wp2_with (first | ((with_reducible refine gate_callee (f := 46) rfl ?_); refine goesL_ (some 8) rfl rfl Try.func46 (by kernel_rfl) rfl #[.string a0, .int .i64 10, .int .i64 a1, .int .i64 4] rfl (by (try simp only [List.map_toArray, List.map_cons, List.map_nil]); first | done | rfl | (simp only [List.length_drop, List.length_take]; rfl)) ?_; (with_reducible refine (number_read.calls k a0 10 a1 4 t127 t128 _ A3.out).mono ?_); rintro e w4 ⟨rfl, hb⟩; refine ⟨_, rfl, ?_⟩; have n0_ := Aside0.mk (below_step (by repeat (first | (with_reducible first | exact HB.out | apply below_alloc | apply pw_below_drewN | apply below_drew1) | exact HB.out)) hb); clear HB; have HB := n0_; clear n0_; (try clear hb); (try clear hb2); (try clear hk); (try clear hi)))
 go_ret2
 exact ⟨by first | rfl | (simp [errW_none, errW_some] <;> rfl) | (simp [*, errW_none, errW_some] <;> rfl), by repeat (first | (with_reducible first | exact HB.out | apply below_alloc | apply pw_below_drewN | apply below_drew1) | exact HB.out)⟩

/-! ### target_signs: function 30 -/
mutual
def target_signs.l0 : Nat → ByteArray → ByteArray → Bool → Int → Option (Bool)
 | 0, _, _, _, _ => none
 | k + 1, x0, x1, x2, x7 => if x7 < (x0.size : Int) then (if 0 ≤ x7 then ((octet_Digit.f (bt x0 x7)).bind fun t129 => (if t129 = true then (target_signs.j1 k x0 x1 x2 x7 (bt x0 x7) true) else (if (Go.bits .or .u8 (bt x0 x7) 32) ≥ 97 then (if (Go.bits .or .u8 (bt x0 x7) 32) ≤ 122 then (target_signs.j1 k x0 x1 x2 x7 (bt x0 x7) true) else ((strings_IndexByte.f x1 (bt x0 x7)).bind fun t130 => (target_signs.j1 k x0 x1 x2 x7 (bt x0 x7) (decide (t130 ≥ 0))))) else ((strings_IndexByte.f x1 (bt x0 x7)).bind fun t131 => (target_signs.j1 k x0 x1 x2 x7 (bt x0 x7) (decide (t131 ≥ 0))))))) else (none)) else (some true)
def target_signs.j1 : Nat → ByteArray → ByteArray → Bool → Int → Int → Bool → Option (Bool)
 | 0, _, _, _, _, _, _ => none
 | k + 1, x0, x1, x2, x7, x8, x18 => if x18 = true then (target_signs.l0 k x0 x1 x2 (wrap64 (x7 + 1))) else (if x2 = true then (if x8 = 37 then (if (wrap64 (x7 + 2)) < (x0.size : Int) then (if 0 ≤ (wrap64 (x7 + 1)) then (if (wrap64 (x7 + 1)) ≤ (wrap64 (x7 + 3)) then (if (wrap64 (x7 + 3)) ≤ (x0.size : Int) then ((octet_All.f k (x0.extract ((wrap64 (x7 + 1)) : Int).toNat ((wrap64 (x7 + 3)) : Int).toNat) (([5] : List Int))).bind fun t135 => (if t135 = true then (target_signs.l0 k x0 x1 x2 (wrap64 ((wrap64 (x7 + 2)) + 1))) else (some false))) else (none)) else (none)) else (none)) else (some false)) else (some false)) else (some false))
end
def target_signs.f (k : Nat) (a0 : ByteArray) (a1 : ByteArray) (a2 : Bool) : Option (Bool) := target_signs.l0 k a0 a1 a2 0
theorem target_signs.mono_l : ∀ k, (∀ y0 y1 y2 y3, LeO (target_signs.l0 k y0 y1 y2 y3) (target_signs.l0 (k + 1) y0 y1 y2 y3)) ∧ (∀ y0 y1 y2 y3 y4 y5, LeO (target_signs.j1 k y0 y1 y2 y3 y4 y5) (target_signs.j1 (k + 1) y0 y1 y2 y3 y4 y5))
 | 0 => ⟨fun _ _ _ _ r h => by simp [target_signs.l0] at h, fun _ _ _ _ _ _ r h => by simp [target_signs.j1] at h⟩
 | k + 1 => by
  obtain ⟨ih0, ih1⟩ := target_signs.mono_l k
  refine ⟨?_, ?_⟩
  ·intro y0 y1 y2 y3
   unfold target_signs.l0
   repeat' first
   | (with_reducible exact ih0 _ _ _ _)
   | (with_reducible exact ih1 _ _ _ _ _ _)
   | (with_reducible exact octet_All.mono _ _ _)
   | (with_reducible exact LeO.refl _)
   | (with_reducible exact LeO.none _)
   | (with_reducible refine LeO.ite ?_ ?_)
   | (with_reducible refine LeO.bind ?_ (fun _ => ?_))
   | exact ih0 _ _ _ _
   | exact ih1 _ _ _ _ _ _
   | exact octet_All.mono _ _ _
   | exact LeO.none _
   | refine LeO.ite ?_ ?_
   | refine LeO.bind ?_ (fun _ => ?_)
  ·intro y0 y1 y2 y3 y4 y5
   unfold target_signs.j1
   repeat' first
   | (with_reducible exact ih0 _ _ _ _)
   | (with_reducible exact ih1 _ _ _ _ _ _)
   | (with_reducible exact octet_All.mono _ _ _)
   | (with_reducible exact LeO.refl _)
   | (with_reducible exact LeO.none _)
   | (with_reducible refine LeO.ite ?_ ?_)
   | (with_reducible refine LeO.bind ?_ (fun _ => ?_))
   | exact ih0 _ _ _ _
   | exact ih1 _ _ _ _ _ _
   | exact octet_All.mono _ _ _
   | exact LeO.none _
   | refine LeO.ite ?_ ?_
   | refine LeO.bind ?_ (fun _ => ?_)
theorem target_signs.mono : ∀ a0 a1 a2 k, LeO (target_signs.f k a0 a1 a2) (target_signs.f (k + 1) a0 a1 a2) := by
 intro a0 a1 a2 k
 obtain ⟨ih0, ih1⟩ := target_signs.mono_l k
 unfold target_signs.f
 repeat' first
   | (with_reducible exact ih0 _ _ _ _)
   | (with_reducible exact ih1 _ _ _ _ _ _)
   | (with_reducible exact octet_All.mono _ _ _)
   | (with_reducible exact LeO.refl _)
   | (with_reducible exact LeO.none _)
   | (with_reducible refine LeO.ite ?_ ?_)
   | (with_reducible refine LeO.bind ?_ (fun _ => ?_))
   | exact ih0 _ _ _ _
   | exact ih1 _ _ _ _ _ _
   | exact octet_All.mono _ _ _
   | exact LeO.none _
   | refine LeO.ite ?_ ?_
   | refine LeO.bind ?_ (fun _ => ?_)
set_option maxHeartbeats 8000000 in
set_option maxRecDepth 100000 in
theorem target_signs.calls (k : Nat) (a0 : ByteArray) (a1 : ByteArray) (a2 : Bool) (r : Bool) (w : World) (h : target_signs.f k a0 a1 a2 = some r) :
  Calls Try.prog 30 #[.string a0, .string a1, .bool a2] w fun e w' => e = .returned (.bool r) ∧ Below w.heap.size w w' := by
 have HB := Aside0.mk (Below.refl w.heap.size w)
 have H : (target_signs.l0 k a0 a1 a2 0) = some r := h
 clear h
 have H' := Aside0.mk H
 clear H
 go_enter Try.func30, Try.ntmps30
 go_wp2
 go_loopg [7] k (fun kq v7 w' => ∃ (x7_1 : Int), v7 = .int .i64 x7_1 ∧ Aside0 (target_signs.l0 kq a0 a1 a2 x7_1 = some r) ∧ Aside0 (kq ≤ k) ∧ Aside0 (Below w.heap.size w w'))
 case atStart => exact ⟨(0), (by first | rfl | (simp; done) | (simp [*]; done)), H', ⟨Nat.le_refl _⟩, ⟨by repeat (first | (with_reducible first | exact HB.out | apply below_alloc | apply pw_below_drewN | apply below_drew1) | exact HB.out)⟩⟩
 case round =>
  clear H'
  try clear p2
  try clear c3
  obtain ⟨x7_1, rfl, HA, HK1, HB⟩ := hrel
  cases gk with
  | zero => exact absurd HA.out (by simp [target_signs.l0])
  | succ k1 =>
   have H := HA.out
   clear HA
   simp only [target_signs.l0] at H
   by_cases c4 : x7_1 < (a0.size : Int)
   ·rw [if_pos c4] at H
    have c4b0 : decide (x7_1 < (a0.size : Int)) = true := decide_eq_true c4
    clear c4
    by_cases c5 : 0 ≤ x7_1
    ·rw [if_pos c5] at H
     have c5b0 : decide (0 ≤ x7_1) = true := decide_eq_true c5
     clear c5
     have HC7 := Aside0.mk H
     clear H
     have p6 : 0 ≤ (x7_1 : Int) := of_decide_eq_true (by first | (with_reducible assumption) | assumption)
     have q6 : x7_1 < (a0.size : Int) := of_decide_eq_true (by first | (with_reducible assumption) | assumption)
     have hx6 := bt_at a0 x7_1
     replace p6 := eq_true p6
     replace q6 := eq_true q6
     go_upto_region 6 with (fail)
     go_cut [18] (fun v18 wc => ∃ (kq : Nat) (x18_6 : Bool), v18 = .bool x18_6 ∧ Aside0 (target_signs.j1 kq a0 a1 a2 x7_1 (bt a0 x7_1) x18_6 = some r) ∧ Aside0 (kq ≤ k1) ∧ Aside0 (Below w.heap.size w wc))
     case first =>
      have H := HC7.out
      clear HC7
      replace H := Option.bind_eq_some_iff.mp H
      obtain ⟨t129, A80, H⟩ := H
      replace H : (if t129 = true then (target_signs.j1 k1 a0 a1 a2 x7_1 (bt a0 x7_1) true) else (if (Go.bits .or .u8 (bt a0 x7_1) 32) ≥ 97 then (if (Go.bits .or .u8 (bt a0 x7_1) 32) ≤ 122 then (target_signs.j1 k1 a0 a1 a2 x7_1 (bt a0 x7_1) true) else ((strings_IndexByte.f a1 (bt a0 x7_1)).bind fun t130 => (target_signs.j1 k1 a0 a1 a2 x7_1 (bt a0 x7_1) (decide (t130 ≥ 0))))) else ((strings_IndexByte.f a1 (bt a0 x7_1)).bind fun t131 => (target_signs.j1 k1 a0 a1 a2 x7_1 (bt a0 x7_1) (decide (t131 ≥ 0)))))) = some r := H
      have A8 := Aside0.mk A80
      clear A80
      by_cases c9 : t129 = true
      ·subst c9
       have H1 : (target_signs.j1 k1 a0 a1 a2 x7_1 (bt a0 x7_1) true) = some r := by rw [if_pos rfl] at H; exact H
       clear H
       have H := H1
       clear H1
       have H' := Aside0.mk H
       clear H
       go_wp2_with (first | ((with_reducible refine gate_callee (f := 47) rfl ?_); refine goesL_ (some 20) rfl rfl Try.func47 (by kernel_rfl) rfl #[.int .u8 (bt a0 x7_1)] rfl (by (try simp only [List.map_toArray, List.map_cons, List.map_nil]); first | done | rfl | (simp only [List.length_drop, List.length_take]; rfl)) ?_; (with_reducible refine (octet_Digit.calls (bt a0 x7_1) true _ A8.out).mono ?_); rintro e w' ⟨rfl, ⟨nd, rfl⟩⟩; refine ⟨_, rfl, ?_⟩))
       go_meet
       case rel => exact ⟨_, (true), (by first | rfl | (simp; done) | (simp [*]; done)), H', ⟨by have := HK1.out; first | omega | exact Nat.le_refl _⟩, ⟨by repeat (first | (with_reducible first | exact HB.out | apply below_alloc | apply pw_below_drewN | apply below_drew1) | exact HB.out)⟩⟩
      ·replace c9 := Bool.eq_false_iff.mpr c9
       subst c9
       have H1 : (if (Go.bits .or .u8 (bt a0 x7_1) 32) ≥ 97 then (if (Go.bits .or .u8 (bt a0 x7_1) 32) ≤ 122 then (target_signs.j1 k1 a0 a1 a2 x7_1 (bt a0 x7_1) true) else ((strings_IndexByte.f a1 (bt a0 x7_1)).bind fun t130 => (target_signs.j1 k1 a0 a1 a2 x7_1 (bt a0 x7_1) (decide (t130 ≥ 0))))) else ((strings_IndexByte.f a1 (bt a0 x7_1)).bind fun t131 => (target_signs.j1 k1 a0 a1 a2 x7_1 (bt a0 x7_1) (decide (t131 ≥ 0))))) = some r := by rw [if_neg (show ¬ (false = true) by decide)] at H; exact H
       clear H
       have H := H1
       clear H1
       by_cases c10 : (Go.bits .or .u8 (bt a0 x7_1) 32) ≥ 97
       ·rw [if_pos c10] at H
        have c10b0 : decide (97 ≤ (Go.bits .or .u8 (bt a0 x7_1) 32)) = true := decide_eq_true c10
        clear c10
        (first | rw [c10b0] | (simp only [i64_w, i32_w]; rw [c10b0]) | skip)
        by_cases c11 : (Go.bits .or .u8 (bt a0 x7_1) 32) ≤ 122
        ·rw [if_pos c11] at H
         have c11b0 : decide ((Go.bits .or .u8 (bt a0 x7_1) 32) ≤ 122) = true := decide_eq_true c11
         clear c11
         have H' := Aside0.mk H
         clear H
         go_wp2_with (first | ((with_reducible refine gate_callee (f := 47) rfl ?_); refine goesL_ (some 20) rfl rfl Try.func47 (by kernel_rfl) rfl #[.int .u8 (bt a0 x7_1)] rfl (by (try simp only [List.map_toArray, List.map_cons, List.map_nil]); first | done | rfl | (simp only [List.length_drop, List.length_take]; rfl)) ?_; (with_reducible refine (octet_Digit.calls (bt a0 x7_1) false _ A8.out).mono ?_); rintro e w' ⟨rfl, ⟨nd, rfl⟩⟩; refine ⟨_, rfl, ?_⟩))
         go_meet
         case rel => exact ⟨_, (true), (by first | rfl | (simp; done) | (simp [*]; done)), H', ⟨by have := HK1.out; first | omega | exact Nat.le_refl _⟩, ⟨by repeat (first | (with_reducible first | exact HB.out | apply below_alloc | apply pw_below_drewN | apply below_drew1) | exact HB.out)⟩⟩
        ·rw [if_neg c11] at H
         have c11b0 : decide ((Go.bits .or .u8 (bt a0 x7_1) 32) ≤ 122) = false := decide_eq_false c11
         clear c11
         replace H := Option.bind_eq_some_iff.mp H
         obtain ⟨t130, A120, H⟩ := H
         replace H : (target_signs.j1 k1 a0 a1 a2 x7_1 (bt a0 x7_1) (decide (t130 ≥ 0))) = some r := H
         have A12 := Aside0.mk A120
         clear A120
         have H' := Aside0.mk H
         clear H
         go_wp2_with (first | ((with_reducible refine gate_callee (f := 47) rfl ?_); refine goesL_ (some 20) rfl rfl Try.func47 (by kernel_rfl) rfl #[.int .u8 (bt a0 x7_1)] rfl (by (try simp only [List.map_toArray, List.map_cons, List.map_nil]); first | done | rfl | (simp only [List.length_drop, List.length_take]; rfl)) ?_; (with_reducible refine (octet_Digit.calls (bt a0 x7_1) false _ A8.out).mono ?_); rintro e w' ⟨rfl, ⟨nd, rfl⟩⟩; refine ⟨_, rfl, ?_⟩) | (go_at_call 48; (with_reducible refine (strings_IndexByte.calls a1 (bt a0 x7_1) t130 _ A12.out).mono ?_); rintro e w' ⟨rfl, ⟨nd, rfl⟩⟩))
         go_meet
         case rel => exact ⟨_, (decide (t130 ≥ 0)), (by first | rfl | (simp; done) | (simp [*]; done)), H', ⟨by have := HK1.out; first | omega | exact Nat.le_refl _⟩, ⟨by repeat (first | (with_reducible first | exact HB.out | apply below_alloc | apply pw_below_drewN | apply below_drew1) | exact HB.out)⟩⟩
       ·rw [if_neg c10] at H
        have c10b0 : decide (97 ≤ (Go.bits .or .u8 (bt a0 x7_1) 32)) = false := decide_eq_false c10
        clear c10
        (first | rw [c10b0] | (simp only [i64_w, i32_w]; rw [c10b0]) | skip)
        replace H := Option.bind_eq_some_iff.mp H
        obtain ⟨t131, A130, H⟩ := H
        replace H : (target_signs.j1 k1 a0 a1 a2 x7_1 (bt a0 x7_1) (decide (t131 ≥ 0))) = some r := H
        have A13 := Aside0.mk A130
        clear A130
        have H' := Aside0.mk H
        clear H
        go_wp2_with (first | ((with_reducible refine gate_callee (f := 47) rfl ?_); refine goesL_ (some 20) rfl rfl Try.func47 (by kernel_rfl) rfl #[.int .u8 (bt a0 x7_1)] rfl (by (try simp only [List.map_toArray, List.map_cons, List.map_nil]); first | done | rfl | (simp only [List.length_drop, List.length_take]; rfl)) ?_; (with_reducible refine (octet_Digit.calls (bt a0 x7_1) false _ A8.out).mono ?_); rintro e w' ⟨rfl, ⟨nd, rfl⟩⟩; refine ⟨_, rfl, ?_⟩) | (go_at_call 48; (with_reducible refine (strings_IndexByte.calls a1 (bt a0 x7_1) t131 _ A13.out).mono ?_); rintro e w' ⟨rfl, ⟨nd, rfl⟩⟩))
        go_meet
        case rel => exact ⟨_, (decide (t131 ≥ 0)), (by first | rfl | (simp; done) | (simp [*]; done)), H', ⟨by have := HK1.out; first | omega | exact Nat.le_refl _⟩, ⟨by repeat (first | (with_reducible first | exact HB.out | apply below_alloc | apply pw_below_drewN | apply below_drew1) | exact HB.out)⟩⟩
     case rest =>
      clear HC7
      try clear c1
      try clear p2
      try clear c3
      try clear c4
      try clear c4b0
      try clear c5
      try clear c5b0
      try clear p6
      try clear q6
      try clear hx6
      try clear c9
      try clear c10
      try clear c10b0
      try clear c11
      try clear c11b0
      try clear p2
      try clear p6
      try clear q6
      obtain ⟨kq, x18_6, rfl, HA, HJ6, HB⟩ := hcut
      cases kq with
      | zero => exact absurd HA.out (by simp [target_signs.j1])
      | succ kj6 =>
       have H := HA.out
       clear HA
       simp only [target_signs.j1] at H
       by_cases c14 : x18_6 = true
       ·subst c14
        have H1 : (target_signs.l0 kj6 a0 a1 a2 (wrap64 (x7_1 + 1))) = some r := by rw [if_pos rfl] at H; exact H
        clear H
        have H := H1
        clear H1
        have H' := Aside0.mk H
        clear H
        go_wp2
        go_roundg kj6
        case measure => have := HK1.out; have := HJ6.out; omega
        case rel => exact ⟨(wrap64 (x7_1 + 1)), (by first | rfl | (simp; done) | (simp [*]; done)), H', ⟨by have := HK1.out; have := HJ6.out; omega⟩, ⟨by repeat (first | (with_reducible first | exact HB.out | apply below_alloc | apply pw_below_drewN | apply below_drew1) | exact HB.out)⟩⟩
       ·replace c14 := Bool.eq_false_iff.mpr c14
        subst c14
        have H1 : (if a2 = true then (if (bt a0 x7_1) = 37 then (if (wrap64 (x7_1 + 2)) < (a0.size : Int) then (if 0 ≤ (wrap64 (x7_1 + 1)) then (if (wrap64 (x7_1 + 1)) ≤ (wrap64 (x7_1 + 3)) then (if (wrap64 (x7_1 + 3)) ≤ (a0.size : Int) then ((octet_All.f kj6 (a0.extract ((wrap64 (x7_1 + 1)) : Int).toNat ((wrap64 (x7_1 + 3)) : Int).toNat) (([5] : List Int))).bind fun t135 => (if t135 = true then (target_signs.l0 kj6 a0 a1 a2 (wrap64 ((wrap64 (x7_1 + 2)) + 1))) else (some false))) else (none)) else (none)) else (none)) else (some false)) else (some false)) else (some false)) = some r := by rw [if_neg (show ¬ (false = true) by decide)] at H; exact H
        clear H
        have H := H1
        clear H1
        by_cases c15 : a2 = true
        ·subst c15
         have H1 : (if (bt a0 x7_1) = 37 then (if (wrap64 (x7_1 + 2)) < (a0.size : Int) then (if 0 ≤ (wrap64 (x7_1 + 1)) then (if (wrap64 (x7_1 + 1)) ≤ (wrap64 (x7_1 + 3)) then (if (wrap64 (x7_1 + 3)) ≤ (a0.size : Int) then ((octet_All.f kj6 (a0.extract ((wrap64 (x7_1 + 1)) : Int).toNat ((wrap64 (x7_1 + 3)) : Int).toNat) (([5] : List Int))).bind fun t135 => (if t135 = true then (target_signs.l0 kj6 a0 a1 true (wrap64 ((wrap64 (x7_1 + 2)) + 1))) else (some false))) else (none)) else (none)) else (none)) else (some false)) else (some false)) = some r := by rw [if_pos rfl] at H; exact H
         clear H
         have H := H1
         clear H1
         by_cases c16 : (bt a0 x7_1) = 37
         ·rw [if_pos c16] at H
          have c16b0 : ((bt a0 x7_1) == 37) = true := beq_iff_eq.mpr c16
          have c16b1 : ((bt a0 x7_1) != 37) = false := bne_eq_false_iff_eq.mpr c16
          clear c16
          by_cases c17 : (wrap64 (x7_1 + 2)) < (a0.size : Int)
          ·rw [if_pos c17] at H
           have c17b0 : decide ((wrap64 (x7_1 + 2)) < (a0.size : Int)) = true := decide_eq_true c17
           clear c17
           obtain ⟨ji18, hji18⟩ : ∃ j_ : Int, (wrap64 (x7_1 + 1)) = j_ := ⟨_, rfl⟩
           replace H : (if 0 ≤ (ji18) then (if (ji18) ≤ (wrap64 (x7_1 + 3)) then (if (wrap64 (x7_1 + 3)) ≤ (a0.size : Int) then ((octet_All.f kj6 (a0.extract ((ji18) : Int).toNat ((wrap64 (x7_1 + 3)) : Int).toNat) (([5] : List Int))).bind fun t135 => (if t135 = true then (target_signs.l0 kj6 a0 a1 true (wrap64 ((wrap64 (x7_1 + 2)) + 1))) else (some false))) else (none)) else (none)) else (none)) = some r := by first | (rw [hji18] at H; exact H) | (simp only [hji18] at H ⊢; exact H)
           have hji18w : (IntKind.i64.wrap (x7_1 + 1)) = ji18 := (i64_w _).trans hji18
           by_cases c19 : 0 ≤ (ji18)
           ·rw [if_pos c19] at H
            have c19b0 := eq_true c19
            have c19b1 : decide (0 ≤ (ji18)) = true := decide_eq_true c19
            clear c19
            by_cases c20 : (ji18) ≤ (wrap64 (x7_1 + 3))
            ·rw [if_pos c20] at H
             have c20b0 := eq_true c20
             have c20b1 : decide ((ji18) ≤ (wrap64 (x7_1 + 3))) = true := decide_eq_true c20
             by_cases c21 : (wrap64 (x7_1 + 3)) ≤ (a0.size : Int)
             ·rw [if_pos c21] at H
              have c21b0 := eq_true c21
              have c21b1 : decide ((wrap64 (x7_1 + 3)) ≤ (a0.size : Int)) = true := decide_eq_true c21
              obtain ⟨y132, hy132⟩ : ∃ y_ : List Int, y_ = (([5] : List Int)) := ⟨_, rfl⟩
              replace H : ((octet_All.f kj6 (a0.extract ((ji18) : Int).toNat ((wrap64 (x7_1 + 3)) : Int).toNat) y132).bind fun t135 => (if t135 = true then (target_signs.l0 kj6 a0 a1 true (wrap64 ((wrap64 (x7_1 + 2)) + 1))) else (some false))) = some r := by first | (rw [hy132]; with_reducible exact H) | (have H2_ := (Option.bind_some _ _).symm.trans H; rw [hy132]; with_reducible exact H2_) | (have H2_ := (Option.bind_some _ _).symm.trans H; with_reducible exact H2_) | with_reducible exact H | (rw [hy132]; exact H) | exact H
              have Ny132 := Aside0.mk hy132
              clear hy132
              replace H := Option.bind_eq_some_iff.mp H
              obtain ⟨t135, A220, H⟩ := H
              replace H : (if t135 = true then (target_signs.l0 kj6 a0 a1 true (wrap64 ((wrap64 (x7_1 + 2)) + 1))) else (some false)) = some r := H
              have A22 := Aside0.mk A220
              clear A220
              by_cases c23 : t135 = true
              ·subst c23
               have H1 : (target_signs.l0 kj6 a0 a1 true (wrap64 ((wrap64 (x7_1 + 2)) + 1))) = some r := by rw [if_pos rfl] at H; exact H
               clear H
               have H := H1
               clear H1
               have H' := Aside0.mk H
               clear H
               go_wp2_with (first | ((with_reducible refine gate_dst (N := 57) rfl ?_); (try (refine gate_guard (by rfl) ?_; dsimp only)); refine Kd.R_lit (Kd.int .i64) _ 3 ?hg (N := 57) ?hd (xs := ([5] : List Int)) (inner := [.int .i64 5]) (ok := fun _ => True) (okp := fun _ => True) ?hr ?hp (fun _ hk => hk) trivial (Below.refl _ _) (Nat.le_refl _) (by simp) ?_; (case hd => rfl); (case hg => rfl); (case hr => first | (go_simp; done) | (go_simp; rfl)); (case hp => exact (Reps.one (show Kd.M (Kd.int .i64) _ _ _ 5 [.int .i64 5] from rfl) (Reps.none _ _))); intro v133 w24 ho25 hb hg_ hnew_; clear hg_ hnew_; (first | rw [← Ny132.out] at ho25 | (simp only [Int.reduceToNat] at ho25; rw [← Ny132.out] at ho25)); have n0_ := Aside0.mk (Kd.R_lower ho25 (below_size (by repeat (first | (with_reducible first | exact HB.out | apply below_alloc | apply pw_below_drewN | apply below_drew1) | exact HB.out)))); have n1_ := Aside0.mk (below_step (by repeat (first | (with_reducible first | exact HB.out | apply below_alloc | apply pw_below_drewN | apply below_drew1) | exact HB.out)) hb); clear HB; have HO134 := n0_; have HB := n1_; clear n0_ n1_; clear hb ho25; obtain ⟨Ao26, co26, eo26⟩ := Kd.R_slice HO134.out; subst eo26) | (go_at_call 49; (with_reducible refine (octet_All.calls kj6 (a0.extract ((ji18) : Int).toNat ((wrap64 (x7_1 + 3)) : Int).toNat) _ _ y132 true _ ?side1 ?side2 A22.out).mono ?_); (case side1 => repeat (first | exact (Kd.R_reads' HO134.out).2.2 | (with_reducible refine Kd.C_alloc ?_ _) | (with_reducible refine Kd.C_drewN ?_ _) | (with_reducible refine Kd.C_drew ?_))); (case side2 => exact (Kd.R_reads' HO134.out).2.1); rintro e w' ⟨rfl, ⟨nd, rfl⟩⟩))
               go_roundg kj6
               case measure => have := HK1.out; have := HJ6.out; omega
               case rel => exact ⟨(wrap64 ((wrap64 (x7_1 + 2)) + 1)), (by first | rfl | (simp; done) | (simp [*]; done)), H', ⟨by have := HK1.out; have := HJ6.out; omega⟩, ⟨by repeat (first | (with_reducible first | exact HB.out | apply below_alloc | apply pw_below_drewN | apply below_drew1) | exact HB.out)⟩⟩
              ·replace c23 := Bool.eq_false_iff.mpr c23
               subst c23
               have H1 : (some false) = some r := by rw [if_neg (show ¬ (false = true) by decide)] at H; exact H
               clear H
               have H := H1
               clear H1
               obtain rfl := Option.some.inj H
               go_wp2_with (first | ((with_reducible refine gate_dst (N := 57) rfl ?_); (try (refine gate_guard (by rfl) ?_; dsimp only)); refine Kd.R_lit (Kd.int .i64) _ 3 ?hg (N := 57) ?hd (xs := ([5] : List Int)) (inner := [.int .i64 5]) (ok := fun _ => True) (okp := fun _ => True) ?hr ?hp (fun _ hk => hk) trivial (Below.refl _ _) (Nat.le_refl _) (by simp) ?_; (case hd => rfl); (case hg => rfl); (case hr => first | (go_simp; done) | (go_simp; rfl)); (case hp => exact (Reps.one (show Kd.M (Kd.int .i64) _ _ _ 5 [.int .i64 5] from rfl) (Reps.none _ _))); intro v133 w27 ho28 hb hg_ hnew_; clear hg_ hnew_; (first | rw [← Ny132.out] at ho28 | (simp only [Int.reduceToNat] at ho28; rw [← Ny132.out] at ho28)); have n0_ := Aside0.mk (Kd.R_lower ho28 (below_size (by repeat (first | (with_reducible first | exact HB.out | apply below_alloc | apply pw_below_drewN | apply below_drew1) | exact HB.out)))); have n1_ := Aside0.mk (below_step (by repeat (first | (with_reducible first | exact HB.out | apply below_alloc | apply pw_below_drewN | apply below_drew1) | exact HB.out)) hb); clear HB; have HO134 := n0_; have HB := n1_; clear n0_ n1_; clear hb ho28; obtain ⟨Ao29, co29, eo29⟩ := Kd.R_slice HO134.out; subst eo29) | (go_at_call 49; (with_reducible refine (octet_All.calls kj6 (a0.extract ((ji18) : Int).toNat ((wrap64 (x7_1 + 3)) : Int).toNat) _ _ y132 false _ ?side1 ?side2 A22.out).mono ?_); (case side1 => repeat (first | exact (Kd.R_reads' HO134.out).2.2 | (with_reducible refine Kd.C_alloc ?_ _) | (with_reducible refine Kd.C_drewN ?_ _) | (with_reducible refine Kd.C_drew ?_))); (case side2 => exact (Kd.R_reads' HO134.out).2.1); rintro e w' ⟨rfl, ⟨nd, rfl⟩⟩))
               go_ret
               exact ⟨by first | rfl | (simp [errW_none, errW_some] <;> rfl) | (simp only [← hji18]; first | rfl | (simp [errW_none, errW_some] <;> rfl)) | (simp [*, errW_none, errW_some] <;> rfl), by repeat (first | (with_reducible first | exact HB.out | apply below_alloc | apply pw_below_drewN | apply below_drew1) | exact HB.out)⟩
             ·rw [if_neg c21] at H
              exact absurd H (by simp)
            ·rw [if_neg c20] at H
             exact absurd H (by simp)
           ·rw [if_neg c19] at H
            exact absurd H (by simp)
          ·rw [if_neg c17] at H
           have c17b0 : decide ((wrap64 (x7_1 + 2)) < (a0.size : Int)) = false := decide_eq_false c17
           clear c17
           obtain rfl := Option.some.inj H
           go_wp2
           go_ret
           exact ⟨by first | rfl | (simp [errW_none, errW_some] <;> rfl) | (simp [*, errW_none, errW_some] <;> rfl), by repeat (first | (with_reducible first | exact HB.out | apply below_alloc | apply pw_below_drewN | apply below_drew1) | exact HB.out)⟩
         ·rw [if_neg c16] at H
          have c16b0 : ((bt a0 x7_1) == 37) = false := beq_eq_false_iff_ne.mpr c16
          have c16b1 : ((bt a0 x7_1) != 37) = true := bne_iff_ne.mpr c16
          obtain rfl := Option.some.inj H
          go_wp2
          go_ret
          exact ⟨by first | rfl | (simp [errW_none, errW_some] <;> rfl) | (simp [*, errW_none, errW_some] <;> rfl), by repeat (first | (with_reducible first | exact HB.out | apply below_alloc | apply pw_below_drewN | apply below_drew1) | exact HB.out)⟩
        ·replace c15 := Bool.eq_false_iff.mpr c15
         subst c15
         have H1 : (some false) = some r := by rw [if_neg (show ¬ (false = true) by decide)] at H; exact H
         clear H
         have H := H1
         clear H1
         obtain rfl := Option.some.inj H
         go_wp2
         go_ret
         exact ⟨by first | rfl | (simp [errW_none, errW_some] <;> rfl) | (simp [*, errW_none, errW_some] <;> rfl), by repeat (first | (with_reducible first | exact HB.out | apply below_alloc | apply pw_below_drewN | apply below_drew1) | exact HB.out)⟩
    ·rw [if_neg c5] at H
     exact absurd H (by simp)
   ·rw [if_neg c4] at H
    have c4b0 : decide (x7_1 < (a0.size : Int)) = false := decide_eq_false c4
    clear c4
    obtain rfl := Option.some.inj H
    go_wp2
    go_ret
    exact ⟨by first | rfl | (simp [errW_none, errW_some] <;> rfl) | (simp [*, errW_none, errW_some] <;> rfl), by repeat (first | (with_reducible first | exact HB.out | apply below_alloc | apply pw_below_drewN | apply below_drew1) | exact HB.out)⟩

/-! ### target_Host: function 13 -/
def target_Host.f (k : Nat) (a0 : ByteArray) : Option (Bool) := (strings_Cut.f a0 (⟨#[58]⟩ : ByteArray)).bind fun bt136 => (if bt136.2.2 = true then ((number_Dec.f k bt136.2.1 65535).bind fun bt139 => (if bt139.2 = 0 then (if (bt136.2.1.size : Int) > 5 then (some false) else (if bt136.1.toList = ([] : List UInt8) then (some false) else (if (bt136.1.size : Int) ≤ 255 then ((target_signs.f k bt136.1 (⟨#[45, 46, 95, 126]⟩ : ByteArray) false).bind fun t141 => (some t141)) else (some false)))) else (some false))) else (if bt136.1.toList = ([] : List UInt8) then (some false) else (if (bt136.1.size : Int) ≤ 255 then ((target_signs.f k bt136.1 (⟨#[45, 46, 95, 126]⟩ : ByteArray) false).bind fun t142 => (some t142)) else (some false))))
theorem target_Host.mono : ∀ a0 k, LeO (target_Host.f k a0) (target_Host.f (k + 1) a0) := by
 intro a0 k
 unfold target_Host.f
 repeat' first
   | (with_reducible exact number_Dec.mono _ _ _)
   | (with_reducible exact target_signs.mono _ _ _ _)
   | (with_reducible exact LeO.refl _)
   | (with_reducible exact LeO.none _)
   | (with_reducible refine LeO.ite ?_ ?_)
   | (with_reducible refine LeO.bind ?_ (fun _ => ?_))
   | exact number_Dec.mono _ _ _
   | exact target_signs.mono _ _ _ _
   | exact LeO.none _
   | refine LeO.ite ?_ ?_
   | refine LeO.bind ?_ (fun _ => ?_)
set_option maxHeartbeats 8000000 in
set_option maxRecDepth 100000 in
theorem target_Host.calls (k : Nat) (a0 : ByteArray) (r : Bool) (w : World) (h : target_Host.f k a0 = some r) :
  Calls Try.prog 13 #[.string a0] w fun e w' => e = .returned (.bool r) ∧ Below w.heap.size w w' := by
 have HB := Aside0.mk (Below.refl w.heap.size w)
 have H : ((strings_Cut.f a0 (⟨#[58]⟩ : ByteArray)).bind fun bt136 => (if bt136.2.2 = true then ((number_Dec.f k bt136.2.1 65535).bind fun bt139 => (if bt139.2 = 0 then (if (bt136.2.1.size : Int) > 5 then (some false) else (if bt136.1.toList = ([] : List UInt8) then (some false) else (if (bt136.1.size : Int) ≤ 255 then ((target_signs.f k bt136.1 (⟨#[45, 46, 95, 126]⟩ : ByteArray) false).bind fun t141 => (some t141)) else (some false)))) else (some false))) else (if bt136.1.toList = ([] : List UInt8) then (some false) else (if (bt136.1.size : Int) ≤ 255 then ((target_signs.f k bt136.1 (⟨#[45, 46, 95, 126]⟩ : ByteArray) false).bind fun t142 => (some t142)) else (some false))))) = some r := h
 clear h
 replace H := Option.bind_eq_some_iff.mp H
 obtain ⟨⟨t136, t137, t138⟩, A20, H⟩ := H
 replace H : (if t138 = true then ((number_Dec.f k t137 65535).bind fun bt139 => (if bt139.2 = 0 then (if (t137.size : Int) > 5 then (some false) else (if t136.toList = ([] : List UInt8) then (some false) else (if (t136.size : Int) ≤ 255 then ((target_signs.f k t136 (⟨#[45, 46, 95, 126]⟩ : ByteArray) false).bind fun t141 => (some t141)) else (some false)))) else (some false))) else (if t136.toList = ([] : List UInt8) then (some false) else (if (t136.size : Int) ≤ 255 then ((target_signs.f k t136 (⟨#[45, 46, 95, 126]⟩ : ByteArray) false).bind fun t142 => (some t142)) else (some false)))) = some r := H
 have A2 := Aside0.mk A20
 clear A20
 by_cases c3 : t138 = true
 ·subst c3
  have H1 : ((number_Dec.f k t137 65535).bind fun bt139 => (if bt139.2 = 0 then (if (t137.size : Int) > 5 then (some false) else (if t136.toList = ([] : List UInt8) then (some false) else (if (t136.size : Int) ≤ 255 then ((target_signs.f k t136 (⟨#[45, 46, 95, 126]⟩ : ByteArray) false).bind fun t141 => (some t141)) else (some false)))) else (some false))) = some r := by rw [if_pos rfl] at H; exact H
  clear H
  have H := H1
  clear H1
  replace H := Option.bind_eq_some_iff.mp H
  obtain ⟨⟨t139, t140⟩, A40, H⟩ := H
  replace H : (if t140 = 0 then (if (t137.size : Int) > 5 then (some false) else (if t136.toList = ([] : List UInt8) then (some false) else (if (t136.size : Int) ≤ 255 then ((target_signs.f k t136 (⟨#[45, 46, 95, 126]⟩ : ByteArray) false).bind fun t141 => (some t141)) else (some false)))) else (some false)) = some r := H
  have A4 := Aside0.mk A40
  clear A40
  by_cases c5 : t140 = 0
  ·rw [if_pos c5] at H
   have c5b0 : (t140 == 0) = true := beq_iff_eq.mpr c5
   have c5b1 : (t140 != 0) = false := bne_eq_false_iff_eq.mpr c5
   clear c5
   by_cases c6 : (t137.size : Int) > 5
   ·rw [if_pos c6] at H
    have c6b0 : decide (5 < (t137.size : Int)) = true := decide_eq_true c6
    have c6b1 : decide (5 < t137.size) = true := decide_eq_true (by omega)
    clear c6
    obtain rfl := Option.some.inj H
    go_enter Try.func13, Try.ntmps13
    go_wp2_with (first | ((with_reducible refine gate_callee (f := 28) rfl ?_); refine goesL_ (some 10) rfl rfl Try.func28 (by kernel_rfl) rfl #[.string a0, .string (⟨#[58]⟩ : ByteArray)] rfl (by (try simp only [List.map_toArray, List.map_cons, List.map_nil]); first | done | rfl | (simp only [List.length_drop, List.length_take]; rfl)) ?_; (with_reducible refine (strings_Cut.calls a0 (⟨#[58]⟩ : ByteArray) t136 t137 true _ A2.out).mono ?_); rintro e w' ⟨rfl, ⟨nd, rfl⟩⟩; refine ⟨_, rfl, ?_⟩) | ((with_reducible refine gate_callee (f := 29) rfl ?_); refine goesL_ (some 17) rfl rfl Try.func29 (by kernel_rfl) rfl #[.string t137, .int .i64 65535] rfl (by (try simp only [List.map_toArray, List.map_cons, List.map_nil]); first | done | rfl | (simp only [List.length_drop, List.length_take]; rfl)) ?_; (with_reducible refine (number_Dec.calls k t137 65535 t139 t140 _ A4.out).mono ?_); rintro e w7 ⟨rfl, hb⟩; refine ⟨_, rfl, ?_⟩; have n0_ := Aside0.mk (below_step (by repeat (first | (with_reducible first | exact HB.out | apply below_alloc | apply pw_below_drewN | apply below_drew1) | exact HB.out)) hb); clear HB; have HB := n0_; clear n0_; (try clear hb); (try clear hb2); (try clear hk); (try clear hi)))
    go_ret
    exact ⟨by first | rfl | (simp [errW_none, errW_some] <;> rfl) | (simp [*, errW_none, errW_some] <;> rfl), by repeat (first | (with_reducible first | exact HB.out | apply below_alloc | apply pw_below_drewN | apply below_drew1) | exact HB.out)⟩
   ·rw [if_neg c6] at H
    have c6b0 : decide (5 < (t137.size : Int)) = false := decide_eq_false c6
    have c6b1 : decide (5 < t137.size) = false := decide_eq_false (by omega)
    clear c6
    by_cases c8 : t136.toList = ([] : List UInt8)
    ·rw [if_pos c8] at H
     have c8b0 : (t136.toList == ([] : List UInt8)) = true := beq_iff_eq.mpr c8
     have c8b1 : (t136.toList != ([] : List UInt8)) = false := bne_eq_false_iff_eq.mpr c8
     clear c8
     obtain rfl := Option.some.inj H
     go_enter Try.func13, Try.ntmps13
     go_wp2_with (first | ((with_reducible refine gate_callee (f := 28) rfl ?_); refine goesL_ (some 10) rfl rfl Try.func28 (by kernel_rfl) rfl #[.string a0, .string (⟨#[58]⟩ : ByteArray)] rfl (by (try simp only [List.map_toArray, List.map_cons, List.map_nil]); first | done | rfl | (simp only [List.length_drop, List.length_take]; rfl)) ?_; (with_reducible refine (strings_Cut.calls a0 (⟨#[58]⟩ : ByteArray) t136 t137 true _ A2.out).mono ?_); rintro e w' ⟨rfl, ⟨nd, rfl⟩⟩; refine ⟨_, rfl, ?_⟩) | ((with_reducible refine gate_callee (f := 29) rfl ?_); refine goesL_ (some 17) rfl rfl Try.func29 (by kernel_rfl) rfl #[.string t137, .int .i64 65535] rfl (by (try simp only [List.map_toArray, List.map_cons, List.map_nil]); first | done | rfl | (simp only [List.length_drop, List.length_take]; rfl)) ?_; (with_reducible refine (number_Dec.calls k t137 65535 t139 t140 _ A4.out).mono ?_); rintro e w9 ⟨rfl, hb⟩; refine ⟨_, rfl, ?_⟩; have n0_ := Aside0.mk (below_step (by repeat (first | (with_reducible first | exact HB.out | apply below_alloc | apply pw_below_drewN | apply below_drew1) | exact HB.out)) hb); clear HB; have HB := n0_; clear n0_; (try clear hb); (try clear hb2); (try clear hk); (try clear hi)))
     go_ret
     exact ⟨by first | rfl | (simp [errW_none, errW_some] <;> rfl) | (simp [*, errW_none, errW_some] <;> rfl), by repeat (first | (with_reducible first | exact HB.out | apply below_alloc | apply pw_below_drewN | apply below_drew1) | exact HB.out)⟩
    ·rw [if_neg c8] at H
     have c8b0 : (t136.toList == ([] : List UInt8)) = false := beq_eq_false_iff_ne.mpr c8
     have c8b1 : (t136.toList != ([] : List UInt8)) = true := bne_iff_ne.mpr c8
     by_cases c10 : (t136.size : Int) ≤ 255
     ·rw [if_pos c10] at H
      have c10b0 : decide ((t136.size : Int) ≤ 255) = true := decide_eq_true c10
      have c10b1 : decide (t136.size ≤ 255) = true := decide_eq_true (by omega)
      clear c10
      replace H := Option.bind_eq_some_iff.mp H
      obtain ⟨t141, A110, H⟩ := H
      replace H : (some t141) = some r := H
      have A11 := Aside0.mk A110
      clear A110
      obtain rfl := Option.some.inj H
      go_enter Try.func13, Try.ntmps13
      go_wp2_with (first | ((with_reducible refine gate_callee (f := 28) rfl ?_); refine goesL_ (some 10) rfl rfl Try.func28 (by kernel_rfl) rfl #[.string a0, .string (⟨#[58]⟩ : ByteArray)] rfl (by (try simp only [List.map_toArray, List.map_cons, List.map_nil]); first | done | rfl | (simp only [List.length_drop, List.length_take]; rfl)) ?_; (with_reducible refine (strings_Cut.calls a0 (⟨#[58]⟩ : ByteArray) t136 t137 true _ A2.out).mono ?_); rintro e w' ⟨rfl, ⟨nd, rfl⟩⟩; refine ⟨_, rfl, ?_⟩) | ((with_reducible refine gate_callee (f := 29) rfl ?_); refine goesL_ (some 17) rfl rfl Try.func29 (by kernel_rfl) rfl #[.string t137, .int .i64 65535] rfl (by (try simp only [List.map_toArray, List.map_cons, List.map_nil]); first | done | rfl | (simp only [List.length_drop, List.length_take]; rfl)) ?_; (with_reducible refine (number_Dec.calls k t137 65535 t139 t140 _ A4.out).mono ?_); rintro e w12 ⟨rfl, hb⟩; refine ⟨_, rfl, ?_⟩; have n0_ := Aside0.mk (below_step (by repeat (first | (with_reducible first | exact HB.out | apply below_alloc | apply pw_below_drewN | apply below_drew1) | exact HB.out)) hb); clear HB; have HB := n0_; clear n0_; (try clear hb); (try clear hb2); (try clear hk); (try clear hi)) | (go_at_call 30; (with_reducible refine (target_signs.calls k t136 (⟨#[45, 46, 95, 126]⟩ : ByteArray) false t141 _ A11.out).mono ?_); rintro e w13 ⟨rfl, hb⟩; have n0_ := Aside0.mk (below_step (by repeat (first | (with_reducible first | exact HB.out | apply below_alloc | apply pw_below_drewN | apply below_drew1) | exact HB.out)) hb); clear HB; have HB := n0_; clear n0_; (try clear hb); (try clear hb2); (try clear hk); (try clear hi)))
      go_ret
      exact ⟨by first | rfl | (simp [errW_none, errW_some] <;> rfl) | (simp [*, errW_none, errW_some] <;> rfl), by repeat (first | (with_reducible first | exact HB.out | apply below_alloc | apply pw_below_drewN | apply below_drew1) | exact HB.out)⟩
     ·rw [if_neg c10] at H
      have c10b0 : decide ((t136.size : Int) ≤ 255) = false := decide_eq_false c10
      have c10b1 : decide (t136.size ≤ 255) = false := decide_eq_false (by omega)
      clear c10
      obtain rfl := Option.some.inj H
      go_enter Try.func13, Try.ntmps13
      go_wp2_with (first | ((with_reducible refine gate_callee (f := 28) rfl ?_); refine goesL_ (some 10) rfl rfl Try.func28 (by kernel_rfl) rfl #[.string a0, .string (⟨#[58]⟩ : ByteArray)] rfl (by (try simp only [List.map_toArray, List.map_cons, List.map_nil]); first | done | rfl | (simp only [List.length_drop, List.length_take]; rfl)) ?_; (with_reducible refine (strings_Cut.calls a0 (⟨#[58]⟩ : ByteArray) t136 t137 true _ A2.out).mono ?_); rintro e w' ⟨rfl, ⟨nd, rfl⟩⟩; refine ⟨_, rfl, ?_⟩) | ((with_reducible refine gate_callee (f := 29) rfl ?_); refine goesL_ (some 17) rfl rfl Try.func29 (by kernel_rfl) rfl #[.string t137, .int .i64 65535] rfl (by (try simp only [List.map_toArray, List.map_cons, List.map_nil]); first | done | rfl | (simp only [List.length_drop, List.length_take]; rfl)) ?_; (with_reducible refine (number_Dec.calls k t137 65535 t139 t140 _ A4.out).mono ?_); rintro e w14 ⟨rfl, hb⟩; refine ⟨_, rfl, ?_⟩; have n0_ := Aside0.mk (below_step (by repeat (first | (with_reducible first | exact HB.out | apply below_alloc | apply pw_below_drewN | apply below_drew1) | exact HB.out)) hb); clear HB; have HB := n0_; clear n0_; (try clear hb); (try clear hb2); (try clear hk); (try clear hi)))
      go_ret
      exact ⟨by first | rfl | (simp [errW_none, errW_some] <;> rfl) | (simp [*, errW_none, errW_some] <;> rfl), by repeat (first | (with_reducible first | exact HB.out | apply below_alloc | apply pw_below_drewN | apply below_drew1) | exact HB.out)⟩
  ·rw [if_neg c5] at H
   have c5b0 : (t140 == 0) = false := beq_eq_false_iff_ne.mpr c5
   have c5b1 : (t140 != 0) = true := bne_iff_ne.mpr c5
   obtain rfl := Option.some.inj H
   go_enter Try.func13, Try.ntmps13
   go_wp2_with (first | ((with_reducible refine gate_callee (f := 28) rfl ?_); refine goesL_ (some 10) rfl rfl Try.func28 (by kernel_rfl) rfl #[.string a0, .string (⟨#[58]⟩ : ByteArray)] rfl (by (try simp only [List.map_toArray, List.map_cons, List.map_nil]); first | done | rfl | (simp only [List.length_drop, List.length_take]; rfl)) ?_; (with_reducible refine (strings_Cut.calls a0 (⟨#[58]⟩ : ByteArray) t136 t137 true _ A2.out).mono ?_); rintro e w' ⟨rfl, ⟨nd, rfl⟩⟩; refine ⟨_, rfl, ?_⟩) | ((with_reducible refine gate_callee (f := 29) rfl ?_); refine goesL_ (some 17) rfl rfl Try.func29 (by kernel_rfl) rfl #[.string t137, .int .i64 65535] rfl (by (try simp only [List.map_toArray, List.map_cons, List.map_nil]); first | done | rfl | (simp only [List.length_drop, List.length_take]; rfl)) ?_; (with_reducible refine (number_Dec.calls k t137 65535 t139 t140 _ A4.out).mono ?_); rintro e w15 ⟨rfl, hb⟩; refine ⟨_, rfl, ?_⟩; have n0_ := Aside0.mk (below_step (by repeat (first | (with_reducible first | exact HB.out | apply below_alloc | apply pw_below_drewN | apply below_drew1) | exact HB.out)) hb); clear HB; have HB := n0_; clear n0_; (try clear hb); (try clear hb2); (try clear hk); (try clear hi)))
   go_ret
   exact ⟨by first | rfl | (simp [errW_none, errW_some] <;> rfl) | (simp [*, errW_none, errW_some] <;> rfl), by repeat (first | (with_reducible first | exact HB.out | apply below_alloc | apply pw_below_drewN | apply below_drew1) | exact HB.out)⟩
 ·replace c3 := Bool.eq_false_iff.mpr c3
  subst c3
  have H1 : (if t136.toList = ([] : List UInt8) then (some false) else (if (t136.size : Int) ≤ 255 then ((target_signs.f k t136 (⟨#[45, 46, 95, 126]⟩ : ByteArray) false).bind fun t142 => (some t142)) else (some false))) = some r := by rw [if_neg (show ¬ (false = true) by decide)] at H; exact H
  clear H
  have H := H1
  clear H1
  by_cases c16 : t136.toList = ([] : List UInt8)
  ·rw [if_pos c16] at H
   have c16b0 : (t136.toList == ([] : List UInt8)) = true := beq_iff_eq.mpr c16
   have c16b1 : (t136.toList != ([] : List UInt8)) = false := bne_eq_false_iff_eq.mpr c16
   clear c16
   obtain rfl := Option.some.inj H
   go_enter Try.func13, Try.ntmps13
   go_wp2_with (first | ((with_reducible refine gate_callee (f := 28) rfl ?_); refine goesL_ (some 10) rfl rfl Try.func28 (by kernel_rfl) rfl #[.string a0, .string (⟨#[58]⟩ : ByteArray)] rfl (by (try simp only [List.map_toArray, List.map_cons, List.map_nil]); first | done | rfl | (simp only [List.length_drop, List.length_take]; rfl)) ?_; (with_reducible refine (strings_Cut.calls a0 (⟨#[58]⟩ : ByteArray) t136 t137 false _ A2.out).mono ?_); rintro e w' ⟨rfl, ⟨nd, rfl⟩⟩; refine ⟨_, rfl, ?_⟩))
   go_ret
   exact ⟨by first | rfl | (simp [errW_none, errW_some] <;> rfl) | (simp [*, errW_none, errW_some] <;> rfl), by repeat (first | (with_reducible first | exact HB.out | apply below_alloc | apply pw_below_drewN | apply below_drew1) | exact HB.out)⟩
  ·rw [if_neg c16] at H
   have c16b0 : (t136.toList == ([] : List UInt8)) = false := beq_eq_false_iff_ne.mpr c16
   have c16b1 : (t136.toList != ([] : List UInt8)) = true := bne_iff_ne.mpr c16
   by_cases c17 : (t136.size : Int) ≤ 255
   ·rw [if_pos c17] at H
    have c17b0 : decide ((t136.size : Int) ≤ 255) = true := decide_eq_true c17
    have c17b1 : decide (t136.size ≤ 255) = true := decide_eq_true (by omega)
    clear c17
    replace H := Option.bind_eq_some_iff.mp H
    obtain ⟨t142, A180, H⟩ := H
    replace H : (some t142) = some r := H
    have A18 := Aside0.mk A180
    clear A180
    obtain rfl := Option.some.inj H
    go_enter Try.func13, Try.ntmps13
    go_wp2_with (first | ((with_reducible refine gate_callee (f := 28) rfl ?_); refine goesL_ (some 10) rfl rfl Try.func28 (by kernel_rfl) rfl #[.string a0, .string (⟨#[58]⟩ : ByteArray)] rfl (by (try simp only [List.map_toArray, List.map_cons, List.map_nil]); first | done | rfl | (simp only [List.length_drop, List.length_take]; rfl)) ?_; (with_reducible refine (strings_Cut.calls a0 (⟨#[58]⟩ : ByteArray) t136 t137 false _ A2.out).mono ?_); rintro e w' ⟨rfl, ⟨nd, rfl⟩⟩; refine ⟨_, rfl, ?_⟩) | (go_at_call 30; (with_reducible refine (target_signs.calls k t136 (⟨#[45, 46, 95, 126]⟩ : ByteArray) false t142 _ A18.out).mono ?_); rintro e w19 ⟨rfl, hb⟩; have n0_ := Aside0.mk (below_step (by repeat (first | (with_reducible first | exact HB.out | apply below_alloc | apply pw_below_drewN | apply below_drew1) | exact HB.out)) hb); clear HB; have HB := n0_; clear n0_; (try clear hb); (try clear hb2); (try clear hk); (try clear hi)))
    go_ret
    exact ⟨by first | rfl | (simp [errW_none, errW_some] <;> rfl) | (simp [*, errW_none, errW_some] <;> rfl), by repeat (first | (with_reducible first | exact HB.out | apply below_alloc | apply pw_below_drewN | apply below_drew1) | exact HB.out)⟩
   ·rw [if_neg c17] at H
    have c17b0 : decide ((t136.size : Int) ≤ 255) = false := decide_eq_false c17
    have c17b1 : decide (t136.size ≤ 255) = false := decide_eq_false (by omega)
    clear c17
    obtain rfl := Option.some.inj H
    go_enter Try.func13, Try.ntmps13
    go_wp2_with (first | ((with_reducible refine gate_callee (f := 28) rfl ?_); refine goesL_ (some 10) rfl rfl Try.func28 (by kernel_rfl) rfl #[.string a0, .string (⟨#[58]⟩ : ByteArray)] rfl (by (try simp only [List.map_toArray, List.map_cons, List.map_nil]); first | done | rfl | (simp only [List.length_drop, List.length_take]; rfl)) ?_; (with_reducible refine (strings_Cut.calls a0 (⟨#[58]⟩ : ByteArray) t136 t137 false _ A2.out).mono ?_); rintro e w' ⟨rfl, ⟨nd, rfl⟩⟩; refine ⟨_, rfl, ?_⟩))
    go_ret
    exact ⟨by first | rfl | (simp [errW_none, errW_some] <;> rfl) | (simp [*, errW_none, errW_some] <;> rfl), by repeat (first | (with_reducible first | exact HB.out | apply below_alloc | apply pw_below_drewN | apply below_drew1) | exact HB.out)⟩

/-! ### strings_Index: function 37 -/
def strings_Index.f (a0 a1 : ByteArray) : Option (Int) := if a1.size = 1 then some (Lib.indexByte a0.data.toList (a1.data.toList.getD 0 0)) else none
theorem strings_Index.calls (a0 a1 : ByteArray) (r : Int) (w : World) (h : strings_Index.f a0 a1 = some r) :
  Calls Try.prog 37 #[.string a0, .string a1] w fun e w' => e = .returned (.int .i64 r) ∧ Drawn0 w w' := by
 unfold strings_Index.f at h
 split at h
 ·rename_i hc
  obtain rfl := Option.some.inj h
  obtain ⟨c, rfl⟩ := Trim.one_byte hc
  refine (Try.strings_Index_one a0 c w).mono ?_
  rintro e w' ⟨rfl, rfl⟩
  exact ⟨rfl, Drawn0.refl _⟩
 ·cases h

/-! ### strings_Contains: function 20 -/
def strings_Contains.f (a0 : ByteArray) (a1 : ByteArray) : Option (Bool) := (strings_Index.f a0 a1).bind fun t143 => (some (decide (t143 ≥ 0)))
set_option maxHeartbeats 8000000 in
set_option maxRecDepth 100000 in
theorem strings_Contains.calls (a0 : ByteArray) (a1 : ByteArray) (r : Bool) (w : World) (h : strings_Contains.f a0 a1 = some r) :
  Calls Try.prog 20 #[.string a0, .string a1] w fun e w' => e = .returned (.bool r) ∧ Drawn0 w w' := by
 have H : ((strings_Index.f a0 a1).bind fun t143 => (some (decide (t143 ≥ 0)))) = some r := h
 clear h
 replace H := Option.bind_eq_some_iff.mp H
 obtain ⟨t143, A30, H⟩ := H
 replace H : (some (decide (t143 ≥ 0))) = some r := H
 have A3 := Aside0.mk A30
 clear A30
 obtain rfl := Option.some.inj H
 go_enter Try.func20, Try.ntmps20
 go_wp2_with (first | ((with_reducible refine gate_callee (f := 37) rfl ?_); refine goesL_ (some 7) rfl rfl Try.func37 (by kernel_rfl) rfl #[.string a0, .string a1] rfl (by (try simp only [List.map_toArray, List.map_cons, List.map_nil]); first | done | rfl | (simp only [List.length_drop, List.length_take]; rfl)) ?_; (with_reducible refine (strings_Index.calls a0 a1 t143 _ A3.out).mono ?_); rintro e w' ⟨rfl, ⟨nd, rfl⟩⟩; refine ⟨_, rfl, ?_⟩))
 go_ret
 exact ⟨by first | rfl | (simp; done) | (simp [*]; done), by repeat (first | exact Drawn0.refl _ | apply Drawn0.step)⟩

/-! ### stringslite_HasPrefix: function 38 -/
def stringslite_HasPrefix.f (a0 : ByteArray) (a1 : ByteArray) : Option (Bool) := if (a0.size : Int) ≥ (a1.size : Int) then (if 0 ≤ (a1.size : Int) then (if (a1.size : Int) ≤ (a0.size : Int) then (some ((a0.extract 0 a1.size).toList == a1.toList)) else (none)) else (none)) else (some false)
set_option maxHeartbeats 8000000 in
set_option maxRecDepth 100000 in
theorem stringslite_HasPrefix.calls (a0 : ByteArray) (a1 : ByteArray) (r : Bool) (w : World) (h : stringslite_HasPrefix.f a0 a1 = some r) :
  Calls Try.prog 38 #[.string a0, .string a1] w fun e w' => e = .returned (.bool r) ∧ Drawn0 w w' := by
 have H : (if (a0.size : Int) ≥ (a1.size : Int) then (if 0 ≤ (a1.size : Int) then (if (a1.size : Int) ≤ (a0.size : Int) then (some ((a0.extract 0 a1.size).toList == a1.toList)) else (none)) else (none)) else (some false)) = some r := h
 clear h
 by_cases c3 : (a0.size : Int) ≥ (a1.size : Int)
 ·rw [if_pos c3] at H
  have c3b0 : decide ((a1.size : Int) ≤ (a0.size : Int)) = true := decide_eq_true c3
  have c3b1 : decide (a1.size ≤ a0.size) = true := decide_eq_true (Int.ofNat_le.mp c3)
  clear c3
  by_cases c4 : 0 ≤ (a1.size : Int)
  ·rw [if_pos c4] at H
   have c4b0 := eq_true c4
   have c4b1 : decide (0 ≤ (a1.size : Int)) = true := decide_eq_true c4
   clear c4
   by_cases c5 : (a1.size : Int) ≤ (a0.size : Int)
   ·rw [if_pos c5] at H
    have c5b0 := eq_true c5
    have c5b1 : decide ((a1.size : Int) ≤ (a0.size : Int)) = true := decide_eq_true c5
    clear c5
    obtain rfl := Option.some.inj H
    go_enter Try.func38, Try.ntmps38
    go_wp2
    go_ret
    exact ⟨by first | rfl | (simp; done) | (simp [*]; done), by repeat (first | exact Drawn0.refl _ | apply Drawn0.step)⟩
   ·rw [if_neg c5] at H
    exact absurd H (by simp)
  ·rw [if_neg c4] at H
   exact absurd H (by simp)
 ·rw [if_neg c3] at H
  have c3b0 : decide ((a1.size : Int) ≤ (a0.size : Int)) = false := decide_eq_false c3
  have c3b1 : decide (a1.size ≤ a0.size) = false := decide_eq_false (fun h => c3 (Int.ofNat_le.mpr h))
  clear c3
  obtain rfl := Option.some.inj H
  go_enter Try.func38, Try.ntmps38
  go_wp2
  go_ret
  exact ⟨by first | rfl | (simp; done) | (simp [*]; done), by repeat (first | exact Drawn0.refl _ | apply Drawn0.step)⟩

/-! ### strings_HasPrefix: function 21 -/
def strings_HasPrefix.f (a0 : ByteArray) (a1 : ByteArray) : Option (Bool) := (stringslite_HasPrefix.f a0 a1).bind fun t144 => (some t144)
set_option maxHeartbeats 8000000 in
set_option maxRecDepth 100000 in
theorem strings_HasPrefix.calls (a0 : ByteArray) (a1 : ByteArray) (r : Bool) (w : World) (h : strings_HasPrefix.f a0 a1 = some r) :
  Calls Try.prog 21 #[.string a0, .string a1] w fun e w' => e = .returned (.bool r) ∧ Drawn0 w w' := by
 have H : ((stringslite_HasPrefix.f a0 a1).bind fun t144 => (some t144)) = some r := h
 clear h
 replace H := Option.bind_eq_some_iff.mp H
 obtain ⟨t144, A30, H⟩ := H
 replace H : (some t144) = some r := H
 have A3 := Aside0.mk A30
 clear A30
 obtain rfl := Option.some.inj H
 go_enter Try.func21, Try.ntmps21
 go_wp2_with (first | ((with_reducible refine gate_callee (f := 38) rfl ?_); refine goesL_ (some 7) rfl rfl Try.func38 (by kernel_rfl) rfl #[.string a0, .string a1] rfl (by (try simp only [List.map_toArray, List.map_cons, List.map_nil]); first | done | rfl | (simp only [List.length_drop, List.length_take]; rfl)) ?_; (with_reducible refine (stringslite_HasPrefix.calls a0 a1 t144 _ A3.out).mono ?_); rintro e w' ⟨rfl, ⟨nd, rfl⟩⟩; refine ⟨_, rfl, ?_⟩))
 go_ret
 exact ⟨by first | rfl | (simp; done) | (simp [*]; done), by repeat (first | exact Drawn0.refl _ | apply Drawn0.step)⟩

/-! ### target_Path: function 15 -/
def target_Path.f (k : Nat) (a0 : ByteArray) : Option (Bool) := (strings_HasPrefix.f a0 (⟨#[47]⟩ : ByteArray)).bind fun t145 => (if t145 = true then ((target_signs.f k a0 (⟨#[45, 46, 95, 126, 33, 36, 38, 39, 40, 41, 42, 43, 44, 59, 61, 58, 64, 47]⟩ : ByteArray) true).bind fun t146 => (some t146)) else (some false))
theorem target_Path.mono : ∀ a0 k, LeO (target_Path.f k a0) (target_Path.f (k + 1) a0) := by
 intro a0 k
 unfold target_Path.f
 repeat' first
   | (with_reducible exact target_signs.mono _ _ _ _)
   | (with_reducible exact LeO.refl _)
   | (with_reducible exact LeO.none _)
   | (with_reducible refine LeO.ite ?_ ?_)
   | (with_reducible refine LeO.bind ?_ (fun _ => ?_))
   | exact target_signs.mono _ _ _ _
   | exact LeO.none _
   | refine LeO.ite ?_ ?_
   | refine LeO.bind ?_ (fun _ => ?_)
set_option maxHeartbeats 8000000 in
set_option maxRecDepth 100000 in
theorem target_Path.calls (k : Nat) (a0 : ByteArray) (r : Bool) (w : World) (h : target_Path.f k a0 = some r) :
  Calls Try.prog 15 #[.string a0] w fun e w' => e = .returned (.bool r) ∧ Below w.heap.size w w' := by
 have HB := Aside0.mk (Below.refl w.heap.size w)
 have H : ((strings_HasPrefix.f a0 (⟨#[47]⟩ : ByteArray)).bind fun t145 => (if t145 = true then ((target_signs.f k a0 (⟨#[45, 46, 95, 126, 33, 36, 38, 39, 40, 41, 42, 43, 44, 59, 61, 58, 64, 47]⟩ : ByteArray) true).bind fun t146 => (some t146)) else (some false))) = some r := h
 clear h
 replace H := Option.bind_eq_some_iff.mp H
 obtain ⟨t145, A20, H⟩ := H
 replace H : (if t145 = true then ((target_signs.f k a0 (⟨#[45, 46, 95, 126, 33, 36, 38, 39, 40, 41, 42, 43, 44, 59, 61, 58, 64, 47]⟩ : ByteArray) true).bind fun t146 => (some t146)) else (some false)) = some r := H
 have A2 := Aside0.mk A20
 clear A20
 by_cases c3 : t145 = true
 ·subst c3
  have H1 : ((target_signs.f k a0 (⟨#[45, 46, 95, 126, 33, 36, 38, 39, 40, 41, 42, 43, 44, 59, 61, 58, 64, 47]⟩ : ByteArray) true).bind fun t146 => (some t146)) = some r := by rw [if_pos rfl] at H; exact H
  clear H
  have H := H1
  clear H1
  replace H := Option.bind_eq_some_iff.mp H
  obtain ⟨t146, A40, H⟩ := H
  replace H : (some t146) = some r := H
  have A4 := Aside0.mk A40
  clear A40
  obtain rfl := Option.some.inj H
  go_enter Try.func15, Try.ntmps15
  go_wp2_with (first | ((with_reducible refine gate_callee (f := 21) rfl ?_); refine goesL_ (some 4) rfl rfl Try.func21 (by kernel_rfl) rfl #[.string a0, .string (⟨#[47]⟩ : ByteArray)] rfl (by (try simp only [List.map_toArray, List.map_cons, List.map_nil]); first | done | rfl | (simp only [List.length_drop, List.length_take]; rfl)) ?_; (with_reducible refine (strings_HasPrefix.calls a0 (⟨#[47]⟩ : ByteArray) true _ A2.out).mono ?_); rintro e w' ⟨rfl, ⟨nd, rfl⟩⟩; refine ⟨_, rfl, ?_⟩) | (go_at_call 30; (with_reducible refine (target_signs.calls k a0 (⟨#[45, 46, 95, 126, 33, 36, 38, 39, 40, 41, 42, 43, 44, 59, 61, 58, 64, 47]⟩ : ByteArray) true t146 _ A4.out).mono ?_); rintro e w5 ⟨rfl, hb⟩; have n0_ := Aside0.mk (below_step (by repeat (first | (with_reducible first | exact HB.out | apply below_alloc | apply pw_below_drewN | apply below_drew1) | exact HB.out)) hb); clear HB; have HB := n0_; clear n0_; (try clear hb); (try clear hb2); (try clear hk); (try clear hi)))
  go_ret
  exact ⟨by first | rfl | (simp [errW_none, errW_some] <;> rfl) | (simp [*, errW_none, errW_some] <;> rfl), by repeat (first | (with_reducible first | exact HB.out | apply below_alloc | apply pw_below_drewN | apply below_drew1) | exact HB.out)⟩
 ·replace c3 := Bool.eq_false_iff.mpr c3
  subst c3
  have H1 : (some false) = some r := by rw [if_neg (show ¬ (false = true) by decide)] at H; exact H
  clear H
  have H := H1
  clear H1
  obtain rfl := Option.some.inj H
  go_enter Try.func15, Try.ntmps15
  go_wp2_with (first | ((with_reducible refine gate_callee (f := 21) rfl ?_); refine goesL_ (some 4) rfl rfl Try.func21 (by kernel_rfl) rfl #[.string a0, .string (⟨#[47]⟩ : ByteArray)] rfl (by (try simp only [List.map_toArray, List.map_cons, List.map_nil]); first | done | rfl | (simp only [List.length_drop, List.length_take]; rfl)) ?_; (with_reducible refine (strings_HasPrefix.calls a0 (⟨#[47]⟩ : ByteArray) false _ A2.out).mono ?_); rintro e w' ⟨rfl, ⟨nd, rfl⟩⟩; refine ⟨_, rfl, ?_⟩))
  go_ret
  exact ⟨by first | rfl | (simp [errW_none, errW_some] <;> rfl) | (simp [*, errW_none, errW_some] <;> rfl), by repeat (first | (with_reducible first | exact HB.out | apply below_alloc | apply pw_below_drewN | apply below_drew1) | exact HB.out)⟩

end Go.Proofs.Ytnnehbbfokoklaa.PTargetTells
