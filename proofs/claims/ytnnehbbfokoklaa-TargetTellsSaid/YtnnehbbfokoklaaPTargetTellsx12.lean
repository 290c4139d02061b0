-- Written by a program of this session (wip/tools/myprint.sh)
import Derived.Test.YtnnehbbfokoklaaPTargetTellsx0
namespace Go.Proofs.Ytnnehbbfokoklaa.PTargetTells
open Go.RowKit Go.Proofs.YtnnehbbfokoklaaW.PrintWords Go.Proofs.YtnnehbbfokoklaaW.PrintLast Go.Proofs.YtnnehbbfokoklaaW.PrintMore
attribute [local go_sem] max2_int min2_int max_two min_two max_three min_three max_four min_four   -- for this text's walks alone
set_option linter.unusedVariables false
set_option linter.unusedSimpArgs false

/-! ### parallaxref6_Put: function 12 -/
def parallaxref6_Put.j0 : Nat → ByteArray → Int → ByteArray → ByteArray → ByteArray → Bool → Option (ByteArray)
 | 0, _, _, _, _, _, _ => none
 | k + 1, x3, x281000, x281001, x281002, x281003, x281004 => if x281000 = 1 then (if x281002.size + x3.size ≤ 9223372036854775807 then (some (x281002 ++ x3)) else (none)) else (if x281000 = 2 then (if 7 + x281001.size ≤ 9223372036854775807 then (if ((⟨#[104, 116, 116, 112, 58, 47, 47]⟩ : ByteArray) ++ x281001).size + x281002.size ≤ 9223372036854775807 then (if (((⟨#[104, 116, 116, 112, 58, 47, 47]⟩ : ByteArray) ++ x281001) ++ x281002).size + x3.size ≤ 9223372036854775807 then (some ((((⟨#[104, 116, 116, 112, 58, 47, 47]⟩ : ByteArray) ++ x281001) ++ x281002) ++ x3)) else (none)) else (none)) else (none)) else (if x281000 = 3 then (some x281001) else (if x281000 = 4 then (some (⟨#[42]⟩ : ByteArray)) else (some (⟨#[]⟩ : ByteArray)))))
def parallaxref6_Put.f (k : Nat) (a0_0 : Int) (a0_1 : ByteArray) (a0_2 : ByteArray) (a0_3 : ByteArray) (a0_4 : Bool) : Option (ByteArray) := if a0_4 = true then (if 1 + a0_3.size ≤ 9223372036854775807 then (parallaxref6_Put.j0 k ((⟨#[63]⟩ : ByteArray) ++ a0_3) a0_0 a0_1 a0_2 a0_3 a0_4) else (none)) else (parallaxref6_Put.j0 k (⟨#[]⟩ : ByteArray) a0_0 a0_1 a0_2 a0_3 a0_4)
theorem parallaxref6_Put.mono_l : ∀ k, (∀ y0 y1 y2 y3 y4 y5, LeO (parallaxref6_Put.j0 k y0 y1 y2 y3 y4 y5) (parallaxref6_Put.j0 (k + 1) y0 y1 y2 y3 y4 y5))
 | 0 => fun _ _ _ _ _ _ r h => by simp [parallaxref6_Put.j0] at h
 | k + 1 => by
  have ih0 := parallaxref6_Put.mono_l k
  ·intro y0 y1 y2 y3 y4 y5
   unfold parallaxref6_Put.j0
   repeat' first
   | (with_reducible exact ih0 _ _ _ _ _ _)
   | (with_reducible exact LeO.refl _)
   | (with_reducible exact LeO.none _)
   | (with_reducible refine LeO.ite ?_ ?_)
   | (with_reducible refine LeO.bind ?_ (fun _ => ?_))
   | exact ih0 _ _ _ _ _ _
   | exact LeO.none _
   | refine LeO.ite ?_ ?_
   | refine LeO.bind ?_ (fun _ => ?_)
theorem parallaxref6_Put.mono : ∀ a0 a1 a2 a3 a4 k, LeO (parallaxref6_Put.f k a0 a1 a2 a3 a4) (parallaxref6_Put.f (k + 1) a0 a1 a2 a3 a4) := by
 intro a0 a1 a2 a3 a4 k
 have ih0 := parallaxref6_Put.mono_l k
 unfold parallaxref6_Put.f
 repeat' first
   | (with_reducible exact ih0 _ _ _ _ _ _)
   | (with_reducible exact LeO.refl _)
   | (with_reducible exact LeO.none _)
   | (with_reducible refine LeO.ite ?_ ?_)
   | (with_reducible refine LeO.bind ?_ (fun _ => ?_))
   | exact ih0 _ _ _ _ _ _
   | exact LeO.none _
   | refine LeO.ite ?_ ?_
   | refine LeO.bind ?_ (fun _ => ?_)
set_option maxHeartbeats 8000000 in
set_option maxRecDepth 100000 in
theorem parallaxref6_Put.calls (k : Nat) (a0_0 : Int) (a0_1 : ByteArray) (a0_2 : ByteArray) (a0_3 : ByteArray) (a0_4 : Bool) (r : ByteArray) (w : World) (h : parallaxref6_Put.f k a0_0 a0_1 a0_2 a0_3 a0_4 = some r) :
  Calls Try.prog 12 #[.agg #[.int .i64 a0_0, .string a0_1, .string a0_2, .string a0_3, .bool a0_4]] w fun e w' => e = .returned (.string r) ∧ Below w.heap.size w w' := by
 have hu27 := Try.underlying27
 have HB := Aside0.mk (Below.refl w.heap.size w)
 have H : (if a0_4 = true then (if 1 + a0_3.size ≤ 9223372036854775807 then (parallaxref6_Put.j0 k ((⟨#[63]⟩ : ByteArray) ++ a0_3) a0_0 a0_1 a0_2 a0_3 a0_4) else (none)) else (parallaxref6_Put.j0 k (⟨#[]⟩ : ByteArray) a0_0 a0_1 a0_2 a0_3 a0_4)) = some r := h
 clear h
 have HC2 := Aside0.mk H
 clear H
 go_enter Try.func12, Try.ntmps12
 go_upto_if 5 with (first | ((with_reducible refine gate_dst (N := 1) rfl ?_); refine box_event ?hg (N := 1) ?hd (cs := #[.int .i64 a0_0, .string a0_1, .string a0_2, .string a0_3, .bool a0_4]) (t := 27) ?hr ?_; (case hd => rfl); (case hg => rfl); (case hr => first | (go_simp; done) | (go_simp; rfl)); intro gb280 hg w3 hbox hb; have n0_ := Aside0.mk (below_step (by repeat (first | (with_reducible first | exact HB.out | apply below_alloc | apply pw_below_drewN | apply below_drew1) | exact HB.out)) hb); have n1_ := Aside0.mk (hbox); have n2_ := Aside0.mk ((by rw [hg]; exact (below_size (by repeat (first | (with_reducible first | exact HB.out | apply below_alloc | apply pw_below_drewN | apply below_drew1) | exact HB.out))) : w.heap.size ≤ gb280)); have n3_ := Aside0.mk ((by rw [hg]; exact (below_size (by repeat (first | (with_reducible first | exact HB.out | apply below_alloc | apply pw_below_drewN | apply below_drew1) | exact HB.out))) : w.heap.size ≤ gb280)); clear HB; have HB := n0_; have BK280 := n1_; have GW280 := n2_; have GE280 := n3_; clear n0_ n1_ n2_ n3_; clear hb hbox hg; have hcz4_0 : w3.cell? ⟨gb280, 0, none⟩ = some (.int .i64 a0_0) := (blk_cell BK280.out 0).trans rfl; have hcz4_1 : w3.cell? ⟨gb280, 1, none⟩ = some (.string a0_1) := (blk_cell BK280.out 1).trans rfl; have hcz4_2 : w3.cell? ⟨gb280, 2, none⟩ = some (.string a0_2) := (blk_cell BK280.out 2).trans rfl; have hcz4_3 : w3.cell? ⟨gb280, 3, none⟩ = some (.string a0_3) := (blk_cell BK280.out 3).trans rfl; have hcz4_4 : w3.cell? ⟨gb280, 4, none⟩ = some (.bool a0_4) := (blk_cell BK280.out 4).trans rfl; have hfz4_0 := blk_frozen BK280.out 0; have hfz4_1 := blk_frozen BK280.out 1; have hfz4_2 := blk_frozen BK280.out 2; have hfz4_3 := blk_frozen BK280.out 3; have hfz4_4 := blk_frozen BK280.out 4))
 (try simp only [Act.put, List.setIfInBounds_toArray, List.set_cons_zero, List.set_cons_succ])
 go_cut [3] (fun v3 wc => ∃ (kq : Nat) (x3_1 : ByteArray), v3 = .string x3_1 ∧ Aside0 (parallaxref6_Put.j0 kq x3_1 a0_0 a0_1 a0_2 a0_3 a0_4 = some r) ∧ Aside0 (kq ≤ k) ∧ Aside0 (wc.heap[gb280]? = some (.cells #[.int .i64 a0_0, .string a0_1, .string a0_2, .string a0_3, .bool a0_4] 27 (0, 0))) ∧ Aside0 (Below w.heap.size w wc))
 case first =>
  have H := HC2.out
  clear HC2
  by_cases c5 : a0_4 = true
  ·subst c5
   have H1 : (if 1 + a0_3.size ≤ 9223372036854775807 then (parallaxref6_Put.j0 k ((⟨#[63]⟩ : ByteArray) ++ a0_3) a0_0 a0_1 a0_2 a0_3 true) else (none)) = some r := by rw [if_pos rfl] at H; exact H
   clear H
   have H := H1
   clear H1
   by_cases c6 : 1 + a0_3.size ≤ 9223372036854775807
   ·rw [if_pos c6] at H
    have c6b0 := eq_true c6
    have c6b1 : decide (1 + a0_3.size ≤ 9223372036854775807) = true := decide_eq_true c6
    try have c6b2 : (9223372036854775807 < 1 + a0_3.size) = False := eq_false (Nat.not_lt.2 c6)
    have H' := Aside0.mk H
    clear H
    have hcz7_0 : w3.cell? ⟨gb280, 0, none⟩ = some (.int .i64 a0_0) := (blk_cell BK280.out 0).trans rfl
    have hcz7_1 : w3.cell? ⟨gb280, 1, none⟩ = some (.string a0_1) := (blk_cell BK280.out 1).trans rfl
    have hcz7_2 : w3.cell? ⟨gb280, 2, none⟩ = some (.string a0_2) := (blk_cell BK280.out 2).trans rfl
    have hcz7_3 : w3.cell? ⟨gb280, 3, none⟩ = some (.string a0_3) := (blk_cell BK280.out 3).trans rfl
    have hcz7_4 : w3.cell? ⟨gb280, 4, none⟩ = some (.bool true) := (blk_cell BK280.out 4).trans rfl
    have hfz7_0 := blk_frozen BK280.out 0
    have hfz7_1 := blk_frozen BK280.out 1
    have hfz7_2 := blk_frozen BK280.out 2
    have hfz7_3 := blk_frozen BK280.out 3
    have hfz7_4 := blk_frozen BK280.out 4
    go_wp2
    go_meet
    case rel => exact ⟨_, ((⟨#[63]⟩ : ByteArray) ++ a0_3), (by first | rfl | (simp; done) | (simp [*]; done)), H', ⟨by first | omega | exact Nat.le_refl _⟩, ⟨by (with_reducible repeat (first | refine blk_drewN ?_ _ | refine blk_drew ?_ | refine blk_alloc ?_ _)); exact BK280.out⟩, ⟨by repeat (first | (with_reducible first | exact HB.out | apply below_alloc | apply pw_below_drewN | apply below_drew1 | refine below_set ?_ GE280.out) | exact HB.out)⟩⟩
   ·rw [if_neg c6] at H
    exact absurd H (by simp)
  ·replace c5 := Bool.eq_false_iff.mpr c5
   subst c5
   have H1 : (parallaxref6_Put.j0 k (⟨#[]⟩ : ByteArray) a0_0 a0_1 a0_2 a0_3 false) = some r := by rw [if_neg (show ¬ (false = true) by decide)] at H; exact H
   clear H
   have H := H1
   clear H1
   have H' := Aside0.mk H
   clear H
   go_wp2
   go_meet
   case rel => exact ⟨_, ((⟨#[]⟩ : ByteArray)), (by first | rfl | (simp; done) | (simp [*]; done)), H', ⟨by first | omega | exact Nat.le_refl _⟩, ⟨by (with_reducible repeat (first | refine blk_drewN ?_ _ | refine blk_drew ?_ | refine blk_alloc ?_ _)); exact BK280.out⟩, ⟨by repeat (first | (with_reducible first | exact HB.out | apply below_alloc | apply pw_below_drewN | apply below_drew1 | refine below_set ?_ GE280.out) | exact HB.out)⟩⟩
 case rest =>
  clear HC2
  try clear c1
  try clear p2
  try clear c5
  try clear c6
  try clear c6b0
  try clear c6b1
  try clear c6b2
  try clear hcz4_0
  try clear hcz4_1
  try clear hcz4_2
  try clear hcz4_3
  try clear hcz4_4
  try clear hcz7_0
  try clear hcz7_1
  try clear hcz7_2
  try clear hcz7_3
  try clear hcz7_4
  try clear hfz4_0
  try clear hfz4_1
  try clear hfz4_2
  try clear hfz4_3
  try clear hfz4_4
  try clear hfz7_0
  try clear hfz7_1
  try clear hfz7_2
  try clear hfz7_3
  try clear hfz7_4
  obtain ⟨kq, x3_1, rfl, HA, HJ1, BK280, HB⟩ := hcut
  cases kq with
  | zero => exact absurd HA.out (by simp [parallaxref6_Put.j0])
  | succ kj1 =>
   have H := HA.out
   clear HA
   simp only [parallaxref6_Put.j0] at H
   by_cases c8 : a0_0 = 1
   ·rw [if_pos c8] at H
    have c8b0 : (a0_0 == 1) = true := beq_iff_eq.mpr c8
    have c8b1 : (a0_0 != 1) = false := bne_eq_false_iff_eq.mpr c8
    clear c8
    by_cases c9 : a0_2.size + x3_1.size ≤ 9223372036854775807
    ·rw [if_pos c9] at H
     have c9b0 := eq_true c9
     have c9b1 : decide (a0_2.size + x3_1.size ≤ 9223372036854775807) = true := decide_eq_true c9
     try have c9b2 : (9223372036854775807 < a0_2.size + x3_1.size) = False := eq_false (Nat.not_lt.2 c9)
     obtain rfl := Option.some.inj H
     have hcz10_0 : wc.cell? ⟨gb280, 0, none⟩ = some (.int .i64 a0_0) := (blk_cell BK280.out 0).trans rfl
     have hcz10_1 : wc.cell? ⟨gb280, 1, none⟩ = some (.string a0_1) := (blk_cell BK280.out 1).trans rfl
     have hcz10_2 : wc.cell? ⟨gb280, 2, none⟩ = some (.string a0_2) := (blk_cell BK280.out 2).trans rfl
     have hcz10_3 : wc.cell? ⟨gb280, 3, none⟩ = some (.string a0_3) := (blk_cell BK280.out 3).trans rfl
     have hcz10_4 : wc.cell? ⟨gb280, 4, none⟩ = some (.bool a0_4) := (blk_cell BK280.out 4).trans rfl
     have hfz10_0 := blk_frozen BK280.out 0
     have hfz10_1 := blk_frozen BK280.out 1
     have hfz10_2 := blk_frozen BK280.out 2
     have hfz10_3 := blk_frozen BK280.out 3
     have hfz10_4 := blk_frozen BK280.out 4
     go_wp2
     go_ret
     exact ⟨by first | rfl | (simp [errW_none, errW_some] <;> rfl) | (simp [*, errW_none, errW_some] <;> rfl), by repeat (first | (with_reducible first | exact HB.out | apply below_alloc | apply pw_below_drewN | apply below_drew1 | refine below_set ?_ GE280.out) | exact HB.out)⟩
    ·rw [if_neg c9] at H
     exact absurd H (by simp)
   ·rw [if_neg c8] at H
    have c8b0 : (a0_0 == 1) = false := beq_eq_false_iff_ne.mpr c8
    have c8b1 : (a0_0 != 1) = true := bne_iff_ne.mpr c8
    by_cases c11 : a0_0 = 2
    ·rw [if_pos c11] at H
     have c11b0 : (a0_0 == 2) = true := beq_iff_eq.mpr c11
     have c11b1 : (a0_0 != 2) = false := bne_eq_false_iff_eq.mpr c11
     clear c11
     by_cases c12 : 7 + a0_1.size ≤ 9223372036854775807
     ·rw [if_pos c12] at H
      have c12b0 := eq_true c12
      have c12b1 : decide (7 + a0_1.size ≤ 9223372036854775807) = true := decide_eq_true c12
      try have c12b2 : (9223372036854775807 < 7 + a0_1.size) = False := eq_false (Nat.not_lt.2 c12)
      by_cases c13 : ((⟨#[104, 116, 116, 112, 58, 47, 47]⟩ : ByteArray) ++ a0_1).size + a0_2.size ≤ 9223372036854775807
      ·rw [if_pos c13] at H
       have c13b0 := eq_true c13
       have c13b1 : decide (((⟨#[104, 116, 116, 112, 58, 47, 47]⟩ : ByteArray) ++ a0_1).size + a0_2.size ≤ 9223372036854775807) = true := decide_eq_true c13
       try have c13b2 : (9223372036854775807 < ((⟨#[104, 116, 116, 112, 58, 47, 47]⟩ : ByteArray) ++ a0_1).size + a0_2.size) = False := eq_false (Nat.not_lt.2 c13)
       (try (have c13b3 : (9223372036854775807 < 7 + a0_1.size + a0_2.size) = False := eq_false (by have h_ := c13; simp only [ByteArray.size_append] at h_; exact Nat.not_lt.mpr h_)))
       (try (have c13b4 : decide (7 + a0_1.size + a0_2.size ≤ 9223372036854775807) = true := decide_eq_true (by have h_ := c13; simp only [ByteArray.size_append] at h_; exact h_)))
       by_cases c14 : (((⟨#[104, 116, 116, 112, 58, 47, 47]⟩ : ByteArray) ++ a0_1) ++ a0_2).size + x3_1.size ≤ 9223372036854775807
       ·rw [if_pos c14] at H
        have c14b0 := eq_true c14
        have c14b1 : decide ((((⟨#[104, 116, 116, 112, 58, 47, 47]⟩ : ByteArray) ++ a0_1) ++ a0_2).size + x3_1.size ≤ 9223372036854775807) = true := decide_eq_true c14
        try have c14b2 : (9223372036854775807 < (((⟨#[104, 116, 116, 112, 58, 47, 47]⟩ : ByteArray) ++ a0_1) ++ a0_2).size + x3_1.size) = False := eq_false (Nat.not_lt.2 c14)
        (try (have c14b3 : (9223372036854775807 < (7 + a0_1.size) + a0_2.size + x3_1.size) = False := eq_false (by have h_ := c14; simp only [ByteArray.size_append] at h_; exact Nat.not_lt.mpr h_)))
        (try (have c14b4 : decide ((7 + a0_1.size) + a0_2.size + x3_1.size ≤ 9223372036854775807) = true := decide_eq_true (by have h_ := c14; simp only [ByteArray.size_append] at h_; exact h_)))
        obtain rfl := Option.some.inj H
        have hcz15_0 : wc.cell? ⟨gb280, 0, none⟩ = some (.int .i64 a0_0) := (blk_cell BK280.out 0).trans rfl
        have hcz15_1 : wc.cell? ⟨gb280, 1, none⟩ = some (.string a0_1) := (blk_cell BK280.out 1).trans rfl
        have hcz15_2 : wc.cell? ⟨gb280, 2, none⟩ = some (.string a0_2) := (blk_cell BK280.out 2).trans rfl
        have hcz15_3 : wc.cell? ⟨gb280, 3, none⟩ = some (.string a0_3) := (blk_cell BK280.out 3).trans rfl
        have hcz15_4 : wc.cell? ⟨gb280, 4, none⟩ = some (.bool a0_4) := (blk_cell BK280.out 4).trans rfl
        have hfz15_0 := blk_frozen BK280.out 0
        have hfz15_1 := blk_frozen BK280.out 1
        have hfz15_2 := blk_frozen BK280.out 2
        have hfz15_3 := blk_frozen BK280.out 3
        have hfz15_4 := blk_frozen BK280.out 4
        go_wp2
        go_ret
        exact ⟨by first | rfl | (simp [errW_none, errW_some] <;> rfl) | (simp [*, errW_none, errW_some] <;> rfl), by repeat (first | (with_reducible first | exact HB.out | apply below_alloc | apply pw_below_drewN | apply below_drew1 | refine below_set ?_ GE280.out) | exact HB.out)⟩
       ·rw [if_neg c14] at H
        exact absurd H (by simp)
      ·rw [if_neg c13] at H
       exact absurd H (by simp)
     ·rw [if_neg c12] at H
      exact absurd H (by simp)
    ·rw [if_neg c11] at H
     have c11b0 : (a0_0 == 2) = false := beq_eq_false_iff_ne.mpr c11
     have c11b1 : (a0_0 != 2) = true := bne_iff_ne.mpr c11
     by_cases c16 : a0_0 = 3
     ·rw [if_pos c16] at H
      have c16b0 : (a0_0 == 3) = true := beq_iff_eq.mpr c16
      have c16b1 : (a0_0 != 3) = false := bne_eq_false_iff_eq.mpr c16
      clear c16
      obtain rfl := Option.some.inj H
      have hcz17_0 : wc.cell? ⟨gb280, 0, none⟩ = some (.int .i64 a0_0) := (blk_cell BK280.out 0).trans rfl
      have hcz17_1 : wc.cell? ⟨gb280, 1, none⟩ = some (.string a0_1) := (blk_cell BK280.out 1).trans rfl
      have hcz17_2 : wc.cell? ⟨gb280, 2, none⟩ = some (.string a0_2) := (blk_cell BK280.out 2).trans rfl
      have hcz17_3 : wc.cell? ⟨gb280, 3, none⟩ = some (.string a0_3) := (blk_cell BK280.out 3).trans rfl
      have hcz17_4 : wc.cell? ⟨gb280, 4, none⟩ = some (.bool a0_4) := (blk_cell BK280.out 4).trans rfl
      have hfz17_0 := blk_frozen BK280.out 0
      have hfz17_1 := blk_frozen BK280.out 1
      have hfz17_2 := blk_frozen BK280.out 2
      have hfz17_3 := blk_frozen BK280.out 3
      have hfz17_4 := blk_frozen BK280.out 4
      go_wp2
      go_ret
      exact ⟨by first | rfl | (simp [errW_none, errW_some] <;> rfl) | (simp [*, errW_none, errW_some] <;> rfl), by repeat (first | (with_reducible first | exact HB.out | apply below_alloc | apply pw_below_drewN | apply below_drew1 | refine below_set ?_ GE280.out) | exact HB.out)⟩
     ·rw [if_neg c16] at H
      have c16b0 : (a0_0 == 3) = false := beq_eq_false_iff_ne.mpr c16
      have c16b1 : (a0_0 != 3) = true := bne_iff_ne.mpr c16
      by_cases c18 : a0_0 = 4
      ·rw [if_pos c18] at H
       have c18b0 : (a0_0 == 4) = true := beq_iff_eq.mpr c18
       have c18b1 : (a0_0 != 4) = false := bne_eq_false_iff_eq.mpr c18
       clear c18
       obtain rfl := Option.some.inj H
       have hcz19_0 : wc.cell? ⟨gb280, 0, none⟩ = some (.int .i64 a0_0) := (blk_cell BK280.out 0).trans rfl
       have hcz19_1 : wc.cell? ⟨gb280, 1, none⟩ = some (.string a0_1) := (blk_cell BK280.out 1).trans rfl
       have hcz19_2 : wc.cell? ⟨gb280, 2, none⟩ = some (.string a0_2) := (blk_cell BK280.out 2).trans rfl
       have hcz19_3 : wc.cell? ⟨gb280, 3, none⟩ = some (.string a0_3) := (blk_cell BK280.out 3).trans rfl
       have hcz19_4 : wc.cell? ⟨gb280, 4, none⟩ = some (.bool a0_4) := (blk_cell BK280.out 4).trans rfl
       have hfz19_0 := blk_frozen BK280.out 0
       have hfz19_1 := blk_frozen BK280.out 1
       have hfz19_2 := blk_frozen BK280.out 2
       have hfz19_3 := blk_frozen BK280.out 3
       have hfz19_4 := blk_frozen BK280.out 4
       go_wp2
       go_ret
       exact ⟨by first | rfl | (simp [errW_none, errW_some] <;> rfl) | (simp [*, errW_none, errW_some] <;> rfl), by repeat (first | (with_reducible first | exact HB.out | apply below_alloc | apply pw_below_drewN | apply below_drew1 | refine below_set ?_ GE280.out) | exact HB.out)⟩
      ·rw [if_neg c18] at H
       have c18b0 : (a0_0 == 4) = false := beq_eq_false_iff_ne.mpr c18
       have c18b1 : (a0_0 != 4) = true := bne_iff_ne.mpr c18
       obtain rfl := Option.some.inj H
       have hcz20_0 : wc.cell? ⟨gb280, 0, none⟩ = some (.int .i64 a0_0) := (blk_cell BK280.out 0).trans rfl
       have hcz20_1 : wc.cell? ⟨gb280, 1, none⟩ = some (.string a0_1) := (blk_cell BK280.out 1).trans rfl
       have hcz20_2 : wc.cell? ⟨gb280, 2, none⟩ = some (.string a0_2) := (blk_cell BK280.out 2).trans rfl
       have hcz20_3 : wc.cell? ⟨gb280, 3, none⟩ = some (.string a0_3) := (blk_cell BK280.out 3).trans rfl
       have hcz20_4 : wc.cell? ⟨gb280, 4, none⟩ = some (.bool a0_4) := (blk_cell BK280.out 4).trans rfl
       have hfz20_0 := blk_frozen BK280.out 0
       have hfz20_1 := blk_frozen BK280.out 1
       have hfz20_2 := blk_frozen BK280.out 2
       have hfz20_3 := blk_frozen BK280.out 3
       have hfz20_4 := blk_frozen BK280.out 4
       go_wp2
       go_ret
       exact ⟨by first | rfl | (simp [errW_none, errW_some] <;> rfl) | (simp [*, errW_none, errW_some] <;> rfl), by repeat (first | (with_reducible first | exact HB.out | apply below_alloc | apply pw_below_drewN | apply below_drew1 | refine below_set ?_ GE280.out) | exact HB.out)⟩

end Go.Proofs.Ytnnehbbfokoklaa.PTargetTells
