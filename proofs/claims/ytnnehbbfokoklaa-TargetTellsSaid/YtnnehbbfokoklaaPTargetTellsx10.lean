-- Written by a program of this session (wip/tools/myprint.sh)
import Derived.Test.YtnnehbbfokoklaaPTargetTellsx0
import Derived.Test.YtnnehbbfokoklaaPTargetTellsx9
namespace Go.Proofs.Ytnnehbbfokoklaa.PTargetTells
open Go.RowKit Go.Proofs.YtnnehbbfokoklaaW.PrintWords Go.Proofs.YtnnehbbfokoklaaW.PrintLast Go.Proofs.YtnnehbbfokoklaaW.PrintMore
attribute [local go_sem] max2_int min2_int max_two min_two max_three min_three max_four min_four   -- for this text's walks alone
set_option linter.unusedVariables false
set_option linter.unusedSimpArgs false

/-! ### parallaxref6_origin: function 27 -/
def parallaxref6_origin.l0 : Nat → ByteArray → Int → Int → ByteArray → ByteArray → ByteArray → Bool → Option (Int × ByteArray × ByteArray × ByteArray × Bool × Bool)
 | 0, _, _, _, _, _, _, _ => none
 | k + 1, x0, x5, x250000, x250001, x250002, x250003, x250004 => if x5 < (x0.size : Int) then (if 0 ≤ x5 then (if (bt x0 x5) = 63 then (if x5 ≤ (x0.size : Int) then (if 0 ≤ (wrap64 (x5 + 1)) then (if (wrap64 (x5 + 1)) ≤ (x0.size : Int) then ((parallaxref6_Path.f k (x0.extract 0 (x5 : Int).toNat)).bind fun t250 => (if t250 = true then ((parallaxref6_Query.f k (x0.extract ((wrap64 (x5 + 1)) : Int).toNat x0.size)).bind fun t251 => (some (x250000, x250001, x0.extract 0 (x5 : Int).toNat, x0.extract ((wrap64 (x5 + 1)) : Int).toNat x0.size, true, t251))) else (some (x250000, x250001, x0.extract 0 (x5 : Int).toNat, x0.extract ((wrap64 (x5 + 1)) : Int).toNat x0.size, true, false)))) else (none)) else (none)) else (none)) else (parallaxref6_origin.l0 k x0 (wrap64 (x5 + 1)) x250000 x250001 x250002 x250003 x250004)) else (none)) else ((parallaxref6_Path.f k x250002).bind fun t252 => (if t252 = true then ((parallaxref6_Query.f k x250003).bind fun t253 => (some (x250000, x250001, x250002, x250003, x250004, t253))) else (some (x250000, x250001, x250002, x250003, x250004, false))))
def parallaxref6_origin.f (k : Nat) (a0 : ByteArray) : Option (Int × ByteArray × ByteArray × ByteArray × Bool × Bool) := parallaxref6_origin.l0 k a0 0 0 (⟨#[]⟩ : ByteArray) a0 (⟨#[]⟩ : ByteArray) false
theorem parallaxref6_origin.mono_l : ∀ k, (∀ y0 y1 y2 y3 y4 y5 y6, LeO (parallaxref6_origin.l0 k y0 y1 y2 y3 y4 y5 y6) (parallaxref6_origin.l0 (k + 1) y0 y1 y2 y3 y4 y5 y6))
 | 0 => fun _ _ _ _ _ _ _ r h => by simp [parallaxref6_origin.l0] at h
 | k + 1 => by
  have ih0 := parallaxref6_origin.mono_l k
  ·intro y0 y1 y2 y3 y4 y5 y6
   unfold parallaxref6_origin.l0
   repeat' first
   | (with_reducible exact ih0 _ _ _ _ _ _ _)
   | (with_reducible exact parallaxref6_Path.mono _ _)
   | (with_reducible exact parallaxref6_Query.mono _ _)
   | (with_reducible exact LeO.refl _)
   | (with_reducible exact LeO.none _)
   | (with_reducible refine LeO.ite ?_ ?_)
   | (with_reducible refine LeO.bind ?_ (fun _ => ?_))
   | exact ih0 _ _ _ _ _ _ _
   | exact parallaxref6_Path.mono _ _
   | exact parallaxref6_Query.mono _ _
   | exact LeO.none _
   | refine LeO.ite ?_ ?_
   | refine LeO.bind ?_ (fun _ => ?_)
theorem parallaxref6_origin.mono : ∀ a0 k, LeO (parallaxref6_origin.f k a0) (parallaxref6_origin.f (k + 1) a0) := by
 intro a0 k
 have ih0 := parallaxref6_origin.mono_l k
 unfold parallaxref6_origin.f
 repeat' first
   | (with_reducible exact ih0 _ _ _ _ _ _ _)
   | (with_reducible exact parallaxref6_Path.mono _ _)
   | (with_reducible exact parallaxref6_Query.mono _ _)
   | (with_reducible exact LeO.refl _)
   | (with_reducible exact LeO.none _)
   | (with_reducible refine LeO.ite ?_ ?_)
   | (with_reducible refine LeO.bind ?_ (fun _ => ?_))
   | exact ih0 _ _ _ _ _ _ _
   | exact parallaxref6_Path.mono _ _
   | exact parallaxref6_Query.mono _ _
   | exact LeO.none _
   | refine LeO.ite ?_ ?_
   | refine LeO.bind ?_ (fun _ => ?_)
def parallaxref6_origin.T6 : Bool × List (List Nat × List Nat) := (true, [([], []), ([], []), ([0, 1], [0, 1]), ([], []), ([], []), ([4], [4]), ([3, 5], [3, 5]), ([0, 1, 2], []), ([7, 2, 0, 1, 2], [2, 7]), ([0, 1, 2, 3, 4, 5, 6, 7, 8], []), ([9, 6, 8, 0, 1, 2, 3, 4, 5, 6, 7, 8], [6, 9]), ([0, 1, 2, 3, 4, 5, 6, 7, 8, 9, 10], []), ([11, 10, 0, 1, 2, 3, 4, 5, 6, 7, 8, 9, 10], [11])])
def parallaxref6_origin.B6 : List Nat := [0, 0, 3, 0, 0, 16, 56, 7, 135, 511, 1023, 2047, 4095]
theorem parallaxref6_origin.tab6 : rtab .any (opsOf Try.f27 6) = parallaxref6_origin.T6 := by kernel_rfl
theorem parallaxref6_origin.bits6 : waitsOk parallaxref6_origin.T6.2 parallaxref6_origin.B6 = true := by kernel_rfl
def parallaxref6_origin.T7 : Bool × List (List Nat × List Nat) := (true, [([], []), ([], []), ([1], [1]), ([2], [2]), ([3, 3], [3]), ([4], [4]), ([5, 4], [4, 5]), ([6, 4, 4], [4, 6]), ([4, 7], [4, 7]), ([0, 7, 0], [0]), ([8, 9, 0, 1, 2, 3, 4, 5, 6, 7, 8, 9], [8])])
def parallaxref6_origin.B7 : List Nat := [0, 0, 2, 6, 14, 30, 62, 126, 254, 255, 1023]
theorem parallaxref6_origin.tab7 : rtab .any (opsOf Try.f27 7) = parallaxref6_origin.T7 := by kernel_rfl
theorem parallaxref6_origin.bits7 : waitsOk parallaxref6_origin.T7.2 parallaxref6_origin.B7 = true := by kernel_rfl
set_option maxHeartbeats 8000000 in
set_option maxRecDepth 100000 in
theorem parallaxref6_origin.calls (k : Nat) (a0 : ByteArray) (r1 : Int) (r2 : ByteArray) (r3 : ByteArray) (r4 : ByteArray) (r5 : Bool) (r6 : Bool) (w : World) (h : parallaxref6_origin.f k a0 = some (r1, r2, r3, r4, r5, r6)) :
  Calls Try.prog 27 #[.string a0] w fun e w' => e = .returned (.tuple #[.agg #[.int .i64 r1, .string r2, .string r3, .string r4, .bool r5], .bool r6]) ∧ Below w.heap.size w w' := by
 have hu27 := Try.underlying27
 have HB := Aside0.mk (Below.refl w.heap.size w)
 have H : (parallaxref6_origin.l0 k a0 0 0 (⟨#[]⟩ : ByteArray) a0 (⟨#[]⟩ : ByteArray) false) = some (r1, r2, r3, r4, r5, r6) := h
 clear h
 have H' := Aside0.mk H
 clear H
 go_enter Try.func27, Try.ntmps27
 go_wp2_with (first | ((with_reducible refine gate_dst (N := 2) rfl ?_); refine box_event ?hg (N := 2) ?hd (cs := #[.int .i64 0, .string (⟨#[]⟩ : ByteArray), .string (⟨#[]⟩ : ByteArray), .string (⟨#[]⟩ : ByteArray), .bool false]) (t := 27) ?hr ?_; (case hd => rfl); (case hg => rfl); (case hr => first | (go_simp; done) | (go_simp; rfl)); intro gb248 hg w2 hbox hb; have n0_ := Aside0.mk (below_step (by repeat (first | (with_reducible first | exact HB.out | apply below_alloc | apply pw_below_drewN | apply below_drew1) | exact HB.out)) hb); have n1_ := Aside0.mk (hbox); have n2_ := Aside0.mk ((by rw [hg]; exact (below_size (by repeat (first | (with_reducible first | exact HB.out | apply below_alloc | apply pw_below_drewN | apply below_drew1) | exact HB.out))) : w.heap.size ≤ gb248)); have n3_ := Aside0.mk ((by rw [hg]; exact (below_size (by repeat (first | (with_reducible first | exact HB.out | apply below_alloc | apply pw_below_drewN | apply below_drew1) | exact HB.out))) : w.heap.size ≤ gb248)); clear HB; have HB := n0_; have BK248 := n1_; have GW248 := n2_; have GE248 := n3_; clear n0_ n1_ n2_ n3_; clear hb hbox hg) | ((with_reducible refine gate_dst (N := 4) rfl ?_); refine box_event ?hg (N := 4) ?hd (cs := #[.int .i64 0, .string (⟨#[]⟩ : ByteArray), .string (⟨#[]⟩ : ByteArray), .string (⟨#[]⟩ : ByteArray), .bool false]) (t := 27) ?hr ?_; (case hd => rfl); (case hg => rfl); (case hr => first | (go_simp; done) | (go_simp; rfl)); intro gb249 hg w3 hbox hb; have n0_ := Aside0.mk (blk_below (g := gb248) (o := .cells #[.int .i64 0, .string (⟨#[]⟩ : ByteArray), .string (⟨#[]⟩ : ByteArray), .string (⟨#[]⟩ : ByteArray), .bool false] 27 (0, 0)) (by (with_reducible repeat (first | refine blk_drewN ?_ _ | refine blk_drew ?_ | refine blk_alloc ?_ _)); exact BK248.out) hb); have n1_ := Aside0.mk (below_step (by repeat (first | (with_reducible first | exact HB.out | apply below_alloc | apply pw_below_drewN | apply below_drew1 | refine below_set ?_ GE248.out) | exact HB.out)) hb); have n2_ := Aside0.mk (hbox); have n3_ := Aside0.mk ((by rw [hg]; exact (below_size (by repeat (first | (with_reducible first | exact HB.out | apply below_alloc | apply pw_below_drewN | apply below_drew1 | refine below_set ?_ GE248.out) | exact HB.out))) : w.heap.size ≤ gb249)); have n4_ := Aside0.mk ((by rw [hg]; exact (below_size (by repeat (first | (with_reducible first | exact HB.out | apply below_alloc | apply pw_below_drewN | apply below_drew1 | refine below_set ?_ GE248.out) | exact HB.out))) : w.heap.size ≤ gb249)); have n5_ := Aside0.mk ((by rw [hg]; exact Nat.ne_of_lt (blk_lt (g := gb248) (o := .cells #[.int .i64 0, .string (⟨#[]⟩ : ByteArray), .string (⟨#[]⟩ : ByteArray), .string (⟨#[]⟩ : ByteArray), .bool false] 27 (0, 0)) (by (with_reducible repeat (first | refine blk_drewN ?_ _ | refine blk_drew ?_ | refine blk_alloc ?_ _)); exact BK248.out)) : gb248 ≠ gb249)); have n6_ := Aside0.mk ((by rw [hg]; exact Nat.ne_of_gt (blk_lt (g := gb248) (o := .cells #[.int .i64 0, .string (⟨#[]⟩ : ByteArray), .string (⟨#[]⟩ : ByteArray), .string (⟨#[]⟩ : ByteArray), .bool false] 27 (0, 0)) (by (with_reducible repeat (first | refine blk_drewN ?_ _ | refine blk_drew ?_ | refine blk_alloc ?_ _)); exact BK248.out)) : gb249 ≠ gb248)); clear BK248; clear HB; have BK248 := n0_; have HB := n1_; have BK249 := n2_; have GW249 := n3_; have GE249 := n4_; have NB248_249 := n5_; have NB249_248 := n6_; clear n0_ n1_ n2_ n3_ n4_ n5_ n6_; clear hb hbox hg; have hnb4 := NB249_248.out; have hnc4 := NB248_249.out; have hcz5_0 : w3.cell? ⟨gb249, 0, none⟩ = some (.int .i64 0) := (blk_cell BK249.out 0).trans rfl; have hcz5_1 : w3.cell? ⟨gb249, 1, none⟩ = some (.string (⟨#[]⟩ : ByteArray)) := (blk_cell BK249.out 1).trans rfl; have hcz5_2 : w3.cell? ⟨gb249, 2, none⟩ = some (.string (⟨#[]⟩ : ByteArray)) := (blk_cell BK249.out 2).trans rfl; have hcz5_3 : w3.cell? ⟨gb249, 3, none⟩ = some (.string (⟨#[]⟩ : ByteArray)) := (blk_cell BK249.out 3).trans rfl; have hcz5_4 : w3.cell? ⟨gb249, 4, none⟩ = some (.bool false) := (blk_cell BK249.out 4).trans rfl; have hfz5_0 := blk_frozen BK249.out 0; have hfz5_1 := blk_frozen BK249.out 1; have hfz5_2 := blk_frozen BK249.out 2; have hfz5_3 := blk_frozen BK249.out 3; have hfz5_4 := blk_frozen BK249.out 4))
 go_loopg [5] k (fun kq v5 w' => ∃ (x5_1 : Int) (x250002_1 : ByteArray) (x250003_1 : ByteArray) (x250004_1 : Bool), v5 = .int .i64 x5_1 ∧ Aside0 (parallaxref6_origin.l0 kq a0 x5_1 0 (⟨#[]⟩ : ByteArray) x250002_1 x250003_1 x250004_1 = some (r1, r2, r3, r4, r5, r6)) ∧ Aside0 (kq ≤ k) ∧ Aside0 (w'.heap[gb248]? = some (.cells #[.int .i64 0, .string (⟨#[]⟩ : ByteArray), .string (⟨#[]⟩ : ByteArray), .string (⟨#[]⟩ : ByteArray), .bool false] 27 (0, 0))) ∧ Aside0 (w'.heap[gb249]? = some (.cells #[.int .i64 0, .string (⟨#[]⟩ : ByteArray), .string x250002_1, .string x250003_1, .bool x250004_1] 27 (0, 0))) ∧ Aside0 (Below w.heap.size w w'))
 case atStart => exact ⟨(0), (a0), ((⟨#[]⟩ : ByteArray)), (false), (by first | rfl | (simp; done) | (simp [*]; done)), H', ⟨Nat.le_refl _⟩, ⟨by (repeat ((with_reducible repeat (first | refine blk_drewN ?_ _ | refine blk_drew ?_ | refine blk_alloc ?_ _)); refine blk_far ?_ NB248_249.out _)); (with_reducible repeat (first | refine blk_drewN ?_ _ | refine blk_drew ?_ | refine blk_alloc ?_ _)); exact BK248.out⟩, ⟨by (with_reducible repeat (first | refine blk_drewN ?_ _ | refine blk_drew ?_ | refine blk_alloc ?_ _)); refine blk_put (cs := #[.int .i64 0, .string (⟨#[]⟩ : ByteArray), .string a0, .string (⟨#[]⟩ : ByteArray), .bool false]) ?_ 4 _ rfl; (with_reducible repeat (first | refine blk_drewN ?_ _ | refine blk_drew ?_ | refine blk_alloc ?_ _)); refine blk_put (cs := #[.int .i64 0, .string (⟨#[]⟩ : ByteArray), .string a0, .string (⟨#[]⟩ : ByteArray), .bool false]) ?_ 3 _ rfl; (with_reducible repeat (first | refine blk_drewN ?_ _ | refine blk_drew ?_ | refine blk_alloc ?_ _)); refine blk_put (cs := #[.int .i64 0, .string (⟨#[]⟩ : ByteArray), .string (⟨#[]⟩ : ByteArray), .string (⟨#[]⟩ : ByteArray), .bool false]) ?_ 2 _ rfl; (with_reducible repeat (first | refine blk_drewN ?_ _ | refine blk_drew ?_ | refine blk_alloc ?_ _)); refine blk_put (cs := #[.int .i64 0, .string (⟨#[]⟩ : ByteArray), .string (⟨#[]⟩ : ByteArray), .string (⟨#[]⟩ : ByteArray), .bool false]) ?_ 1 _ rfl; (with_reducible repeat (first | refine blk_drewN ?_ _ | refine blk_drew ?_ | refine blk_alloc ?_ _)); refine blk_put (cs := #[.int .i64 0, .string (⟨#[]⟩ : ByteArray), .string (⟨#[]⟩ : ByteArray), .string (⟨#[]⟩ : ByteArray), .bool false]) ?_ 0 _ rfl; (with_reducible repeat (first | refine blk_drewN ?_ _ | refine blk_drew ?_ | refine blk_alloc ?_ _)); exact BK249.out⟩, ⟨by repeat (first | (with_reducible first | exact HB.out | apply below_alloc | apply pw_below_drewN | apply below_drew1 | refine below_set ?_ GE248.out | refine below_set ?_ GE249.out) | exact HB.out)⟩⟩
 case round =>
  clear H'
  try clear c2
  try clear p2
  try clear c4
  try clear hcz5_0
  try clear hcz5_1
  try clear hcz5_2
  try clear hcz5_3
  try clear hcz5_4
  try clear hfz5_0
  try clear hfz5_1
  try clear hfz5_2
  try clear hfz5_3
  try clear hfz5_4
  obtain ⟨x5_1, x250002_1, x250003_1, x250004_1, rfl, HA, HK1, BK248, BK249, HB⟩ := hrel
  cases gk with
  | zero => exact absurd HA.out (by simp [parallaxref6_origin.l0])
  | succ k1 =>
   have H := HA.out
   clear HA
   simp only [parallaxref6_origin.l0] at H
   by_cases c6 : x5_1 < (a0.size : Int)
   ·rw [if_pos c6] at H
    have c6b0 : decide (x5_1 < (a0.size : Int)) = true := decide_eq_true c6
    clear c6
    by_cases c7 : 0 ≤ x5_1
    ·rw [if_pos c7] at H
     have c7b0 : decide (0 ≤ x5_1) = true := decide_eq_true c7
     clear c7
     by_cases c9 : (bt a0 x5_1) = 63
     ·rw [if_pos c9] at H
      have c9b0 : ((bt a0 x5_1) == 63) = true := beq_iff_eq.mpr c9
      have c9b1 : ((bt a0 x5_1) != 63) = false := bne_eq_false_iff_eq.mpr c9
      clear c9
      have c10b0 := eq_true (of_decide_eq_true (by first | (with_reducible assumption) | assumption) : 0 ≤ x5_1)
      by_cases c11 : x5_1 ≤ (a0.size : Int)
      ·rw [if_pos c11] at H
       have c11b0 := eq_true c11
       have c11b1 : decide (x5_1 ≤ (a0.size : Int)) = true := decide_eq_true c11
       clear c11
       obtain ⟨ji12, hji12⟩ : ∃ j_ : Int, (wrap64 (x5_1 + 1)) = j_ := ⟨_, rfl⟩
       replace H : (if 0 ≤ (ji12) then (if (ji12) ≤ (a0.size : Int) then ((parallaxref6_Path.f k1 (a0.extract 0 (x5_1 : Int).toNat)).bind fun t250 => (if t250 = true then ((parallaxref6_Query.f k1 (a0.extract ((ji12) : Int).toNat a0.size)).bind fun t251 => (some (0, (⟨#[]⟩ : ByteArray), a0.extract 0 (x5_1 : Int).toNat, a0.extract ((ji12) : Int).toNat a0.size, true, t251))) else (some (0, (⟨#[]⟩ : ByteArray), a0.extract 0 (x5_1 : Int).toNat, a0.extract ((ji12) : Int).toNat a0.size, true, false)))) else (none)) else (none)) = some (r1, r2, r3, r4, r5, r6) := by first | (rw [hji12] at H; exact H) | (simp only [hji12] at H ⊢; exact H)
       have hji12w : (IntKind.i64.wrap (x5_1 + 1)) = ji12 := (i64_w _).trans hji12
       by_cases c13 : 0 ≤ (ji12)
       ·rw [if_pos c13] at H
        have c13b0 := eq_true c13
        have c13b1 : decide (0 ≤ (ji12)) = true := decide_eq_true c13
        clear c13
        by_cases c14 : (ji12) ≤ (a0.size : Int)
        ·rw [if_pos c14] at H
         have c14b0 := eq_true c14
         have c14b1 : decide ((ji12) ≤ (a0.size : Int)) = true := decide_eq_true c14
         clear c14
         replace H := Option.bind_eq_some_iff.mp H
         obtain ⟨t250, A150, H⟩ := H
         replace H : (if t250 = true then ((parallaxref6_Query.f k1 (a0.extract ((ji12) : Int).toNat a0.size)).bind fun t251 => (some (0, (⟨#[]⟩ : ByteArray), a0.extract 0 (x5_1 : Int).toNat, a0.extract ((ji12) : Int).toNat a0.size, true, t251))) else (some (0, (⟨#[]⟩ : ByteArray), a0.extract 0 (x5_1 : Int).toNat, a0.extract ((ji12) : Int).toNat a0.size, true, false))) = some (r1, r2, r3, r4, r5, r6) := H
         have A15 := Aside0.mk A150
         clear A150
         by_cases c16 : t250 = true
         ·subst c16
          have H1 : ((parallaxref6_Query.f k1 (a0.extract ((ji12) : Int).toNat a0.size)).bind fun t251 => (some (0, (⟨#[]⟩ : ByteArray), a0.extract 0 (x5_1 : Int).toNat, a0.extract ((ji12) : Int).toNat a0.size, true, t251))) = some (r1, r2, r3, r4, r5, r6) := by rw [if_pos rfl] at H; exact H
          clear H
          have H := H1
          clear H1
          replace H := Option.bind_eq_some_iff.mp H
          obtain ⟨t251, A170, H⟩ := H
          replace H : (some (0, (⟨#[]⟩ : ByteArray), a0.extract 0 (x5_1 : Int).toNat, a0.extract ((ji12) : Int).toNat a0.size, true, t251)) = some (r1, r2, r3, r4, r5, r6) := H
          have A17 := Aside0.mk A170
          clear A170
          simp only [Option.some.injEq, Prod.mk.injEq] at H
          obtain ⟨rfl, rfl, rfl, rfl, rfl, rfl⟩ := H
          have p8 : 0 ≤ (x5_1 : Int) := of_decide_eq_true (by first | (with_reducible assumption) | assumption)
          have q8 : x5_1 < (a0.size : Int) := of_decide_eq_true (by first | (with_reducible assumption) | assumption)
          have hx8 := bt_at a0 x5_1
          replace p8 := eq_true p8
          replace q8 := eq_true q8
          try go_wp2
          have n0_ := Aside0.mk (blk_drew BK248.out)
          have n1_ := Aside0.mk (blk_drew BK249.out)
          have n2_ := Aside0.mk (below_drew1 HB.out)
          clear BK248
          clear BK249
          clear HB
          have BK248 := n0_
          have BK249 := n1_
          have HB := n2_
          clear n0_ n1_ n2_
          refine start_ (n := 13) (S := fun w' => True) (ds := []) #[false, false, false, false, false, false, false, false, false, false, false, false, false] (by kernel_rfl) rfl rfl trivial (fun hHeld => ?_); refine with_tabW parallaxref6_origin.tab6 parallaxref6_origin.bits6 (fun HT_ HW_ => ?_)
          generalize wr.drew = w18 at BK248 BK249 HB hHeld ⊢
          refine pure_ (i := 0) (N := some 18) (v := ?_) (a' := ?_) #[true, false, false, false, false, false, false, false, false, false, false, false, false] rfl rfl (any_of HT_.out (by kernel_rfl)) (fun _ _ _ h => h) (Or.inl ⟨by rfl, ?_⟩) ?_ ?_
          rotate_left
          ·intro w'
           go_simp
           with_reducible rfl
          rotate_left
          ·simp only [Act.put, List.setIfInBounds_toArray, List.set_cons_zero, List.set_cons_succ, i64_w, i32_w]
           rfl
          refine pure_ (i := 1) (N := some 19) (v := ?_) (a' := ?_) #[true, true, false, false, false, false, false, false, false, false, false, false, false] rfl rfl (any_of HT_.out (by kernel_rfl)) (fun _ _ _ h => h) (Or.inl ⟨by rfl, ?_⟩) ?_ ?_
          rotate_left
          ·intro w'
           go_simp
           with_reducible rfl
          rotate_left
          ·simp only [Act.put, List.setIfInBounds_toArray, List.set_cons_zero, List.set_cons_succ, i64_w, i32_w]
           rfl
          refine pure_ (i := 2) (N := some 20) (v := ?_) (a' := ?_) #[true, true, true, false, false, false, false, false, false, false, false, false, false] rfl rfl (any_of HT_.out (by kernel_rfl)) (fun _ _ _ h => h) (Or.inl ⟨by rfl, ?_⟩) ?_ ?_
          rotate_left
          ·intro w'
           go_simp
           with_reducible rfl
          rotate_left
          ·simp only [Act.put, List.setIfInBounds_toArray, List.set_cons_zero, List.set_cons_succ, i64_w, i32_w]
           rfl
          refine pure_ (i := 3) (N := some 21) (v := ?_) (a' := ?_) #[true, true, true, true, false, false, false, false, false, false, false, false, false] rfl rfl (any_of HT_.out (by kernel_rfl)) (fun _ _ _ h => h) (Or.inl ⟨by rfl, ?_⟩) ?_ ?_
          rotate_left
          ·intro w'
           go_simp
           with_reducible rfl
          rotate_left
          ·simp only [Act.put, List.setIfInBounds_toArray, List.set_cons_zero, List.set_cons_succ, i64_w, i32_w]
           rfl
          refine pure_ (i := 4) (N := some 22) (v := ?_) (a' := ?_) #[true, true, true, true, true, false, false, false, false, false, false, false, false] rfl rfl (any_of HT_.out (by kernel_rfl)) (fun _ _ _ h => h) (Or.inl ⟨by rfl, ?_⟩) ?_ ?_
          rotate_left
          ·intro w'
           go_simp
           with_reducible rfl
          rotate_left
          ·simp only [Act.put, List.setIfInBounds_toArray, List.set_cons_zero, List.set_cons_succ, i64_w, i32_w]
           rfl
          refine pure_ (i := 5) (N := some 23) (v := ?_) (a' := ?_) #[true, true, true, true, true, true, false, false, false, false, false, false, false] rfl rfl (any_of HT_.out (by kernel_rfl)) (fun _ _ _ h => h) (Or.inl ⟨by rfl, ?_⟩) ?_ ?_
          rotate_left
          ·intro w'
           go_simp
           with_reducible rfl
          rotate_left
          ·simp only [Act.put, List.setIfInBounds_toArray, List.set_cons_zero, List.set_cons_succ, i64_w, i32_w]
           rfl
          refine pure_ (i := 6) (N := some 24) (v := ?_) (a' := ?_) #[true, true, true, true, true, true, true, false, false, false, false, false, false] rfl rfl (any_of HT_.out (by kernel_rfl)) (fun _ _ _ h => h) (Or.inl ⟨by rfl, ?_⟩) ?_ ?_
          rotate_left
          ·intro w'
           go_simp
           with_reducible rfl
          rotate_left
          ·simp only [Act.put, List.setIfInBounds_toArray, List.set_cons_zero, List.set_cons_succ, i64_w, i32_w]
           rfl
          refine pure_ (i := 7) (N := some 25) (v := ?_) (a' := ?_) #[true, true, true, true, true, true, true, true, false, false, false, false, false] rfl rfl (any_of HT_.out (by kernel_rfl)) (fun _ _ _ h => h) (Or.inl ⟨by rfl, ?_⟩) ?_ ?_
          rotate_left
          ·intro w'
           go_simp
           with_reducible rfl
          rotate_left
          ·simp only [Act.put, List.setIfInBounds_toArray, List.set_cons_zero, List.set_cons_succ, i64_w, i32_w]
           rfl
          refine one_ (i := 8) (N := none) #[true, true, true, true, true, true, true, true, true, false, false, false, false] rfl rfl (one_of HT_.out (by kernel_rfl)) (by decide) (fun K hK => ?_)
          have hs19 : w18.cell? ⟨gb249, 2, none⟩ = some (.string x250002_1) := (blk_cell BK249.out 2).trans rfl
          have hfs19 := blk_frozen BK249.out 2
          have hns19_0 := NB248_249.out
          have hms19_0 := NB249_248.out
          refine skip_ (w1 := ?_) (by rfl) rfl ?_ ?_
          rotate_left
          ·go_simp
           rfl
          refine hK.out _ _ trivial (fun hHeld => ?_)
          clear hK K
          refine pure_ (i := 9) (N := some 26) (v := ?_) (a' := ?_) #[true, true, true, true, true, true, true, true, true, true, false, false, false] rfl rfl (any_of HT_.out (by kernel_rfl)) (fun _ _ _ h => h) (Or.inl ⟨by rfl, ?_⟩) ?_ ?_
          rotate_left
          ·intro w'
           go_simp
           with_reducible rfl
          rotate_left
          ·simp only [Act.put, List.setIfInBounds_toArray, List.set_cons_zero, List.set_cons_succ, i64_w, i32_w]
           rfl
          refine one_ (i := 10) (N := none) #[true, true, true, true, true, true, true, true, true, true, true, false, false] rfl rfl (one_of HT_.out (by kernel_rfl)) (by decide) (fun K hK => ?_)
          have hs20 : w18.cell? ⟨gb249, 3, none⟩ = some (.string x250003_1) := (blk_cell BK249.out 3).trans rfl
          have hfs20 := blk_frozen BK249.out 3
          have hns20_0 := NB248_249.out
          have hms20_0 := NB249_248.out
          refine skip_ (w1 := ?_) (by rfl) rfl ?_ ?_
          rotate_left
          ·go_simp
           rfl
          refine hK.out _ _ trivial (fun hHeld => ?_)
          clear hK K
          refine pure_ (i := 11) (N := some 27) (v := ?_) (a' := ?_) #[true, true, true, true, true, true, true, true, true, true, true, true, false] rfl rfl (any_of HT_.out (by kernel_rfl)) (fun _ _ _ h => h) (Or.inl ⟨by rfl, ?_⟩) ?_ ?_
          rotate_left
          ·intro w'
           go_simp
           with_reducible rfl
          rotate_left
          ·simp only [Act.put, List.setIfInBounds_toArray, List.set_cons_zero, List.set_cons_succ, i64_w, i32_w]
           rfl
          refine one_ (i := 12) (N := none) #[true, true, true, true, true, true, true, true, true, true, true, true, true] rfl rfl (one_of HT_.out (by kernel_rfl)) (by decide) (fun K hK => ?_)
          have hs21 : w18.cell? ⟨gb249, 4, none⟩ = some (.bool x250004_1) := (blk_cell BK249.out 4).trans rfl
          have hfs21 := blk_frozen BK249.out 4
          have hns21_0 := NB248_249.out
          have hms21_0 := NB249_248.out
          refine skip_ (w1 := ?_) (by rfl) rfl ?_ ?_
          rotate_left
          ·go_simp
           rfl
          refine hK.out _ _ trivial (fun hHeld => ?_)
          clear hK K
          refine done_ (done_of HT_.out (by kernel_rfl)) ?_
          try go_wp2
          have n0_ : Aside0 ((((w18.setCell ⟨gb249, 2, none⟩ (.string (a0.extract 0 (x5_1 : Int).toNat))).setCell ⟨gb249, 3, none⟩ (.string (a0.extract ((ji12) : Int).toNat a0.size))).setCell ⟨gb249, 4, none⟩ (.bool true)).heap[gb248]? = some (.cells #[.int .i64 0, .string (⟨#[]⟩ : ByteArray), .string (⟨#[]⟩ : ByteArray), .string (⟨#[]⟩ : ByteArray), .bool false] 27 (0, 0))) := ⟨by (repeat ((with_reducible repeat (first | refine blk_drewN ?_ _ | refine blk_drew ?_ | refine blk_alloc ?_ _)); refine blk_far ?_ NB248_249.out _)); (with_reducible repeat (first | refine blk_drewN ?_ _ | refine blk_drew ?_ | refine blk_alloc ?_ _)); exact BK248.out⟩
          have n1_ : Aside0 ((((w18.setCell ⟨gb249, 2, none⟩ (.string (a0.extract 0 (x5_1 : Int).toNat))).setCell ⟨gb249, 3, none⟩ (.string (a0.extract ((ji12) : Int).toNat a0.size))).setCell ⟨gb249, 4, none⟩ (.bool true)).heap[gb249]? = some (.cells #[.int .i64 0, .string (⟨#[]⟩ : ByteArray), .string (a0.extract 0 (x5_1 : Int).toNat), .string (a0.extract ((ji12) : Int).toNat a0.size), .bool true] 27 (0, 0))) := ⟨by (with_reducible repeat (first | refine blk_drewN ?_ _ | refine blk_drew ?_ | refine blk_alloc ?_ _)); refine blk_put (cs := #[.int .i64 0, .string (⟨#[]⟩ : ByteArray), .string (a0.extract 0 (x5_1 : Int).toNat), .string (a0.extract ((ji12) : Int).toNat a0.size), .bool x250004_1]) ?_ 4 _ rfl; (with_reducible repeat (first | refine blk_drewN ?_ _ | refine blk_drew ?_ | refine blk_alloc ?_ _)); refine blk_put (cs := #[.int .i64 0, .string (⟨#[]⟩ : ByteArray), .string (a0.extract 0 (x5_1 : Int).toNat), .string x250003_1, .bool x250004_1]) ?_ 3 _ rfl; (with_reducible repeat (first | refine blk_drewN ?_ _ | refine blk_drew ?_ | refine blk_alloc ?_ _)); refine blk_put (cs := #[.int .i64 0, .string (⟨#[]⟩ : ByteArray), .string x250002_1, .string x250003_1, .bool x250004_1]) ?_ 2 _ rfl; (with_reducible repeat (first | refine blk_drewN ?_ _ | refine blk_drew ?_ | refine blk_alloc ?_ _)); exact BK249.out⟩
          have n2_ : Aside0 (Below w.heap.size w (((w18.setCell ⟨gb249, 2, none⟩ (.string (a0.extract 0 (x5_1 : Int).toNat))).setCell ⟨gb249, 3, none⟩ (.string (a0.extract ((ji12) : Int).toNat a0.size))).setCell ⟨gb249, 4, none⟩ (.bool true))) := ⟨by repeat (first | (with_reducible first | exact HB.out | apply below_alloc | apply pw_below_drewN | apply below_drew1 | refine below_set ?_ GE248.out | refine below_set ?_ GE249.out) | exact HB.out)⟩
          (try clear BK248)
          (try clear BK249)
          (try clear HB)
          generalize (((w18.setCell ⟨gb249, 2, none⟩ (.string (a0.extract 0 (x5_1 : Int).toNat))).setCell ⟨gb249, 3, none⟩ (.string (a0.extract ((ji12) : Int).toNat a0.size))).setCell ⟨gb249, 4, none⟩ (.bool true)) = w22 at n0_ n1_ n2_ ⊢
          have BK248 := n0_
          have BK249 := n1_
          have HB := n2_
          clear n0_ n1_ n2_
          have n0_ := Aside0.mk (blk_drew BK248.out)
          have n1_ := Aside0.mk (blk_drew BK249.out)
          have n2_ := Aside0.mk (below_drew1 HB.out)
          clear BK248
          clear BK249
          clear HB
          have BK248 := n0_
          have BK249 := n1_
          have HB := n2_
          clear n0_ n1_ n2_
          refine start_ (n := 11) (S := fun w' => w'.cell? ⟨gb249, 0, none⟩ = some (.int .i64 0) ∧ w'.cell? ⟨gb249, 1, none⟩ = some (.string (⟨#[]⟩ : ByteArray)) ∧ w'.cell? ⟨gb249, 2, none⟩ = some (.string (a0.extract 0 (x5_1 : Int).toNat)) ∧ w'.cell? ⟨gb249, 3, none⟩ = some (.string (a0.extract ((ji12) : Int).toNat a0.size)) ∧ w'.cell? ⟨gb249, 4, none⟩ = some (.bool true)) (ds := []) #[false, false, false, false, false, false, false, false, false, false, false] (by kernel_rfl) rfl rfl ⟨(blk_cell BK249.out 0).trans rfl, (blk_cell BK249.out 1).trans rfl, (blk_cell BK249.out 2).trans rfl, (blk_cell BK249.out 3).trans rfl, (blk_cell BK249.out 4).trans rfl⟩ (fun hHeld => ?_); refine with_tabW parallaxref6_origin.tab7 parallaxref6_origin.bits7 (fun HT_ HW_ => ?_)
          generalize w22.drew = w23 at BK248 BK249 HB hHeld ⊢
          refine pure_ (i := 1) (N := some 29) (v := ?_) (a' := ?_) #[false, true, false, false, false, false, false, false, false, false, false] rfl rfl (any_of HT_.out (by kernel_rfl)) (fun _ _ _ h => h) (Or.inl ⟨by rfl, ?_⟩) ?_ ?_
          rotate_left
          ·intro w'
           go_simp
           with_reducible rfl
          rotate_left
          ·simp only [Act.put, List.setIfInBounds_toArray, List.set_cons_zero, List.set_cons_succ, i64_w, i32_w]
           rfl
          refine take_ (i := 0) (N := some 28) (v := ?_) (a' := ?_) #[true, true, false, false, false, false, false, false, false, false, false] rfl rfl (take_ofW HT_.out HW_.out (by kernel_rfl)) (fun _ _ _ h => h) (Or.inl ⟨by rfl, ?_⟩) hHeld ?_ ?_
          rotate_left
          ·rintro w' ⟨s0, s1, s2, s3, s4⟩
           go_simp
           with_reducible rfl
          rotate_left
          ·simp only [Act.put, List.setIfInBounds_toArray, List.set_cons_zero, List.set_cons_succ, i64_w, i32_w]
           rfl
          refine take_ (i := 2) (N := some 30) (v := ?_) (a' := ?_) #[true, true, true, false, false, false, false, false, false, false, false] rfl rfl (take_ofW HT_.out HW_.out (by kernel_rfl)) (fun _ _ _ h => h) (Or.inl ⟨by rfl, ?_⟩) hHeld ?_ ?_
          rotate_left
          ·rintro w' ⟨s0, s1, s2, s3, s4⟩
           go_simp
           with_reducible rfl
          rotate_left
          ·simp only [Act.put, List.setIfInBounds_toArray, List.set_cons_zero, List.set_cons_succ, i64_w, i32_w]
           rfl
          refine one_ (i := 3) (N := some 31) #[true, true, true, true, false, false, false, false, false, false, false] rfl rfl (one_of HT_.out (by kernel_rfl)) (by decide) (fun K hK => ?_)
          refine goes_ Try.func16 (by kernel_rfl) rfl #[.string (a0.extract 0 (x5_1 : Int).toNat)] (by rfl) rfl rfl (by (try simp only [List.map_toArray, List.map_cons, List.map_nil]); first | done | rfl | (simp only [List.length_drop, List.length_take]; rfl)) ?_
          with_reducible refine (parallaxref6_Path.calls k1 (a0.extract 0 (x5_1 : Int).toNat) true _ A15.out).mono ?_
          rintro e w' ⟨rfl, ⟨nd, rfl⟩⟩
          refine ⟨_, rfl, ?_⟩
          refine hK.out _ _ ⟨(blk_cell BK249.out 0).trans rfl, (blk_cell BK249.out 1).trans rfl, (blk_cell BK249.out 2).trans rfl, (blk_cell BK249.out 3).trans rfl, (blk_cell BK249.out 4).trans rfl⟩ (fun hHeld => ?_)
          clear hK K
          refine norm_ (a' := ?_) ?_ ?_
          rotate_left
          ·show Act.put _ (some 31) _ = _
           simp only [Act.put, List.setIfInBounds_toArray, List.set_cons_zero, List.set_cons_succ, i64_w, i32_w]
           rfl
          refine pure_ (i := 4) (N := some 32) (v := ?_) (a' := ?_) #[true, true, true, true, true, false, false, false, false, false, false] rfl rfl (any_of HT_.out (by kernel_rfl)) (fun _ _ _ h => h) (Or.inl ⟨by rfl, ?_⟩) ?_ ?_
          rotate_left
          ·intro w'
           go_simp
           with_reducible rfl
          rotate_left
          ·simp only [Act.put, List.setIfInBounds_toArray, List.set_cons_zero, List.set_cons_succ, i64_w, i32_w]
           rfl
          refine pure_ (i := 5) (N := some 33) (v := ?_) (a' := ?_) #[true, true, true, true, true, true, false, false, false, false, false] rfl rfl (any_of HT_.out (by kernel_rfl)) (fun _ _ _ h => h) (Or.inl ⟨by rfl, ?_⟩) ?_ ?_
          rotate_left
          ·intro w'
           go_simp
           with_reducible rfl
          rotate_left
          ·simp only [Act.put, List.setIfInBounds_toArray, List.set_cons_zero, List.set_cons_succ, i64_w, i32_w]
           rfl
          refine take_ (i := 6) (N := some 34) (v := ?_) (a' := ?_) #[true, true, true, true, true, true, true, false, false, false, false] rfl rfl (take_ofW HT_.out HW_.out (by kernel_rfl)) (fun _ _ _ h => h) (Or.inl ⟨by rfl, ?_⟩) hHeld ?_ ?_
          rotate_left
          ·rintro w' ⟨s0, s1, s2, s3, s4⟩
           go_simp
           with_reducible rfl
          rotate_left
          ·simp only [Act.put, List.setIfInBounds_toArray, List.set_cons_zero, List.set_cons_succ, i64_w, i32_w]
           rfl
          refine one_ (i := 7) (N := some 35) #[true, true, true, true, true, true, true, true, false, false, false] rfl rfl (one_of HT_.out (by kernel_rfl)) (by decide) (fun K hK => ?_)
          refine goes_ Try.func18 (by kernel_rfl) rfl #[.string (a0.extract ((ji12) : Int).toNat a0.size)] (by rfl) rfl rfl (by (try simp only [List.map_toArray, List.map_cons, List.map_nil]); first | done | (simp only [hji12]; rfl) | rfl | (simp only [List.length_drop, List.length_take]; rfl) | (simp only [ByteArray.size_extract, Nat.min_self]; rfl)) ?_
          with_reducible refine (parallaxref6_Query.calls k1 (a0.extract ((ji12) : Int).toNat a0.size) t251 _ A17.out).mono ?_
          rintro e w' ⟨rfl, ⟨nd, rfl⟩⟩
          refine ⟨_, rfl, ?_⟩
          refine hK.out _ _ ⟨(blk_cell BK249.out 0).trans rfl, (blk_cell BK249.out 1).trans rfl, (blk_cell BK249.out 2).trans rfl, (blk_cell BK249.out 3).trans rfl, (blk_cell BK249.out 4).trans rfl⟩ (fun hHeld => ?_)
          clear hK K
          refine norm_ (a' := ?_) ?_ ?_
          rotate_left
          ·show Act.put _ (some 35) _ = _
           simp only [Act.put, List.setIfInBounds_toArray, List.set_cons_zero, List.set_cons_succ, i64_w, i32_w]
           rfl
          refine pure_ (i := 8) (N := some 36) (v := ?_) (a' := ?_) #[true, true, true, true, true, true, true, true, true, false, false] rfl rfl (any_of HT_.out (by kernel_rfl)) (fun _ _ _ h => h) (Or.inl ⟨by rfl, ?_⟩) ?_ ?_
          rotate_left
          ·intro w'
           go_simp
           with_reducible rfl
          rotate_left
          ·simp only [Act.put, List.setIfInBounds_toArray, List.set_cons_zero, List.set_cons_succ, i64_w, i32_w]
           rfl
          refine one_ (i := 9) (N := none) #[true, true, true, true, true, true, true, true, true, true, false] rfl rfl (one_of HT_.out (by kernel_rfl)) (by decide) (fun K hK => ?_)
          have hs24 : w23.cell? ⟨gb248, 0, none⟩ = some (.int .i64 0) := (blk_cell BK248.out 0).trans rfl
          have hfs24 := blk_frozen BK248.out 0
          have hns24_1 := NB249_248.out
          have hms24_1 := NB248_249.out
          have hs25 : w23.cell? ⟨gb248, 1, none⟩ = some (.string (⟨#[]⟩ : ByteArray)) := (blk_cell BK248.out 1).trans rfl
          have hfs25 := blk_frozen BK248.out 1
          have hns25_1 := NB249_248.out
          have hms25_1 := NB248_249.out
          have hs26 : w23.cell? ⟨gb248, 2, none⟩ = some (.string (⟨#[]⟩ : ByteArray)) := (blk_cell BK248.out 2).trans rfl
          have hfs26 := blk_frozen BK248.out 2
          have hns26_1 := NB249_248.out
          have hms26_1 := NB248_249.out
          have hs27 : w23.cell? ⟨gb248, 3, none⟩ = some (.string (⟨#[]⟩ : ByteArray)) := (blk_cell BK248.out 3).trans rfl
          have hfs27 := blk_frozen BK248.out 3
          have hns27_1 := NB249_248.out
          have hms27_1 := NB248_249.out
          have hs28 : w23.cell? ⟨gb248, 4, none⟩ = some (.bool false) := (blk_cell BK248.out 4).trans rfl
          have hfs28 := blk_frozen BK248.out 4
          have hns28_1 := NB249_248.out
          have hms28_1 := NB248_249.out
          refine skip_ (w1 := ?_) (by rfl) rfl ?_ ?_
          rotate_left
          ·go_simp
           rfl
          refine hK.out _ _ ⟨((cell_far (p := ⟨gb248, _, none⟩) NB249_248.out _).trans (((cell_far (p := ⟨gb248, _, none⟩) NB249_248.out _).trans (((cell_far (p := ⟨gb248, _, none⟩) NB249_248.out _).trans (((cell_far (p := ⟨gb248, _, none⟩) NB249_248.out _).trans (((cell_far (p := ⟨gb248, _, none⟩) NB249_248.out _).trans (hHeld.1)))))))))), ((cell_far (p := ⟨gb248, _, none⟩) NB249_248.out _).trans (((cell_far (p := ⟨gb248, _, none⟩) NB249_248.out _).trans (((cell_far (p := ⟨gb248, _, none⟩) NB249_248.out _).trans (((cell_far (p := ⟨gb248, _, none⟩) NB249_248.out _).trans (((cell_far (p := ⟨gb248, _, none⟩) NB249_248.out _).trans (hHeld.2.1)))))))))), ((cell_far (p := ⟨gb248, _, none⟩) NB249_248.out _).trans (((cell_far (p := ⟨gb248, _, none⟩) NB249_248.out _).trans (((cell_far (p := ⟨gb248, _, none⟩) NB249_248.out _).trans (((cell_far (p := ⟨gb248, _, none⟩) NB249_248.out _).trans (((cell_far (p := ⟨gb248, _, none⟩) NB249_248.out _).trans (hHeld.2.2.1)))))))))), ((cell_far (p := ⟨gb248, _, none⟩) NB249_248.out _).trans (((cell_far (p := ⟨gb248, _, none⟩) NB249_248.out _).trans (((cell_far (p := ⟨gb248, _, none⟩) NB249_248.out _).trans (((cell_far (p := ⟨gb248, _, none⟩) NB249_248.out _).trans (((cell_far (p := ⟨gb248, _, none⟩) NB249_248.out _).trans (hHeld.2.2.2.1)))))))))), ((cell_far (p := ⟨gb248, _, none⟩) NB249_248.out _).trans (((cell_far (p := ⟨gb248, _, none⟩) NB249_248.out _).trans (((cell_far (p := ⟨gb248, _, none⟩) NB249_248.out _).trans (((cell_far (p := ⟨gb248, _, none⟩) NB249_248.out _).trans (((cell_far (p := ⟨gb248, _, none⟩) NB249_248.out _).trans (hHeld.2.2.2.2))))))))))⟩ (fun hHeld => ?_)
          clear hK K
          refine pure_ (i := 10) (N := some 3) (v := ?_) (a' := ?_) #[true, true, true, true, true, true, true, true, true, true, true] rfl rfl (any_of HT_.out (by kernel_rfl)) (fun _ _ _ h => h) (Or.inl ⟨by rfl, ?_⟩) ?_ ?_
          rotate_left
          ·intro w'
           go_simp
           with_reducible rfl
          rotate_left
          ·simp only [Act.put, List.setIfInBounds_toArray, List.set_cons_zero, List.set_cons_succ, i64_w, i32_w]
           rfl
          refine done_ (done_of HT_.out (by kernel_rfl)) ?_
          try go_wp2
          refine bodyPost_ret (results_ct rfl _ _ gb248 27 #[.int .i64 0, .string (⟨#[]⟩ : ByteArray), .string (a0.extract 0 (x5_1 : Int).toNat), .string (a0.extract ((ji12) : Int).toNat a0.size), .bool true] (0, 0) _ rfl (by (with_reducible repeat (first | refine blk_drewN ?_ _ | refine blk_drew ?_ | refine blk_alloc ?_ _)); refine blk_put (cs := #[.int .i64 0, .string (⟨#[]⟩ : ByteArray), .string (a0.extract 0 (x5_1 : Int).toNat), .string (a0.extract ((ji12) : Int).toNat a0.size), .bool false]) ?_ 4 _ rfl; (with_reducible repeat (first | refine blk_drewN ?_ _ | refine blk_drew ?_ | refine blk_alloc ?_ _)); refine blk_put (cs := #[.int .i64 0, .string (⟨#[]⟩ : ByteArray), .string (a0.extract 0 (x5_1 : Int).toNat), .string (⟨#[]⟩ : ByteArray), .bool false]) ?_ 3 _ rfl; (with_reducible repeat (first | refine blk_drewN ?_ _ | refine blk_drew ?_ | refine blk_alloc ?_ _)); refine blk_put (cs := #[.int .i64 0, .string (⟨#[]⟩ : ByteArray), .string (⟨#[]⟩ : ByteArray), .string (⟨#[]⟩ : ByteArray), .bool false]) ?_ 2 _ rfl; (with_reducible repeat (first | refine blk_drewN ?_ _ | refine blk_drew ?_ | refine blk_alloc ?_ _)); refine blk_put (cs := #[.int .i64 0, .string (⟨#[]⟩ : ByteArray), .string (⟨#[]⟩ : ByteArray), .string (⟨#[]⟩ : ByteArray), .bool false]) ?_ 1 _ rfl; (with_reducible repeat (first | refine blk_drewN ?_ _ | refine blk_drew ?_ | refine blk_alloc ?_ _)); refine blk_put (cs := #[.int .i64 0, .string (⟨#[]⟩ : ByteArray), .string (⟨#[]⟩ : ByteArray), .string (⟨#[]⟩ : ByteArray), .bool false]) ?_ 0 _ rfl; (with_reducible repeat (first | refine blk_drewN ?_ _ | refine blk_drew ?_ | refine blk_alloc ?_ _)); exact BK248.out) Try.underlying27 rfl (by kernel_rfl)) rfl ?_
          exact ⟨by first | rfl | (simp [errW_none, errW_some] <;> rfl) | (simp only [← hji12]; first | rfl | (simp [errW_none, errW_some] <;> rfl)) | (simp [*, errW_none, errW_some] <;> rfl), by repeat (first | (with_reducible first | exact HB.out | apply below_alloc | apply pw_below_drewN | apply below_drew1 | refine below_set ?_ GE248.out | refine below_set ?_ GE249.out) | exact HB.out)⟩
         ·replace c16 := Bool.eq_false_iff.mpr c16
          subst c16
          have H1 : (some (0, (⟨#[]⟩ : ByteArray), a0.extract 0 (x5_1 : Int).toNat, a0.extract ((ji12) : Int).toNat a0.size, true, false)) = some (r1, r2, r3, r4, r5, r6) := by rw [if_neg (show ¬ (false = true) by decide)] at H; exact H
          clear H
          have H := H1
          clear H1
          simp only [Option.some.injEq, Prod.mk.injEq] at H
          obtain ⟨rfl, rfl, rfl, rfl, rfl, rfl⟩ := H
          have p8 : 0 ≤ (x5_1 : Int) := of_decide_eq_true (by first | (with_reducible assumption) | assumption)
          have q8 : x5_1 < (a0.size : Int) := of_decide_eq_true (by first | (with_reducible assumption) | assumption)
          have hx8 := bt_at a0 x5_1
          replace p8 := eq_true p8
          replace q8 := eq_true q8
          try go_wp2
          have n0_ := Aside0.mk (blk_drew BK248.out)
          have n1_ := Aside0.mk (blk_drew BK249.out)
          have n2_ := Aside0.mk (below_drew1 HB.out)
          clear BK248
          clear BK249
          clear HB
          have BK248 := n0_
          have BK249 := n1_
          have HB := n2_
          clear n0_ n1_ n2_
          refine start_ (n := 13) (S := fun w' => True) (ds := []) #[false, false, false, false, false, false, false, false, false, false, false, false, false] (by kernel_rfl) rfl rfl trivial (fun hHeld => ?_); refine with_tabW parallaxref6_origin.tab6 parallaxref6_origin.bits6 (fun HT_ HW_ => ?_)
          generalize wr.drew = w29 at BK248 BK249 HB hHeld ⊢
          refine pure_ (i := 0) (N := some 18) (v := ?_) (a' := ?_) #[true, false, false, false, false, false, false, false, false, false, false, false, false] rfl rfl (any_of HT_.out (by kernel_rfl)) (fun _ _ _ h => h) (Or.inl ⟨by rfl, ?_⟩) ?_ ?_
          rotate_left
          ·intro w'
           go_simp
           with_reducible rfl
          rotate_left
          ·simp only [Act.put, List.setIfInBounds_toArray, List.set_cons_zero, List.set_cons_succ, i64_w, i32_w]
           rfl
          refine pure_ (i := 1) (N := some 19) (v := ?_) (a' := ?_) #[true, true, false, false, false, false, false, false, false, false, false, false, false] rfl rfl (any_of HT_.out (by kernel_rfl)) (fun _ _ _ h => h) (Or.inl ⟨by rfl, ?_⟩) ?_ ?_
          rotate_left
          ·intro w'
           go_simp
           with_reducible rfl
          rotate_left
          ·simp only [Act.put, List.setIfInBounds_toArray, List.set_cons_zero, List.set_cons_succ, i64_w, i32_w]
           rfl
          refine pure_ (i := 2) (N := some 20) (v := ?_) (a' := ?_) #[true, true, true, false, false, false, false, false, false, false, false, false, false] rfl rfl (any_of HT_.out (by kernel_rfl)) (fun _ _ _ h => h) (Or.inl ⟨by rfl, ?_⟩) ?_ ?_
          rotate_left
          ·intro w'
           go_simp
           with_reducible rfl
          rotate_left
          ·simp only [Act.put, List.setIfInBounds_toArray, List.set_cons_zero, List.set_cons_succ, i64_w, i32_w]
           rfl
          refine pure_ (i := 3) (N := some 21) (v := ?_) (a' := ?_) #[true, true, true, true, false, false, false, false, false, false, false, false, false] rfl rfl (any_of HT_.out (by kernel_rfl)) (fun _ _ _ h => h) (Or.inl ⟨by rfl, ?_⟩) ?_ ?_
          rotate_left
          ·intro w'
           go_simp
           with_reducible rfl
          rotate_left
          ·simp only [Act.put, List.setIfInBounds_toArray, List.set_cons_zero, List.set_cons_succ, i64_w, i32_w]
           rfl
          refine pure_ (i := 4) (N := some 22) (v := ?_) (a' := ?_) #[true, true, true, true, true, false, false, false, false, false, false, false, false] rfl rfl (any_of HT_.out (by kernel_rfl)) (fun _ _ _ h => h) (Or.inl ⟨by rfl, ?_⟩) ?_ ?_
          rotate_left
          ·intro w'
           go_simp
           with_reducible rfl
          rotate_left
          ·simp only [Act.put, List.setIfInBounds_toArray, List.set_cons_zero, List.set_cons_succ, i64_w, i32_w]
           rfl
          refine pure_ (i := 5) (N := some 23) (v := ?_) (a' := ?_) #[true, true, true, true, true, true, false, false, false, false, false, false, false] rfl rfl (any_of HT_.out (by kernel_rfl)) (fun _ _ _ h => h) (Or.inl ⟨by rfl, ?_⟩) ?_ ?_
          rotate_left
          ·intro w'
           go_simp
           with_reducible rfl
          rotate_left
          ·simp only [Act.put, List.setIfInBounds_toArray, List.set_cons_zero, List.set_cons_succ, i64_w, i32_w]
           rfl
          refine pure_ (i := 6) (N := some 24) (v := ?_) (a' := ?_) #[true, true, true, true, true, true, true, false, false, false, false, false, false] rfl rfl (any_of HT_.out (by kernel_rfl)) (fun _ _ _ h => h) (Or.inl ⟨by rfl, ?_⟩) ?_ ?_
          rotate_left
          ·intro w'
           go_simp
           with_reducible rfl
          rotate_left
          ·simp only [Act.put, List.setIfInBounds_toArray, List.set_cons_zero, List.set_cons_succ, i64_w, i32_w]
           rfl
          refine pure_ (i := 7) (N := some 25) (v := ?_) (a' := ?_) #[true, true, true, true, true, true, true, true, false, false, false, false, false] rfl rfl (any_of HT_.out (by kernel_rfl)) (fun _ _ _ h => h) (Or.inl ⟨by rfl, ?_⟩) ?_ ?_
          rotate_left
          ·intro w'
           go_simp
           with_reducible rfl
          rotate_left
          ·simp only [Act.put, List.setIfInBounds_toArray, List.set_cons_zero, List.set_cons_succ, i64_w, i32_w]
           rfl
          refine one_ (i := 8) (N := none) #[true, true, true, true, true, true, true, true, true, false, false, false, false] rfl rfl (one_of HT_.out (by kernel_rfl)) (by decide) (fun K hK => ?_)
          have hs30 : w29.cell? ⟨gb249, 2, none⟩ = some (.string x250002_1) := (blk_cell BK249.out 2).trans rfl
          have hfs30 := blk_frozen BK249.out 2
          have hns30_0 := NB248_249.out
          have hms30_0 := NB249_248.out
          refine skip_ (w1 := ?_) (by rfl) rfl ?_ ?_
          rotate_left
          ·go_simp
           rfl
          refine hK.out _ _ trivial (fun hHeld => ?_)
          clear hK K
          refine pure_ (i := 9) (N := some 26) (v := ?_) (a' := ?_) #[true, true, true, true, true, true, true, true, true, true, false, false, false] rfl rfl (any_of HT_.out (by kernel_rfl)) (fun _ _ _ h => h) (Or.inl ⟨by rfl, ?_⟩) ?_ ?_
          rotate_left
          ·intro w'
           go_simp
           with_reducible rfl
          rotate_left
          ·simp only [Act.put, List.setIfInBounds_toArray, List.set_cons_zero, List.set_cons_succ, i64_w, i32_w]
           rfl
          refine one_ (i := 10) (N := none) #[true, true, true, true, true, true, true, true, true, true, true, false, false] rfl rfl (one_of HT_.out (by kernel_rfl)) (by decide) (fun K hK => ?_)
          have hs31 : w29.cell? ⟨gb249, 3, none⟩ = some (.string x250003_1) := (blk_cell BK249.out 3).trans rfl
          have hfs31 := blk_frozen BK249.out 3
          have hns31_0 := NB248_249.out
          have hms31_0 := NB249_248.out
          refine skip_ (w1 := ?_) (by rfl) rfl ?_ ?_
          rotate_left
          ·go_simp
           rfl
          refine hK.out _ _ trivial (fun hHeld => ?_)
          clear hK K
          refine pure_ (i := 11) (N := some 27) (v := ?_) (a' := ?_) #[true, true, true, true, true, true, true, true, true, true, true, true, false] rfl rfl (any_of HT_.out (by kernel_rfl)) (fun _ _ _ h => h) (Or.inl ⟨by rfl, ?_⟩) ?_ ?_
          rotate_left
          ·intro w'
           go_simp
           with_reducible rfl
          rotate_left
          ·simp only [Act.put, List.setIfInBounds_toArray, List.set_cons_zero, List.set_cons_succ, i64_w, i32_w]
           rfl
          refine one_ (i := 12) (N := none) #[true, true, true, true, true, true, true, true, true, true, true, true, true] rfl rfl (one_of HT_.out (by kernel_rfl)) (by decide) (fun K hK => ?_)
          have hs32 : w29.cell? ⟨gb249, 4, none⟩ = some (.bool x250004_1) := (blk_cell BK249.out 4).trans rfl
          have hfs32 := blk_frozen BK249.out 4
          have hns32_0 := NB248_249.out
          have hms32_0 := NB249_248.out
          refine skip_ (w1 := ?_) (by rfl) rfl ?_ ?_
          rotate_left
          ·go_simp
           rfl
          refine hK.out _ _ trivial (fun hHeld => ?_)
          clear hK K
          refine done_ (done_of HT_.out (by kernel_rfl)) ?_
          try go_wp2
          have n0_ : Aside0 ((((w29.setCell ⟨gb249, 2, none⟩ (.string (a0.extract 0 (x5_1 : Int).toNat))).setCell ⟨gb249, 3, none⟩ (.string (a0.extract ((ji12) : Int).toNat a0.size))).setCell ⟨gb249, 4, none⟩ (.bool true)).heap[gb248]? = some (.cells #[.int .i64 0, .string (⟨#[]⟩ : ByteArray), .string (⟨#[]⟩ : ByteArray), .string (⟨#[]⟩ : ByteArray), .bool false] 27 (0, 0))) := ⟨by (repeat ((with_reducible repeat (first | refine blk_drewN ?_ _ | refine blk_drew ?_ | refine blk_alloc ?_ _)); refine blk_far ?_ NB248_249.out _)); (with_reducible repeat (first | refine blk_drewN ?_ _ | refine blk_drew ?_ | refine blk_alloc ?_ _)); exact BK248.out⟩
          have n1_ : Aside0 ((((w29.setCell ⟨gb249, 2, none⟩ (.string (a0.extract 0 (x5_1 : Int).toNat))).setCell ⟨gb249, 3, none⟩ (.string (a0.extract ((ji12) : Int).toNat a0.size))).setCell ⟨gb249, 4, none⟩ (.bool true)).heap[gb249]? = some (.cells #[.int .i64 0, .string (⟨#[]⟩ : ByteArray), .string (a0.extract 0 (x5_1 : Int).toNat), .string (a0.extract ((ji12) : Int).toNat a0.size), .bool true] 27 (0, 0))) := ⟨by (with_reducible repeat (first | refine blk_drewN ?_ _ | refine blk_drew ?_ | refine blk_alloc ?_ _)); refine blk_put (cs := #[.int .i64 0, .string (⟨#[]⟩ : ByteArray), .string (a0.extract 0 (x5_1 : Int).toNat), .string (a0.extract ((ji12) : Int).toNat a0.size), .bool x250004_1]) ?_ 4 _ rfl; (with_reducible repeat (first | refine blk_drewN ?_ _ | refine blk_drew ?_ | refine blk_alloc ?_ _)); refine blk_put (cs := #[.int .i64 0, .string (⟨#[]⟩ : ByteArray), .string (a0.extract 0 (x5_1 : Int).toNat), .string x250003_1, .bool x250004_1]) ?_ 3 _ rfl; (with_reducible repeat (first | refine blk_drewN ?_ _ | refine blk_drew ?_ | refine blk_alloc ?_ _)); refine blk_put (cs := #[.int .i64 0, .string (⟨#[]⟩ : ByteArray), .string x250002_1, .string x250003_1, .bool x250004_1]) ?_ 2 _ rfl; (with_reducible repeat (first | refine blk_drewN ?_ _ | refine blk_drew ?_ | refine blk_alloc ?_ _)); exact BK249.out⟩
          have n2_ : Aside0 (Below w.heap.size w (((w29.setCell ⟨gb249, 2, none⟩ (.string (a0.extract 0 (x5_1 : Int).toNat))).setCell ⟨gb249, 3, none⟩ (.string (a0.extract ((ji12) : Int).toNat a0.size))).setCell ⟨gb249, 4, none⟩ (.bool true))) := ⟨by repeat (first | (with_reducible first | exact HB.out | apply below_alloc | apply pw_below_drewN | apply below_drew1 | refine below_set ?_ GE248.out | refine below_set ?_ GE249.out) | exact HB.out)⟩
          (try clear BK248)
          (try clear BK249)
          (try clear HB)
          generalize (((w29.setCell ⟨gb249, 2, none⟩ (.string (a0.extract 0 (x5_1 : Int).toNat))).setCell ⟨gb249, 3, none⟩ (.string (a0.extract ((ji12) : Int).toNat a0.size))).setCell ⟨gb249, 4, none⟩ (.bool true)) = w33 at n0_ n1_ n2_ ⊢
          have BK248 := n0_
          have BK249 := n1_
          have HB := n2_
          clear n0_ n1_ n2_
          have n0_ := Aside0.mk (blk_drew BK248.out)
          have n1_ := Aside0.mk (blk_drew BK249.out)
          have n2_ := Aside0.mk (below_drew1 HB.out)
          clear BK248
          clear BK249
          clear HB
          have BK248 := n0_
          have BK249 := n1_
          have HB := n2_
          clear n0_ n1_ n2_
          refine start_ (n := 11) (S := fun w' => w'.cell? ⟨gb249, 0, none⟩ = some (.int .i64 0) ∧ w'.cell? ⟨gb249, 1, none⟩ = some (.string (⟨#[]⟩ : ByteArray)) ∧ w'.cell? ⟨gb249, 2, none⟩ = some (.string (a0.extract 0 (x5_1 : Int).toNat)) ∧ w'.cell? ⟨gb249, 3, none⟩ = some (.string (a0.extract ((ji12) : Int).toNat a0.size)) ∧ w'.cell? ⟨gb249, 4, none⟩ = some (.bool true)) (ds := []) #[false, false, false, false, false, false, false, false, false, false, false] (by kernel_rfl) rfl rfl ⟨(blk_cell BK249.out 0).trans rfl, (blk_cell BK249.out 1).trans rfl, (blk_cell BK249.out 2).trans rfl, (blk_cell BK249.out 3).trans rfl, (blk_cell BK249.out 4).trans rfl⟩ (fun hHeld => ?_); refine with_tabW parallaxref6_origin.tab7 parallaxref6_origin.bits7 (fun HT_ HW_ => ?_)
          generalize w33.drew = w34 at BK248 BK249 HB hHeld ⊢
          refine pure_ (i := 1) (N := some 29) (v := ?_) (a' := ?_) #[false, true, false, false, false, false, false, false, false, false, false] rfl rfl (any_of HT_.out (by kernel_rfl)) (fun _ _ _ h => h) (Or.inl ⟨by rfl, ?_⟩) ?_ ?_
          rotate_left
          ·intro w'
           go_simp
           with_reducible rfl
          rotate_left
          ·simp only [Act.put, List.setIfInBounds_toArray, List.set_cons_zero, List.set_cons_succ, i64_w, i32_w]
           rfl
          refine take_ (i := 0) (N := some 28) (v := ?_) (a' := ?_) #[true, true, false, false, false, false, false, false, false, false, false] rfl rfl (take_ofW HT_.out HW_.out (by kernel_rfl)) (fun _ _ _ h => h) (Or.inl ⟨by rfl, ?_⟩) hHeld ?_ ?_
          rotate_left
          ·rintro w' ⟨s0, s1, s2, s3, s4⟩
           go_simp
           with_reducible rfl
          rotate_left
          ·simp only [Act.put, List.setIfInBounds_toArray, List.set_cons_zero, List.set_cons_succ, i64_w, i32_w]
           rfl
          refine take_ (i := 2) (N := some 30) (v := ?_) (a' := ?_) #[true, true, true, false, false, false, false, false, false, false, false] rfl rfl (take_ofW HT_.out HW_.out (by kernel_rfl)) (fun _ _ _ h => h) (Or.inl ⟨by rfl, ?_⟩) hHeld ?_ ?_
          rotate_left
          ·rintro w' ⟨s0, s1, s2, s3, s4⟩
           go_simp
           with_reducible rfl
          rotate_left
          ·simp only [Act.put, List.setIfInBounds_toArray, List.set_cons_zero, List.set_cons_succ, i64_w, i32_w]
           rfl
          refine one_ (i := 3) (N := some 31) #[true, true, true, true, false, false, false, false, false, false, false] rfl rfl (one_of HT_.out (by kernel_rfl)) (by decide) (fun K hK => ?_)
          refine goes_ Try.func16 (by kernel_rfl) rfl #[.string (a0.extract 0 (x5_1 : Int).toNat)] (by rfl) rfl rfl (by (try simp only [List.map_toArray, List.map_cons, List.map_nil]); first | done | rfl | (simp only [List.length_drop, List.length_take]; rfl)) ?_
          with_reducible refine (parallaxref6_Path.calls k1 (a0.extract 0 (x5_1 : Int).toNat) false _ A15.out).mono ?_
          rintro e w' ⟨rfl, ⟨nd, rfl⟩⟩
          refine ⟨_, rfl, ?_⟩
          refine hK.out _ _ ⟨(blk_cell BK249.out 0).trans rfl, (blk_cell BK249.out 1).trans rfl, (blk_cell BK249.out 2).trans rfl, (blk_cell BK249.out 3).trans rfl, (blk_cell BK249.out 4).trans rfl⟩ (fun hHeld => ?_)
          clear hK K
          refine norm_ (a' := ?_) ?_ ?_
          rotate_left
          ·show Act.put _ (some 31) _ = _
           simp only [Act.put, List.setIfInBounds_toArray, List.set_cons_zero, List.set_cons_succ, i64_w, i32_w]
           rfl
          refine pure_ (i := 4) (N := some 32) (v := ?_) (a' := ?_) #[true, true, true, true, true, false, false, false, false, false, false] rfl rfl (any_of HT_.out (by kernel_rfl)) (fun _ _ _ h => h) (Or.inl ⟨by rfl, ?_⟩) ?_ ?_
          rotate_left
          ·intro w'
           go_simp
           with_reducible rfl
          rotate_left
          ·simp only [Act.put, List.setIfInBounds_toArray, List.set_cons_zero, List.set_cons_succ, i64_w, i32_w]
           rfl
          refine pure_ (i := 5) (N := some 33) (v := undef) (a' := ?_) #[true, true, true, true, true, true, false, false, false, false, false] rfl rfl (any_of HT_.out (by kernel_rfl)) (fun _ _ _ h => h) (Or.inr ⟨by rfl, rfl⟩) ?_ ?_
          rotate_left
          ·simp only [Act.put, List.setIfInBounds_toArray, List.set_cons_zero, List.set_cons_succ, i64_w, i32_w]
           rfl
          refine pure_ (i := 6) (N := some 34) (v := undef) (a' := ?_) #[true, true, true, true, true, true, true, false, false, false, false] rfl rfl (any_of HT_.out (by kernel_rfl)) (fun _ _ _ h => h) (Or.inr ⟨by rfl, rfl⟩) ?_ ?_
          rotate_left
          ·simp only [Act.put, List.setIfInBounds_toArray, List.set_cons_zero, List.set_cons_succ, i64_w, i32_w]
           rfl
          refine pure_ (i := 7) (N := some 35) (v := undef) (a' := ?_) #[true, true, true, true, true, true, true, true, false, false, false] rfl rfl (any_of HT_.out (by kernel_rfl)) (fun _ _ _ h => h) (Or.inr ⟨by rfl, rfl⟩) ?_ ?_
          rotate_left
          ·simp only [Act.put, List.setIfInBounds_toArray, List.set_cons_zero, List.set_cons_succ, i64_w, i32_w]
           rfl
          refine pure_ (i := 8) (N := some 36) (v := ?_) (a' := ?_) #[true, true, true, true, true, true, true, true, true, false, false] rfl rfl (any_of HT_.out (by kernel_rfl)) (fun _ _ _ h => h) (Or.inl ⟨by rfl, ?_⟩) ?_ ?_
          rotate_left
          ·intro w'
           go_simp
           with_reducible rfl
          rotate_left
          ·simp only [Act.put, List.setIfInBounds_toArray, List.set_cons_zero, List.set_cons_succ, i64_w, i32_w]
           rfl
          refine one_ (i := 9) (N := none) #[true, true, true, true, true, true, true, true, true, true, false] rfl rfl (one_of HT_.out (by kernel_rfl)) (by decide) (fun K hK => ?_)
          have hs35 : w34.cell? ⟨gb248, 0, none⟩ = some (.int .i64 0) := (blk_cell BK248.out 0).trans rfl
          have hfs35 := blk_frozen BK248.out 0
          have hns35_1 := NB249_248.out
          have hms35_1 := NB248_249.out
          have hs36 : w34.cell? ⟨gb248, 1, none⟩ = some (.string (⟨#[]⟩ : ByteArray)) := (blk_cell BK248.out 1).trans rfl
          have hfs36 := blk_frozen BK248.out 1
          have hns36_1 := NB249_248.out
          have hms36_1 := NB248_249.out
          have hs37 : w34.cell? ⟨gb248, 2, none⟩ = some (.string (⟨#[]⟩ : ByteArray)) := (blk_cell BK248.out 2).trans rfl
          have hfs37 := blk_frozen BK248.out 2
          have hns37_1 := NB249_248.out
          have hms37_1 := NB248_249.out
          have hs38 : w34.cell? ⟨gb248, 3, none⟩ = some (.string (⟨#[]⟩ : ByteArray)) := (blk_cell BK248.out 3).trans rfl
          have hfs38 := blk_frozen BK248.out 3
          have hns38_1 := NB249_248.out
          have hms38_1 := NB248_249.out
          have hs39 : w34.cell? ⟨gb248, 4, none⟩ = some (.bool false) := (blk_cell BK248.out 4).trans rfl
          have hfs39 := blk_frozen BK248.out 4
          have hns39_1 := NB249_248.out
          have hms39_1 := NB248_249.out
          refine skip_ (w1 := ?_) (by rfl) rfl ?_ ?_
          rotate_left
          ·go_simp
           rfl
          refine hK.out _ _ ⟨((cell_far (p := ⟨gb248, _, none⟩) NB249_248.out _).trans (((cell_far (p := ⟨gb248, _, none⟩) NB249_248.out _).trans (((cell_far (p := ⟨gb248, _, none⟩) NB249_248.out _).trans (((cell_far (p := ⟨gb248, _, none⟩) NB249_248.out _).trans (((cell_far (p := ⟨gb248, _, none⟩) NB249_248.out _).trans (hHeld.1)))))))))), ((cell_far (p := ⟨gb248, _, none⟩) NB249_248.out _).trans (((cell_far (p := ⟨gb248, _, none⟩) NB249_248.out _).trans (((cell_far (p := ⟨gb248, _, none⟩) NB249_248.out _).trans (((cell_far (p := ⟨gb248, _, none⟩) NB249_248.out _).trans (((cell_far (p := ⟨gb248, _, none⟩) NB249_248.out _).trans (hHeld.2.1)))))))))), ((cell_far (p := ⟨gb248, _, none⟩) NB249_248.out _).trans (((cell_far (p := ⟨gb248, _, none⟩) NB249_248.out _).trans (((cell_far (p := ⟨gb248, _, none⟩) NB249_248.out _).trans (((cell_far (p := ⟨gb248, _, none⟩) NB249_248.out _).trans (((cell_far (p := ⟨gb248, _, none⟩) NB249_248.out _).trans (hHeld.2.2.1)))))))))), ((cell_far (p := ⟨gb248, _, none⟩) NB249_248.out _).trans (((cell_far (p := ⟨gb248, _, none⟩) NB249_248.out _).trans (((cell_far (p := ⟨gb248, _, none⟩) NB249_248.out _).trans (((cell_far (p := ⟨gb248, _, none⟩) NB249_248.out _).trans (((cell_far (p := ⟨gb248, _, none⟩) NB249_248.out _).trans (hHeld.2.2.2.1)))))))))), ((cell_far (p := ⟨gb248, _, none⟩) NB249_248.out _).trans (((cell_far (p := ⟨gb248, _, none⟩) NB249_248.out _).trans (((cell_far (p := ⟨gb248, _, none⟩) NB249_248.out _).trans (((cell_far (p := ⟨gb248, _, none⟩) NB249_248.out _).trans (((cell_far (p := ⟨gb248, _, none⟩) NB249_248.out _).trans (hHeld.2.2.2.2))))))))))⟩ (fun hHeld => ?_)
          clear hK K
          refine pure_ (i := 10) (N := some 3) (v := ?_) (a' := ?_) #[true, true, true, true, true, true, true, true, true, true, true] rfl rfl (any_of HT_.out (by kernel_rfl)) (fun _ _ _ h => h) (Or.inl ⟨by rfl, ?_⟩) ?_ ?_
          rotate_left
          ·intro w'
           go_simp
           with_reducible rfl
          rotate_left
          ·simp only [Act.put, List.setIfInBounds_toArray, List.set_cons_zero, List.set_cons_succ, i64_w, i32_w]
           rfl
          refine done_ (done_of HT_.out (by kernel_rfl)) ?_
          try go_wp2
          refine bodyPost_ret (results_ct rfl _ _ gb248 27 #[.int .i64 0, .string (⟨#[]⟩ : ByteArray), .string (a0.extract 0 (x5_1 : Int).toNat), .string (a0.extract ((ji12) : Int).toNat a0.size), .bool true] (0, 0) _ rfl (by (with_reducible repeat (first | refine blk_drewN ?_ _ | refine blk_drew ?_ | refine blk_alloc ?_ _)); refine blk_put (cs := #[.int .i64 0, .string (⟨#[]⟩ : ByteArray), .string (a0.extract 0 (x5_1 : Int).toNat), .string (a0.extract ((ji12) : Int).toNat a0.size), .bool false]) ?_ 4 _ rfl; (with_reducible repeat (first | refine blk_drewN ?_ _ | refine blk_drew ?_ | refine blk_alloc ?_ _)); refine blk_put (cs := #[.int .i64 0, .string (⟨#[]⟩ : ByteArray), .string (a0.extract 0 (x5_1 : Int).toNat), .string (⟨#[]⟩ : ByteArray), .bool false]) ?_ 3 _ rfl; (with_reducible repeat (first | refine blk_drewN ?_ _ | refine blk_drew ?_ | refine blk_alloc ?_ _)); refine blk_put (cs := #[.int .i64 0, .string (⟨#[]⟩ : ByteArray), .string (⟨#[]⟩ : ByteArray), .string (⟨#[]⟩ : ByteArray), .bool false]) ?_ 2 _ rfl; (with_reducible repeat (first | refine blk_drewN ?_ _ | refine blk_drew ?_ | refine blk_alloc ?_ _)); refine blk_put (cs := #[.int .i64 0, .string (⟨#[]⟩ : ByteArray), .string (⟨#[]⟩ : ByteArray), .string (⟨#[]⟩ : ByteArray), .bool false]) ?_ 1 _ rfl; (with_reducible repeat (first | refine blk_drewN ?_ _ | refine blk_drew ?_ | refine blk_alloc ?_ _)); refine blk_put (cs := #[.int .i64 0, .string (⟨#[]⟩ : ByteArray), .string (⟨#[]⟩ : ByteArray), .string (⟨#[]⟩ : ByteArray), .bool false]) ?_ 0 _ rfl; (with_reducible repeat (first | refine blk_drewN ?_ _ | refine blk_drew ?_ | refine blk_alloc ?_ _)); exact BK248.out) Try.underlying27 rfl (by kernel_rfl)) rfl ?_
          exact ⟨by first | rfl | (simp [errW_none, errW_some] <;> rfl) | (simp only [← hji12]; first | rfl | (simp [errW_none, errW_some] <;> rfl)) | (simp [*, errW_none, errW_some] <;> rfl), by repeat (first | (with_reducible first | exact HB.out | apply below_alloc | apply pw_below_drewN | apply below_drew1 | refine below_set ?_ GE248.out | refine below_set ?_ GE249.out) | exact HB.out)⟩
        ·rw [if_neg c14] at H
         exact absurd H (by simp)
       ·rw [if_neg c13] at H
        exact absurd H (by simp)
      ·rw [if_neg c11] at H
       exact absurd H (by simp)
     ·rw [if_neg c9] at H
      have c9b0 : ((bt a0 x5_1) == 63) = false := beq_eq_false_iff_ne.mpr c9
      have c9b1 : ((bt a0 x5_1) != 63) = true := bne_iff_ne.mpr c9
      have H' := Aside0.mk H
      clear H
      have p8 : 0 ≤ (x5_1 : Int) := of_decide_eq_true (by first | (with_reducible assumption) | assumption)
      have q8 : x5_1 < (a0.size : Int) := of_decide_eq_true (by first | (with_reducible assumption) | assumption)
      have hx8 := bt_at a0 x5_1
      replace p8 := eq_true p8
      replace q8 := eq_true q8
      go_wp2
      go_roundg k1
      case measure => have := HK1.out; omega
      case rel => exact ⟨(wrap64 (x5_1 + 1)), (x250002_1), (x250003_1), (x250004_1), (by first | rfl | (simp; done) | (simp [*]; done)), H', ⟨by have := HK1.out; omega⟩, ⟨by (with_reducible repeat (first | refine blk_drewN ?_ _ | refine blk_drew ?_ | refine blk_alloc ?_ _)); exact BK248.out⟩, ⟨by (with_reducible repeat (first | refine blk_drewN ?_ _ | refine blk_drew ?_ | refine blk_alloc ?_ _)); exact BK249.out⟩, ⟨by repeat (first | (with_reducible first | exact HB.out | apply below_alloc | apply pw_below_drewN | apply below_drew1 | refine below_set ?_ GE248.out | refine below_set ?_ GE249.out) | exact HB.out)⟩⟩
    ·rw [if_neg c7] at H
     exact absurd H (by simp)
   ·rw [if_neg c6] at H
    have c6b0 : decide (x5_1 < (a0.size : Int)) = false := decide_eq_false c6
    clear c6
    replace H := Option.bind_eq_some_iff.mp H
    obtain ⟨t252, A400, H⟩ := H
    replace H : (if t252 = true then ((parallaxref6_Query.f k1 x250003_1).bind fun t253 => (some (0, (⟨#[]⟩ : ByteArray), x250002_1, x250003_1, x250004_1, t253))) else (some (0, (⟨#[]⟩ : ByteArray), x250002_1, x250003_1, x250004_1, false))) = some (r1, r2, r3, r4, r5, r6) := H
    have A40 := Aside0.mk A400
    clear A400
    by_cases c41 : t252 = true
    ·subst c41
     have H1 : ((parallaxref6_Query.f k1 x250003_1).bind fun t253 => (some (0, (⟨#[]⟩ : ByteArray), x250002_1, x250003_1, x250004_1, t253))) = some (r1, r2, r3, r4, r5, r6) := by rw [if_pos rfl] at H; exact H
     clear H
     have H := H1
     clear H1
     replace H := Option.bind_eq_some_iff.mp H
     obtain ⟨t253, A420, H⟩ := H
     replace H : (some (0, (⟨#[]⟩ : ByteArray), x250002_1, x250003_1, x250004_1, t253)) = some (r1, r2, r3, r4, r5, r6) := H
     have A42 := Aside0.mk A420
     clear A420
     simp only [Option.some.injEq, Prod.mk.injEq] at H
     obtain ⟨rfl, rfl, rfl, rfl, rfl, rfl⟩ := H
     try go_wp2
     have n0_ := Aside0.mk (blk_drew BK248.out)
     have n1_ := Aside0.mk (blk_drew BK249.out)
     have n2_ := Aside0.mk (below_drew1 HB.out)
     clear BK248
     clear BK249
     clear HB
     have BK248 := n0_
     have BK249 := n1_
     have HB := n2_
     clear n0_ n1_ n2_
     refine start_ (n := 11) (S := fun w' => w'.cell? ⟨gb249, 0, none⟩ = some (.int .i64 0) ∧ w'.cell? ⟨gb249, 1, none⟩ = some (.string (⟨#[]⟩ : ByteArray)) ∧ w'.cell? ⟨gb249, 2, none⟩ = some (.string x250002_1) ∧ w'.cell? ⟨gb249, 3, none⟩ = some (.string x250003_1) ∧ w'.cell? ⟨gb249, 4, none⟩ = some (.bool x250004_1)) (ds := []) #[false, false, false, false, false, false, false, false, false, false, false] (by kernel_rfl) rfl rfl ⟨(blk_cell BK249.out 0).trans rfl, (blk_cell BK249.out 1).trans rfl, (blk_cell BK249.out 2).trans rfl, (blk_cell BK249.out 3).trans rfl, (blk_cell BK249.out 4).trans rfl⟩ (fun hHeld => ?_); refine with_tabW parallaxref6_origin.tab7 parallaxref6_origin.bits7 (fun HT_ HW_ => ?_)
     generalize wr.drew = w43 at BK248 BK249 HB hHeld ⊢
     refine pure_ (i := 1) (N := some 29) (v := ?_) (a' := ?_) #[false, true, false, false, false, false, false, false, false, false, false] rfl rfl (any_of HT_.out (by kernel_rfl)) (fun _ _ _ h => h) (Or.inl ⟨by rfl, ?_⟩) ?_ ?_
     rotate_left
     ·intro w'
      go_simp
      with_reducible rfl
     rotate_left
     ·simp only [Act.put, List.setIfInBounds_toArray, List.set_cons_zero, List.set_cons_succ, i64_w, i32_w]
      rfl
     refine take_ (i := 0) (N := some 28) (v := ?_) (a' := ?_) #[true, true, false, false, false, false, false, false, false, false, false] rfl rfl (take_ofW HT_.out HW_.out (by kernel_rfl)) (fun _ _ _ h => h) (Or.inl ⟨by rfl, ?_⟩) hHeld ?_ ?_
     rotate_left
     ·rintro w' ⟨s0, s1, s2, s3, s4⟩
      go_simp
      with_reducible rfl
     rotate_left
     ·simp only [Act.put, List.setIfInBounds_toArray, List.set_cons_zero, List.set_cons_succ, i64_w, i32_w]
      rfl
     refine take_ (i := 2) (N := some 30) (v := ?_) (a' := ?_) #[true, true, true, false, false, false, false, false, false, false, false] rfl rfl (take_ofW HT_.out HW_.out (by kernel_rfl)) (fun _ _ _ h => h) (Or.inl ⟨by rfl, ?_⟩) hHeld ?_ ?_
     rotate_left
     ·rintro w' ⟨s0, s1, s2, s3, s4⟩
      go_simp
      with_reducible rfl
     rotate_left
     ·simp only [Act.put, List.setIfInBounds_toArray, List.set_cons_zero, List.set_cons_succ, i64_w, i32_w]
      rfl
     refine one_ (i := 3) (N := some 31) #[true, true, true, true, false, false, false, false, false, false, false] rfl rfl (one_of HT_.out (by kernel_rfl)) (by decide) (fun K hK => ?_)
     refine goes_ Try.func16 (by kernel_rfl) rfl #[.string x250002_1] (by rfl) rfl rfl (by (try simp only [List.map_toArray, List.map_cons, List.map_nil]); first | done | rfl | (simp only [List.length_drop, List.length_take]; rfl)) ?_
     with_reducible refine (parallaxref6_Path.calls k1 x250002_1 true _ A40.out).mono ?_
     rintro e w' ⟨rfl, ⟨nd, rfl⟩⟩
     refine ⟨_, rfl, ?_⟩
     refine hK.out _ _ ⟨(blk_cell BK249.out 0).trans rfl, (blk_cell BK249.out 1).trans rfl, (blk_cell BK249.out 2).trans rfl, (blk_cell BK249.out 3).trans rfl, (blk_cell BK249.out 4).trans rfl⟩ (fun hHeld => ?_)
     clear hK K
     refine norm_ (a' := ?_) ?_ ?_
     rotate_left
     ·show Act.put _ (some 31) _ = _
      simp only [Act.put, List.setIfInBounds_toArray, List.set_cons_zero, List.set_cons_succ, i64_w, i32_w]
      rfl
     refine pure_ (i := 4) (N := some 32) (v := ?_) (a' := ?_) #[true, true, true, true, true, false, false, false, false, false, false] rfl rfl (any_of HT_.out (by kernel_rfl)) (fun _ _ _ h => h) (Or.inl ⟨by rfl, ?_⟩) ?_ ?_
     rotate_left
     ·intro w'
      go_simp
      with_reducible rfl
     rotate_left
     ·simp only [Act.put, List.setIfInBounds_toArray, List.set_cons_zero, List.set_cons_succ, i64_w, i32_w]
      rfl
     refine pure_ (i := 5) (N := some 33) (v := ?_) (a' := ?_) #[true, true, true, true, true, true, false, false, false, false, false] rfl rfl (any_of HT_.out (by kernel_rfl)) (fun _ _ _ h => h) (Or.inl ⟨by rfl, ?_⟩) ?_ ?_
     rotate_left
     ·intro w'
      go_simp
      with_reducible rfl
     rotate_left
     ·simp only [Act.put, List.setIfInBounds_toArray, List.set_cons_zero, List.set_cons_succ, i64_w, i32_w]
      rfl
     refine take_ (i := 6) (N := some 34) (v := ?_) (a' := ?_) #[true, true, true, true, true, true, true, false, false, false, false] rfl rfl (take_ofW HT_.out HW_.out (by kernel_rfl)) (fun _ _ _ h => h) (Or.inl ⟨by rfl, ?_⟩) hHeld ?_ ?_
     rotate_left
     ·rintro w' ⟨s0, s1, s2, s3, s4⟩
      go_simp
      with_reducible rfl
     rotate_left
     ·simp only [Act.put, List.setIfInBounds_toArray, List.set_cons_zero, List.set_cons_succ, i64_w, i32_w]
      rfl
     refine one_ (i := 7) (N := some 35) #[true, true, true, true, true, true, true, true, false, false, false] rfl rfl (one_of HT_.out (by kernel_rfl)) (by decide) (fun K hK => ?_)
     refine goes_ Try.func18 (by kernel_rfl) rfl #[.string x250003_1] (by rfl) rfl rfl (by (try simp only [List.map_toArray, List.map_cons, List.map_nil]); first | done | rfl | (simp only [List.length_drop, List.length_take]; rfl)) ?_
     with_reducible refine (parallaxref6_Query.calls k1 x250003_1 t253 _ A42.out).mono ?_
     rintro e w' ⟨rfl, ⟨nd, rfl⟩⟩
     refine ⟨_, rfl, ?_⟩
     refine hK.out _ _ ⟨(blk_cell BK249.out 0).trans rfl, (blk_cell BK249.out 1).trans rfl, (blk_cell BK249.out 2).trans rfl, (blk_cell BK249.out 3).trans rfl, (blk_cell BK249.out 4).trans rfl⟩ (fun hHeld => ?_)
     clear hK K
     refine norm_ (a' := ?_) ?_ ?_
     rotate_left
     ·show Act.put _ (some 35) _ = _
      simp only [Act.put, List.setIfInBounds_toArray, List.set_cons_zero, List.set_cons_succ, i64_w, i32_w]
      rfl
     refine pure_ (i := 8) (N := some 36) (v := ?_) (a' := ?_) #[true, true, true, true, true, true, true, true, true, false, false] rfl rfl (any_of HT_.out (by kernel_rfl)) (fun _ _ _ h => h) (Or.inl ⟨by rfl, ?_⟩) ?_ ?_
     rotate_left
     ·intro w'
      go_simp
      with_reducible rfl
     rotate_left
     ·simp only [Act.put, List.setIfInBounds_toArray, List.set_cons_zero, List.set_cons_succ, i64_w, i32_w]
      rfl
     refine one_ (i := 9) (N := none) #[true, true, true, true, true, true, true, true, true, true, false] rfl rfl (one_of HT_.out (by kernel_rfl)) (by decide) (fun K hK => ?_)
     have hs44 : w43.cell? ⟨gb248, 0, none⟩ = some (.int .i64 0) := (blk_cell BK248.out 0).trans rfl
     have hfs44 := blk_frozen BK248.out 0
     have hns44_1 := NB249_248.out
     have hms44_1 := NB248_249.out
     have hs45 : w43.cell? ⟨gb248, 1, none⟩ = some (.string (⟨#[]⟩ : ByteArray)) := (blk_cell BK248.out 1).trans rfl
     have hfs45 := blk_frozen BK248.out 1
     have hns45_1 := NB249_248.out
     have hms45_1 := NB248_249.out
     have hs46 : w43.cell? ⟨gb248, 2, none⟩ = some (.string (⟨#[]⟩ : ByteArray)) := (blk_cell BK248.out 2).trans rfl
     have hfs46 := blk_frozen BK248.out 2
     have hns46_1 := NB249_248.out
     have hms46_1 := NB248_249.out
     have hs47 : w43.cell? ⟨gb248, 3, none⟩ = some (.string (⟨#[]⟩ : ByteArray)) := (blk_cell BK248.out 3).trans rfl
     have hfs47 := blk_frozen BK248.out 3
     have hns47_1 := NB249_248.out
     have hms47_1 := NB248_249.out
     have hs48 : w43.cell? ⟨gb248, 4, none⟩ = some (.bool false) := (blk_cell BK248.out 4).trans rfl
     have hfs48 := blk_frozen BK248.out 4
     have hns48_1 := NB249_248.out
     have hms48_1 := NB248_249.out
     refine skip_ (w1 := ?_) (by rfl) rfl ?_ ?_
     rotate_left
     ·go_simp
      rfl
     refine hK.out _ _ ⟨((cell_far (p := ⟨gb248, _, none⟩) NB249_248.out _).trans (((cell_far (p := ⟨gb248, _, none⟩) NB249_248.out _).trans (((cell_far (p := ⟨gb248, _, none⟩) NB249_248.out _).trans (((cell_far (p := ⟨gb248, _, none⟩) NB249_248.out _).trans (((cell_far (p := ⟨gb248, _, none⟩) NB249_248.out _).trans (hHeld.1)))))))))), ((cell_far (p := ⟨gb248, _, none⟩) NB249_248.out _).trans (((cell_far (p := ⟨gb248, _, none⟩) NB249_248.out _).trans (((cell_far (p := ⟨gb248, _, none⟩) NB249_248.out _).trans (((cell_far (p := ⟨gb248, _, none⟩) NB249_248.out _).trans (((cell_far (p := ⟨gb248, _, none⟩) NB249_248.out _).trans (hHeld.2.1)))))))))), ((cell_far (p := ⟨gb248, _, none⟩) NB249_248.out _).trans (((cell_far (p := ⟨gb248, _, none⟩) NB249_248.out _).trans (((cell_far (p := ⟨gb248, _, none⟩) NB249_248.out _).trans (((cell_far (p := ⟨gb248, _, none⟩) NB249_248.out _).trans (((cell_far (p := ⟨gb248, _, none⟩) NB249_248.out _).trans (hHeld.2.2.1)))))))))), ((cell_far (p := ⟨gb248, _, none⟩) NB249_248.out _).trans (((cell_far (p := ⟨gb248, _, none⟩) NB249_248.out _).trans (((cell_far (p := ⟨gb248, _, none⟩) NB249_248.out _).trans (((cell_far (p := ⟨gb248, _, none⟩) NB249_248.out _).trans (((cell_far (p := ⟨gb248, _, none⟩) NB249_248.out _).trans (hHeld.2.2.2.1)))))))))), ((cell_far (p := ⟨gb248, _, none⟩) NB249_248.out _).trans (((cell_far (p := ⟨gb248, _, none⟩) NB249_248.out _).trans (((cell_far (p := ⟨gb248, _, none⟩) NB249_248.out _).trans (((cell_far (p := ⟨gb248, _, none⟩) NB249_248.out _).trans (((cell_far (p := ⟨gb248, _, none⟩) NB249_248.out _).trans (hHeld.2.2.2.2))))))))))⟩ (fun hHeld => ?_)
     clear hK K
     refine pure_ (i := 10) (N := some 3) (v := ?_) (a' := ?_) #[true, true, true, true, true, true, true, true, true, true, true] rfl rfl (any_of HT_.out (by kernel_rfl)) (fun _ _ _ h => h) (Or.inl ⟨by rfl, ?_⟩) ?_ ?_
     rotate_left
     ·intro w'
      go_simp
      with_reducible rfl
     rotate_left
     ·simp only [Act.put, List.setIfInBounds_toArray, List.set_cons_zero, List.set_cons_succ, i64_w, i32_w]
      rfl
     refine done_ (done_of HT_.out (by kernel_rfl)) ?_
     try go_wp2
     refine bodyPost_ret (results_ct rfl _ _ gb248 27 #[.int .i64 0, .string (⟨#[]⟩ : ByteArray), .string x250002_1, .string x250003_1, .bool x250004_1] (0, 0) _ rfl (by (with_reducible repeat (first | refine blk_drewN ?_ _ | refine blk_drew ?_ | refine blk_alloc ?_ _)); refine blk_put (cs := #[.int .i64 0, .string (⟨#[]⟩ : ByteArray), .string x250002_1, .string x250003_1, .bool false]) ?_ 4 _ rfl; (with_reducible repeat (first | refine blk_drewN ?_ _ | refine blk_drew ?_ | refine blk_alloc ?_ _)); refine blk_put (cs := #[.int .i64 0, .string (⟨#[]⟩ : ByteArray), .string x250002_1, .string (⟨#[]⟩ : ByteArray), .bool false]) ?_ 3 _ rfl; (with_reducible repeat (first | refine blk_drewN ?_ _ | refine blk_drew ?_ | refine blk_alloc ?_ _)); refine blk_put (cs := #[.int .i64 0, .string (⟨#[]⟩ : ByteArray), .string (⟨#[]⟩ : ByteArray), .string (⟨#[]⟩ : ByteArray), .bool false]) ?_ 2 _ rfl; (with_reducible repeat (first | refine blk_drewN ?_ _ | refine blk_drew ?_ | refine blk_alloc ?_ _)); refine blk_put (cs := #[.int .i64 0, .string (⟨#[]⟩ : ByteArray), .string (⟨#[]⟩ : ByteArray), .string (⟨#[]⟩ : ByteArray), .bool false]) ?_ 1 _ rfl; (with_reducible repeat (first | refine blk_drewN ?_ _ | refine blk_drew ?_ | refine blk_alloc ?_ _)); refine blk_put (cs := #[.int .i64 0, .string (⟨#[]⟩ : ByteArray), .string (⟨#[]⟩ : ByteArray), .string (⟨#[]⟩ : ByteArray), .bool false]) ?_ 0 _ rfl; (with_reducible repeat (first | refine blk_drewN ?_ _ | refine blk_drew ?_ | refine blk_alloc ?_ _)); exact BK248.out) Try.underlying27 rfl (by kernel_rfl)) rfl ?_
     exact ⟨by first | rfl | (simp [errW_none, errW_some] <;> rfl) | (simp [*, errW_none, errW_some] <;> rfl), by repeat (first | (with_reducible first | exact HB.out | apply below_alloc | apply pw_below_drewN | apply below_drew1 | refine below_set ?_ GE248.out | refine below_set ?_ GE249.out) | exact HB.out)⟩
    ·replace c41 := Bool.eq_false_iff.mpr c41
     subst c41
     have H1 : (some (0, (⟨#[]⟩ : ByteArray), x250002_1, x250003_1, x250004_1, false)) = some (r1, r2, r3, r4, r5, r6) := by rw [if_neg (show ¬ (false = true) by decide)] at H; exact H
     clear H
     have H := H1
     clear H1
     simp only [Option.some.injEq, Prod.mk.injEq] at H
     obtain ⟨rfl, rfl, rfl, rfl, rfl, rfl⟩ := H
     try go_wp2
     have n0_ := Aside0.mk (blk_drew BK248.out)
     have n1_ := Aside0.mk (blk_drew BK249.out)
     have n2_ := Aside0.mk (below_drew1 HB.out)
     clear BK248
     clear BK249
     clear HB
     have BK248 := n0_
     have BK249 := n1_
     have HB := n2_
     clear n0_ n1_ n2_
     refine start_ (n := 11) (S := fun w' => w'.cell? ⟨gb249, 0, none⟩ = some (.int .i64 0) ∧ w'.cell? ⟨gb249, 1, none⟩ = some (.string (⟨#[]⟩ : ByteArray)) ∧ w'.cell? ⟨gb249, 2, none⟩ = some (.string x250002_1) ∧ w'.cell? ⟨gb249, 3, none⟩ = some (.string x250003_1) ∧ w'.cell? ⟨gb249, 4, none⟩ = some (.bool x250004_1)) (ds := []) #[false, false, false, false, false, false, false, false, false, false, false] (by kernel_rfl) rfl rfl ⟨(blk_cell BK249.out 0).trans rfl, (blk_cell BK249.out 1).trans rfl, (blk_cell BK249.out 2).trans rfl, (blk_cell BK249.out 3).trans rfl, (blk_cell BK249.out 4).trans rfl⟩ (fun hHeld => ?_); refine with_tabW parallaxref6_origin.tab7 parallaxref6_origin.bits7 (fun HT_ HW_ => ?_)
     generalize wr.drew = w49 at BK248 BK249 HB hHeld ⊢
     refine pure_ (i := 1) (N := some 29) (v := ?_) (a' := ?_) #[false, true, false, false, false, false, false, false, false, false, false] rfl rfl (any_of HT_.out (by kernel_rfl)) (fun _ _ _ h => h) (Or.inl ⟨by rfl, ?_⟩) ?_ ?_
     rotate_left
     ·intro w'
      go_simp
      with_reducible rfl
     rotate_left
     ·simp only [Act.put, List.setIfInBounds_toArray, List.set_cons_zero, List.set_cons_succ, i64_w, i32_w]
      rfl
     refine take_ (i := 0) (N := some 28) (v := ?_) (a' := ?_) #[true, true, false, false, false, false, false, false, false, false, false] rfl rfl (take_ofW HT_.out HW_.out (by kernel_rfl)) (fun _ _ _ h => h) (Or.inl ⟨by rfl, ?_⟩) hHeld ?_ ?_
     rotate_left
     ·rintro w' ⟨s0, s1, s2, s3, s4⟩
      go_simp
      with_reducible rfl
     rotate_left
     ·simp only [Act.put, List.setIfInBounds_toArray, List.set_cons_zero, List.set_cons_succ, i64_w, i32_w]
      rfl
     refine take_ (i := 2) (N := some 30) (v := ?_) (a' := ?_) #[true, true, true, false, false, false, false, false, false, false, false] rfl rfl (take_ofW HT_.out HW_.out (by kernel_rfl)) (fun _ _ _ h => h) (Or.inl ⟨by rfl, ?_⟩) hHeld ?_ ?_
     rotate_left
     ·rintro w' ⟨s0, s1, s2, s3, s4⟩
      go_simp
      with_reducible rfl
     rotate_left
     ·simp only [Act.put, List.setIfInBounds_toArray, List.set_cons_zero, List.set_cons_succ, i64_w, i32_w]
      rfl
     refine one_ (i := 3) (N := some 31) #[true, true, true, true, false, false, false, false, false, false, false] rfl rfl (one_of HT_.out (by kernel_rfl)) (by decide) (fun K hK => ?_)
     refine goes_ Try.func16 (by kernel_rfl) rfl #[.string x250002_1] (by rfl) rfl rfl (by (try simp only [List.map_toArray, List.map_cons, List.map_nil]); first | done | rfl | (simp only [List.length_drop, List.length_take]; rfl)) ?_
     with_reducible refine (parallaxref6_Path.calls k1 x250002_1 false _ A40.out).mono ?_
     rintro e w' ⟨rfl, ⟨nd, rfl⟩⟩
     refine ⟨_, rfl, ?_⟩
     refine hK.out _ _ ⟨(blk_cell BK249.out 0).trans rfl, (blk_cell BK249.out 1).trans rfl, (blk_cell BK249.out 2).trans rfl, (blk_cell BK249.out 3).trans rfl, (blk_cell BK249.out 4).trans rfl⟩ (fun hHeld => ?_)
     clear hK K
     refine norm_ (a' := ?_) ?_ ?_
     rotate_left
     ·show Act.put _ (some 31) _ = _
      simp only [Act.put, List.setIfInBounds_toArray, List.set_cons_zero, List.set_cons_succ, i64_w, i32_w]
      rfl
     refine pure_ (i := 4) (N := some 32) (v := ?_) (a' := ?_) #[true, true, true, true, true, false, false, false, false, false, false] rfl rfl (any_of HT_.out (by kernel_rfl)) (fun _ _ _ h => h) (Or.inl ⟨by rfl, ?_⟩) ?_ ?_
     rotate_left
     ·intro w'
      go_simp
      with_reducible rfl
     rotate_left
     ·simp only [Act.put, List.setIfInBounds_toArray, List.set_cons_zero, List.set_cons_succ, i64_w, i32_w]
      rfl
     refine pure_ (i := 5) (N := some 33) (v := undef) (a' := ?_) #[true, true, true, true, true, true, false, false, false, false, false] rfl rfl (any_of HT_.out (by kernel_rfl)) (fun _ _ _ h => h) (Or.inr ⟨by rfl, rfl⟩) ?_ ?_
     rotate_left
     ·simp only [Act.put, List.setIfInBounds_toArray, List.set_cons_zero, List.set_cons_succ, i64_w, i32_w]
      rfl
     refine pure_ (i := 6) (N := some 34) (v := undef) (a' := ?_) #[true, true, true, true, true, true, true, false, false, false, false] rfl rfl (any_of HT_.out (by kernel_rfl)) (fun _ _ _ h => h) (Or.inr ⟨by rfl, rfl⟩) ?_ ?_
     rotate_left
     ·simp only [Act.put, List.setIfInBounds_toArray, List.set_cons_zero, List.set_cons_succ, i64_w, i32_w]
      rfl
     refine pure_ (i := 7) (N := some 35) (v := undef) (a' := ?_) #[true, true, true, true, true, true, true, true, false, false, false] rfl rfl (any_of HT_.out (by kernel_rfl)) (fun _ _ _ h => h) (Or.inr ⟨by rfl, rfl⟩) ?_ ?_
     rotate_left
     ·simp only [Act.put, List.setIfInBounds_toArray, List.set_cons_zero, List.set_cons_succ, i64_w, i32_w]
      rfl
     refine pure_ (i := 8) (N := some 36) (v := ?_) (a' := ?_) #[true, true, true, true, true, true, true, true, true, false, false] rfl rfl (any_of HT_.out (by kernel_rfl)) (fun _ _ _ h => h) (Or.inl ⟨by rfl, ?_⟩) ?_ ?_
     rotate_left
     ·intro w'
      go_simp
      with_reducible rfl
     rotate_left
     ·simp only [Act.put, List.setIfInBounds_toArray, List.set_cons_zero, List.set_cons_succ, i64_w, i32_w]
      rfl
     refine one_ (i := 9) (N := none) #[true, true, true, true, true, true, true, true, true, true, false] rfl rfl (one_of HT_.out (by kernel_rfl)) (by decide) (fun K hK => ?_)
     have hs50 : w49.cell? ⟨gb248, 0, none⟩ = some (.int .i64 0) := (blk_cell BK248.out 0).trans rfl
     have hfs50 := blk_frozen BK248.out 0
     have hns50_1 := NB249_248.out
     have hms50_1 := NB248_249.out
     have hs51 : w49.cell? ⟨gb248, 1, none⟩ = some (.string (⟨#[]⟩ : ByteArray)) := (blk_cell BK248.out 1).trans rfl
     have hfs51 := blk_frozen BK248.out 1
     have hns51_1 := NB249_248.out
     have hms51_1 := NB248_249.out
     have hs52 : w49.cell? ⟨gb248, 2, none⟩ = some (.string (⟨#[]⟩ : ByteArray)) := (blk_cell BK248.out 2).trans rfl
     have hfs52 := blk_frozen BK248.out 2
     have hns52_1 := NB249_248.out
     have hms52_1 := NB248_249.out
     have hs53 : w49.cell? ⟨gb248, 3, none⟩ = some (.string (⟨#[]⟩ : ByteArray)) := (blk_cell BK248.out 3).trans rfl
     have hfs53 := blk_frozen BK248.out 3
     have hns53_1 := NB249_248.out
     have hms53_1 := NB248_249.out
     have hs54 : w49.cell? ⟨gb248, 4, none⟩ = some (.bool false) := (blk_cell BK248.out 4).trans rfl
     have hfs54 := blk_frozen BK248.out 4
     have hns54_1 := NB249_248.out
     have hms54_1 := NB248_249.out
     refine skip_ (w1 := ?_) (by rfl) rfl ?_ ?_
     rotate_left
     ·go_simp
      rfl
     refine hK.out _ _ ⟨((cell_far (p := ⟨gb248, _, none⟩) NB249_248.out _).trans (((cell_far (p := ⟨gb248, _, none⟩) NB249_248.out _).trans (((cell_far (p := ⟨gb248, _, none⟩) NB249_248.out _).trans (((cell_far (p := ⟨gb248, _, none⟩) NB249_248.out _).trans (((cell_far (p := ⟨gb248, _, none⟩) NB249_248.out _).trans (hHeld.1)))))))))), ((cell_far (p := ⟨gb248, _, none⟩) NB249_248.out _).trans (((cell_far (p := ⟨gb248, _, none⟩) NB249_248.out _).trans (((cell_far (p := ⟨gb248, _, none⟩) NB249_248.out _).trans (((cell_far (p := ⟨gb248, _, none⟩) NB249_248.out _).trans (((cell_far (p := ⟨gb248, _, none⟩) NB249_248.out _).trans (hHeld.2.1)))))))))), ((cell_far (p := ⟨gb248, _, none⟩) NB249_248.out _).trans (((cell_far (p := ⟨gb248, _, none⟩) NB249_248.out _).trans (((cell_far (p := ⟨gb248, _, none⟩) NB249_248.out _).trans (((cell_far (p := ⟨gb248, _, none⟩) NB249_248.out _).trans (((cell_far (p := ⟨gb248, _, none⟩) NB249_248.out _).trans (hHeld.2.2.1)))))))))), ((cell_far (p := ⟨gb248, _, none⟩) NB249_248.out _).trans (((cell_far (p := ⟨gb248, _, none⟩) NB249_248.out _).trans (((cell_far (p := ⟨gb248, _, none⟩) NB249_248.out _).trans (((cell_far (p := ⟨gb248, _, none⟩) NB249_248.out _).trans (((cell_far (p := ⟨gb248, _, none⟩) NB249_248.out _).trans (hHeld.2.2.2.1)))))))))), ((cell_far (p := ⟨gb248, _, none⟩) NB249_248.out _).trans (((cell_far (p := ⟨gb248, _, none⟩) NB249_248.out _).trans (((cell_far (p := ⟨gb248, _, none⟩) NB249_248.out _).trans (((cell_far (p := ⟨gb248, _, none⟩) NB249_248.out _).trans (((cell_far (p := ⟨gb248, _, none⟩) NB249_248.out _).trans (hHeld.2.2.2.2))))))))))⟩ (fun hHeld => ?_)
     clear hK K
     refine pure_ (i := 10) (N := some 3) (v := ?_) (a' := ?_) #[true, true, true, true, true, true, true, true, true, true, true] rfl rfl (any_of HT_.out (by kernel_rfl)) (fun _ _ _ h => h) (Or.inl ⟨by rfl, ?_⟩) ?_ ?_
     rotate_left
     ·intro w'
      go_simp
      with_reducible rfl
     rotate_left
     ·simp only [Act.put, List.setIfInBounds_toArray, List.set_cons_zero, List.set_cons_succ, i64_w, i32_w]
      rfl
     refine done_ (done_of HT_.out (by kernel_rfl)) ?_
     try go_wp2
     refine bodyPost_ret (results_ct rfl _ _ gb248 27 #[.int .i64 0, .string (⟨#[]⟩ : ByteArray), .string x250002_1, .string x250003_1, .bool x250004_1] (0, 0) _ rfl (by (with_reducible repeat (first | refine blk_drewN ?_ _ | refine blk_drew ?_ | refine blk_alloc ?_ _)); refine blk_put (cs := #[.int .i64 0, .string (⟨#[]⟩ : ByteArray), .string x250002_1, .string x250003_1, .bool false]) ?_ 4 _ rfl; (with_reducible repeat (first | refine blk_drewN ?_ _ | refine blk_drew ?_ | refine blk_alloc ?_ _)); refine blk_put (cs := #[.int .i64 0, .string (⟨#[]⟩ : ByteArray), .string x250002_1, .string (⟨#[]⟩ : ByteArray), .bool false]) ?_ 3 _ rfl; (with_reducible repeat (first | refine blk_drewN ?_ _ | refine blk_drew ?_ | refine blk_alloc ?_ _)); refine blk_put (cs := #[.int .i64 0, .string (⟨#[]⟩ : ByteArray), .string (⟨#[]⟩ : ByteArray), .string (⟨#[]⟩ : ByteArray), .bool false]) ?_ 2 _ rfl; (with_reducible repeat (first | refine blk_drewN ?_ _ | refine blk_drew ?_ | refine blk_alloc ?_ _)); refine blk_put (cs := #[.int .i64 0, .string (⟨#[]⟩ : ByteArray), .string (⟨#[]⟩ : ByteArray), .string (⟨#[]⟩ : ByteArray), .bool false]) ?_ 1 _ rfl; (with_reducible repeat (first | refine blk_drewN ?_ _ | refine blk_drew ?_ | refine blk_alloc ?_ _)); refine blk_put (cs := #[.int .i64 0, .string (⟨#[]⟩ : ByteArray), .string (⟨#[]⟩ : ByteArray), .string (⟨#[]⟩ : ByteArray), .bool false]) ?_ 0 _ rfl; (with_reducible repeat (first | refine blk_drewN ?_ _ | refine blk_drew ?_ | refine blk_alloc ?_ _)); exact BK248.out) Try.underlying27 rfl (by kernel_rfl)) rfl ?_
     exact ⟨by first | rfl | (simp [errW_none, errW_some] <;> rfl) | (simp [*, errW_none, errW_some] <;> rfl), by repeat (first | (with_reducible first | exact HB.out | apply below_alloc | apply pw_below_drewN | apply below_drew1 | refine below_set ?_ GE248.out | refine below_set ?_ GE249.out) | exact HB.out)⟩

end Go.Proofs.Ytnnehbbfokoklaa.PTargetTells
