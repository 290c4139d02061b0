-- Written by a program of this session (wip/tools/myprint.sh)
import Derived.Test.YtclaaacdmaeblaaDoorPRequestExtendsx0
import Derived.Test.YtclaaacdmaeblaaDoorPRequestExtendsx8
namespace Go.Proofs.YtclaaacdmaeblaaDoor.PRequestExtends
open Go.RowKit Go.Proofs.YtclaaacdmaeblaaDoorW.PrintWords Go.Proofs.YtclaaacdmaeblaaDoorW.PrintLast Go.Proofs.YtclaaacdmaeblaaDoorW.PrintMore
attribute [local go_sem] max2_int min2_int max_two min_two max_three min_three max_four min_four   -- for this text's walks alone
set_option linter.unusedVariables false
set_option linter.unusedSimpArgs false

/-! ### parallaxseat_Bounds: function 9 -/
def parallaxseat_Bounds.j0 : Nat → Int → Int → Int → Int → Int → Int → Int → Int → Int → Bool → Bool → Option (Int × Int × Int × Int × Int × Int × Int × Int × Bool × Bool)
  | 0, _, _, _, _, _, _, _, _, _, _, _ => none
  | k + 1, x0, x287000, x287001, x287002, x287003, x287004, x287005, x287006, x287007, x287008, x287009 => if (Int.tmod x0 8) = 7 then (if (Int.tmod x0 16) > 12 then (some (x287000, x287001, x287002, x287003, x287004, x287005, ((Int.tdiv x0 32) % 4) + 1, x287007, false, false)) else (some (x287000, x287001, x287002, x287003, x287004, x287005, ((Int.tdiv x0 32) % 4) + 1, x287007, false, x287009))) else (if (Int.tmod x0 16) > 12 then (some (x287000, x287001, x287002, x287003, x287004, x287005, ((Int.tdiv x0 32) % 4) + 1, x287007, x287008, false)) else (some (x287000, x287001, x287002, x287003, x287004, x287005, ((Int.tdiv x0 32) % 4) + 1, x287007, x287008, x287009)))
def parallaxseat_Bounds.f (k : Nat) (a0 : Int) : Option (Int × Int × Int × Int × Int × Int × Int × Int × Bool × Bool) := (parallaxref4_Usual.f).bind fun bt276 => (if (Int.tmod a0 6) = 1 then (parallaxseat_Bounds.j0 k a0 64 4 256 bt276.2.2.2.1 bt276.2.2.2.2.1 bt276.2.2.2.2.2.1 bt276.2.2.2.2.2.2.1 bt276.2.2.2.2.2.2.2.1 bt276.2.2.2.2.2.2.2.2.1 bt276.2.2.2.2.2.2.2.2.2) else (if (Int.tmod a0 6) = 2 then (parallaxseat_Bounds.j0 k a0 bt276.1 bt276.2.1 bt276.2.2.1 16 0 0 bt276.2.2.2.2.2.2.1 bt276.2.2.2.2.2.2.2.1 bt276.2.2.2.2.2.2.2.2.1 bt276.2.2.2.2.2.2.2.2.2) else (if (Int.tmod a0 6) = 3 then (parallaxseat_Bounds.j0 k a0 80 bt276.2.1 bt276.2.2.1 40 bt276.2.2.2.2.1 bt276.2.2.2.2.2.1 1 bt276.2.2.2.2.2.2.2.1 bt276.2.2.2.2.2.2.2.2.1 bt276.2.2.2.2.2.2.2.2.2) else (parallaxseat_Bounds.j0 k a0 bt276.1 bt276.2.1 bt276.2.2.1 bt276.2.2.2.1 bt276.2.2.2.2.1 bt276.2.2.2.2.2.1 bt276.2.2.2.2.2.2.1 bt276.2.2.2.2.2.2.2.1 bt276.2.2.2.2.2.2.2.2.1 bt276.2.2.2.2.2.2.2.2.2))))
theorem parallaxseat_Bounds.mono_l : ∀ k, (∀ y0 y1 y2 y3 y4 y5 y6 y7 y8 y9 y10, LeO (parallaxseat_Bounds.j0 k y0 y1 y2 y3 y4 y5 y6 y7 y8 y9 y10) (parallaxseat_Bounds.j0 (k + 1) y0 y1 y2 y3 y4 y5 y6 y7 y8 y9 y10))
  | 0 => fun _ _ _ _ _ _ _ _ _ _ _ r h => by simp [parallaxseat_Bounds.j0] at h
  | k + 1 => by
    have ih0 := parallaxseat_Bounds.mono_l k
    · intro y0 y1 y2 y3 y4 y5 y6 y7 y8 y9 y10
      unfold parallaxseat_Bounds.j0
      repeat' first
      | (with_reducible exact ih0 _ _ _ _ _ _ _ _ _ _ _)
      | (with_reducible exact LeO.refl _)
      | (with_reducible exact LeO.none _)
      | (with_reducible refine LeO.ite ?_ ?_)
      | (with_reducible refine LeO.bind ?_ (fun _ => ?_))
      | exact ih0 _ _ _ _ _ _ _ _ _ _ _
      | exact LeO.none _
      | refine LeO.ite ?_ ?_
      | refine LeO.bind ?_ (fun _ => ?_)
theorem parallaxseat_Bounds.mono : ∀ a0 k, LeO (parallaxseat_Bounds.f k a0) (parallaxseat_Bounds.f (k + 1) a0) := by
  intro a0 k
  have ih0 := parallaxseat_Bounds.mono_l k
  unfold parallaxseat_Bounds.f
  repeat' first
      | (with_reducible exact ih0 _ _ _ _ _ _ _ _ _ _ _)
      | (with_reducible exact LeO.refl _)
      | (with_reducible exact LeO.none _)
      | (with_reducible refine LeO.ite ?_ ?_)
      | (with_reducible refine LeO.bind ?_ (fun _ => ?_))
      | exact ih0 _ _ _ _ _ _ _ _ _ _ _
      | exact LeO.none _
      | refine LeO.ite ?_ ?_
      | refine LeO.bind ?_ (fun _ => ?_)
set_option maxHeartbeats 8000000 in
set_option maxRecDepth 100000 in
theorem parallaxseat_Bounds.calls (k : Nat) (a0 : Int) (r1 : Int) (r2 : Int) (r3 : Int) (r4 : Int) (r5 : Int) (r6 : Int) (r7 : Int) (r8 : Int) (r9 : Bool) (r10 : Bool) (w : World) (h : parallaxseat_Bounds.f k a0 = some (r1, r2, r3, r4, r5, r6, r7, r8, r9, r10)) :
    Calls Tryd.prog 9 #[.int .u8 a0] w fun e w' => e = .returned (.agg #[.int .i64 r1, .int .i64 r2, .int .i64 r3, .int .i64 r4, .int .i64 r5, .int .i64 r6, .int .i64 r7, .int .i64 r8, .bool r9, .bool r10]) ∧ Below w.heap.size w w' := by
  have hu28 := Tryd.underlying28
  have HB := Aside0.mk (Below.refl w.heap.size w)
  have H : ((parallaxref4_Usual.f).bind fun bt276 => (if (Int.tmod a0 6) = 1 then (parallaxseat_Bounds.j0 k a0 64 4 256 bt276.2.2.2.1 bt276.2.2.2.2.1 bt276.2.2.2.2.2.1 bt276.2.2.2.2.2.2.1 bt276.2.2.2.2.2.2.2.1 bt276.2.2.2.2.2.2.2.2.1 bt276.2.2.2.2.2.2.2.2.2) else (if (Int.tmod a0 6) = 2 then (parallaxseat_Bounds.j0 k a0 bt276.1 bt276.2.1 bt276.2.2.1 16 0 0 bt276.2.2.2.2.2.2.1 bt276.2.2.2.2.2.2.2.1 bt276.2.2.2.2.2.2.2.2.1 bt276.2.2.2.2.2.2.2.2.2) else (if (Int.tmod a0 6) = 3 then (parallaxseat_Bounds.j0 k a0 80 bt276.2.1 bt276.2.2.1 40 bt276.2.2.2.2.1 bt276.2.2.2.2.2.1 1 bt276.2.2.2.2.2.2.2.1 bt276.2.2.2.2.2.2.2.2.1 bt276.2.2.2.2.2.2.2.2.2) else (parallaxseat_Bounds.j0 k a0 bt276.1 bt276.2.1 bt276.2.2.1 bt276.2.2.2.1 bt276.2.2.2.2.1 bt276.2.2.2.2.2.1 bt276.2.2.2.2.2.2.1 bt276.2.2.2.2.2.2.2.1 bt276.2.2.2.2.2.2.2.2.1 bt276.2.2.2.2.2.2.2.2.2))))) = some (r1, r2, r3, r4, r5, r6, r7, r8, r9, r10) := h
  clear h
  replace H := Option.bind_eq_some_iff.mp H
  obtain ⟨⟨t276, t277, t278, t279, t280, t281, t282, t283, t284, t285⟩, A20, H⟩ := H
  replace H : (if (Int.tmod a0 6) = 1 then (parallaxseat_Bounds.j0 k a0 64 4 256 t279 t280 t281 t282 t283 t284 t285) else (if (Int.tmod a0 6) = 2 then (parallaxseat_Bounds.j0 k a0 t276 t277 t278 16 0 0 t282 t283 t284 t285) else (if (Int.tmod a0 6) = 3 then (parallaxseat_Bounds.j0 k a0 80 t277 t278 40 t280 t281 1 t283 t284 t285) else (parallaxseat_Bounds.j0 k a0 t276 t277 t278 t279 t280 t281 t282 t283 t284 t285)))) = some (r1, r2, r3, r4, r5, r6, r7, r8, r9, r10) := H
  have A2 := Aside0.mk A20
  clear A20
  have HC3 := Aside0.mk H
  clear H
  go_enter Tryd.func9, Tryd.ntmps9
  go_upto_block 0 with (first | ((with_reducible refine gate_dst (N := 2) rfl ?_); refine box_event ?hg (N := 2) ?hd (cs := #[.int .i64 0, .int .i64 0, .int .i64 0, .int .i64 0, .int .i64 0, .int .i64 0, .int .i64 0, .int .i64 0, .bool false, .bool false]) (t := 28) ?hr ?_; (case hd => rfl); (case hg => rfl); (case hr => first | (go_simp; done) | (go_simp; rfl)); intro gb275 hg w4 hbox hb; have n0_ := Aside0.mk (below_step (by repeat (first | (with_reducible first | exact HB.out | apply below_alloc | apply pw_below_drewN | apply below_drew1) | exact HB.out)) hb); have n1_ := Aside0.mk (hbox); have n2_ := Aside0.mk ((by rw [hg]; exact (below_size (by repeat (first | (with_reducible first | exact HB.out | apply below_alloc | apply pw_below_drewN | apply below_drew1) | exact HB.out))) : w.heap.size ≤ gb275)); have n3_ := Aside0.mk ((by rw [hg]; exact (below_size (by repeat (first | (with_reducible first | exact HB.out | apply below_alloc | apply pw_below_drewN | apply below_drew1) | exact HB.out))) : w.heap.size ≤ gb275)); clear HB; have HB := n0_; have BK275 := n1_; have GW275 := n2_; have GE275 := n3_; clear n0_ n1_ n2_ n3_; clear hb hbox hg) | ((with_reducible refine gate_callee (f := 17) rfl ?_); refine goesL_ (some 4) rfl rfl Tryd.func17 (by kernel_rfl) rfl #[] rfl (by (try simp only [List.map_toArray, List.map_cons, List.map_nil]); first | done | rfl | (simp only [List.length_drop, List.length_take]; rfl)) ?_; (with_reducible refine (parallaxref4_Usual.calls  t276 t277 t278 t279 t280 t281 t282 t283 t284 t285 _ A2.out).mono ?_); rintro e w5 ⟨rfl, hb⟩; refine ⟨_, rfl, ?_⟩; have n0_ := Aside0.mk (blk_below (g := gb275) (o := .cells #[.int .i64 0, .int .i64 0, .int .i64 0, .int .i64 0, .int .i64 0, .int .i64 0, .int .i64 0, .int .i64 0, .bool false, .bool false] 28 (0, 0)) (by (with_reducible repeat (first | refine blk_drewN ?_ _ | refine blk_drew ?_ | refine blk_alloc ?_ _)); exact BK275.out) hb); have n1_ := Aside0.mk (below_step (by repeat (first | (with_reducible first | exact HB.out | apply below_alloc | apply pw_below_drewN | apply below_drew1 | refine below_set ?_ GE275.out) | exact HB.out)) hb); clear BK275; clear HB; have BK275 := n0_; have HB := n1_; clear n0_ n1_; (try clear hb); (try clear hb2); (try clear hk); (try clear hi)) | ((with_reducible refine gate_dst (N := 3) rfl ?_); refine box_event ?hg (N := 3) ?hd (cs := #[.int .i64 0, .int .i64 0, .int .i64 0, .int .i64 0, .int .i64 0, .int .i64 0, .int .i64 0, .int .i64 0, .bool false, .bool false]) (t := 28) ?hr ?_; (case hd => rfl); (case hg => rfl); (case hr => first | (go_simp; done) | (go_simp; rfl)); intro gb286 hg w6 hbox hb; have n0_ := Aside0.mk (blk_below (g := gb275) (o := .cells #[.int .i64 0, .int .i64 0, .int .i64 0, .int .i64 0, .int .i64 0, .int .i64 0, .int .i64 0, .int .i64 0, .bool false, .bool false] 28 (0, 0)) (by (with_reducible repeat (first | refine blk_drewN ?_ _ | refine blk_drew ?_ | refine blk_alloc ?_ _)); exact BK275.out) hb); have n1_ := Aside0.mk (below_step (by repeat (first | (with_reducible first | exact HB.out | apply below_alloc | apply pw_below_drewN | apply below_drew1 | refine below_set ?_ GE275.out) | exact HB.out)) hb); have n2_ := Aside0.mk (hbox); have n3_ := Aside0.mk ((by rw [hg]; exact (below_size (by repeat (first | (with_reducible first | exact HB.out | apply below_alloc | apply pw_below_drewN | apply below_drew1 | refine below_set ?_ GE275.out) | exact HB.out))) : w.heap.size ≤ gb286)); have n4_ := Aside0.mk ((by rw [hg]; exact (below_size (by repeat (first | (with_reducible first | exact HB.out | apply below_alloc | apply pw_below_drewN | apply below_drew1 | refine below_set ?_ GE275.out) | exact HB.out))) : w.heap.size ≤ gb286)); have n5_ := Aside0.mk ((by rw [hg]; exact Nat.ne_of_lt (blk_lt (g := gb275) (o := .cells #[.int .i64 0, .int .i64 0, .int .i64 0, .int .i64 0, .int .i64 0, .int .i64 0, .int .i64 0, .int .i64 0, .bool false, .bool false] 28 (0, 0)) (by (with_reducible repeat (first | refine blk_drewN ?_ _ | refine blk_drew ?_ | refine blk_alloc ?_ _)); exact BK275.out)) : gb275 ≠ gb286)); have n6_ := Aside0.mk ((by rw [hg]; exact Nat.ne_of_gt (blk_lt (g := gb275) (o := .cells #[.int .i64 0, .int .i64 0, .int .i64 0, .int .i64 0, .int .i64 0, .int .i64 0, .int .i64 0, .int .i64 0, .bool false, .bool false] 28 (0, 0)) (by (with_reducible repeat (first | refine blk_drewN ?_ _ | refine blk_drew ?_ | refine blk_alloc ?_ _)); exact BK275.out)) : gb286 ≠ gb275)); clear BK275; clear HB; have BK275 := n0_; have HB := n1_; have BK286 := n2_; have GW286 := n3_; have GE286 := n4_; have NB275_286 := n5_; have NB286_275 := n6_; clear n0_ n1_ n2_ n3_ n4_ n5_ n6_; clear hb hbox hg; have hnb7 := NB286_275.out; have hnc7 := NB275_286.out; have hcz8_0 : w6.cell? ⟨gb286, 0, none⟩ = some (.int .i64 0) := (blk_cell BK286.out 0).trans rfl; have hcz8_1 : w6.cell? ⟨gb286, 1, none⟩ = some (.int .i64 0) := (blk_cell BK286.out 1).trans rfl; have hcz8_2 : w6.cell? ⟨gb286, 2, none⟩ = some (.int .i64 0) := (blk_cell BK286.out 2).trans rfl; have hcz8_3 : w6.cell? ⟨gb286, 3, none⟩ = some (.int .i64 0) := (blk_cell BK286.out 3).trans rfl; have hcz8_4 : w6.cell? ⟨gb286, 4, none⟩ = some (.int .i64 0) := (blk_cell BK286.out 4).trans rfl; have hcz8_5 : w6.cell? ⟨gb286, 5, none⟩ = some (.int .i64 0) := (blk_cell BK286.out 5).trans rfl; have hcz8_6 : w6.cell? ⟨gb286, 6, none⟩ = some (.int .i64 0) := (blk_cell BK286.out 6).trans rfl; have hcz8_7 : w6.cell? ⟨gb286, 7, none⟩ = some (.int .i64 0) := (blk_cell BK286.out 7).trans rfl; have hcz8_8 : w6.cell? ⟨gb286, 8, none⟩ = some (.bool false) := (blk_cell BK286.out 8).trans rfl; have hcz8_9 : w6.cell? ⟨gb286, 9, none⟩ = some (.bool false) := (blk_cell BK286.out 9).trans rfl; have hfz8_0 := blk_frozen BK286.out 0; have hfz8_1 := blk_frozen BK286.out 1; have hfz8_2 := blk_frozen BK286.out 2; have hfz8_3 := blk_frozen BK286.out 3; have hfz8_4 := blk_frozen BK286.out 4; have hfz8_5 := blk_frozen BK286.out 5; have hfz8_6 := blk_frozen BK286.out 6; have hfz8_7 := blk_frozen BK286.out 7; have hfz8_8 := blk_frozen BK286.out 8; have hfz8_9 := blk_frozen BK286.out 9))
  (try simp only [Act.put, List.setIfInBounds_toArray, List.set_cons_zero, List.set_cons_succ])
  go_cut [] (fun wc => ∃ (kq : Nat) (x287000_2 : Int) (x287001_2 : Int) (x287002_2 : Int) (x287003_2 : Int) (x287004_2 : Int) (x287005_2 : Int) (x287006_2 : Int), Aside0 (parallaxseat_Bounds.j0 kq a0 x287000_2 x287001_2 x287002_2 x287003_2 x287004_2 x287005_2 x287006_2 t283 t284 t285 = some (r1, r2, r3, r4, r5, r6, r7, r8, r9, r10)) ∧ Aside0 (kq ≤ k) ∧ Aside0 (wc.heap[gb275]? = some (.cells #[.int .i64 0, .int .i64 0, .int .i64 0, .int .i64 0, .int .i64 0, .int .i64 0, .int .i64 0, .int .i64 0, .bool false, .bool false] 28 (0, 0))) ∧ Aside0 (wc.heap[gb286]? = some (.cells #[.int .i64 x287000_2, .int .i64 x287001_2, .int .i64 x287002_2, .int .i64 x287003_2, .int .i64 x287004_2, .int .i64 x287005_2, .int .i64 x287006_2, .int .i64 t283, .bool t284, .bool t285] 28 (0, 0))) ∧ Aside0 (Below w.heap.size w wc))
  case first =>
    have H := HC3.out
    clear HC3
    by_cases c9 : (Int.tmod a0 6) = 1
    · rw [if_pos c9] at H
      have c9b0 : ((Int.tmod a0 6) == 1) = true := beq_iff_eq.mpr c9
      have c9b1 : ((Int.tmod a0 6) != 1) = false := bne_eq_false_iff_eq.mpr c9
      clear c9
      (first | rw [c9b0] | (simp only [i64_w, i32_w]; rw [c9b0]) | skip)
      have H' := Aside0.mk H
      clear H
      have hnb10 := NB286_275.out
      have hnc10 := NB275_286.out
      have hcz11_0 : w6.cell? ⟨gb286, 0, none⟩ = some (.int .i64 0) := (blk_cell BK286.out 0).trans rfl
      have hcz11_1 : w6.cell? ⟨gb286, 1, none⟩ = some (.int .i64 0) := (blk_cell BK286.out 1).trans rfl
      have hcz11_2 : w6.cell? ⟨gb286, 2, none⟩ = some (.int .i64 0) := (blk_cell BK286.out 2).trans rfl
      have hcz11_3 : w6.cell? ⟨gb286, 3, none⟩ = some (.int .i64 0) := (blk_cell BK286.out 3).trans rfl
      have hcz11_4 : w6.cell? ⟨gb286, 4, none⟩ = some (.int .i64 0) := (blk_cell BK286.out 4).trans rfl
      have hcz11_5 : w6.cell? ⟨gb286, 5, none⟩ = some (.int .i64 0) := (blk_cell BK286.out 5).trans rfl
      have hcz11_6 : w6.cell? ⟨gb286, 6, none⟩ = some (.int .i64 0) := (blk_cell BK286.out 6).trans rfl
      have hcz11_7 : w6.cell? ⟨gb286, 7, none⟩ = some (.int .i64 0) := (blk_cell BK286.out 7).trans rfl
      have hcz11_8 : w6.cell? ⟨gb286, 8, none⟩ = some (.bool false) := (blk_cell BK286.out 8).trans rfl
      have hcz11_9 : w6.cell? ⟨gb286, 9, none⟩ = some (.bool false) := (blk_cell BK286.out 9).trans rfl
      have hfz11_0 := blk_frozen BK286.out 0
      have hfz11_1 := blk_frozen BK286.out 1
      have hfz11_2 := blk_frozen BK286.out 2
      have hfz11_3 := blk_frozen BK286.out 3
      have hfz11_4 := blk_frozen BK286.out 4
      have hfz11_5 := blk_frozen BK286.out 5
      have hfz11_6 := blk_frozen BK286.out 6
      have hfz11_7 := blk_frozen BK286.out 7
      have hfz11_8 := blk_frozen BK286.out 8
      have hfz11_9 := blk_frozen BK286.out 9
      go_wp2
      go_meet
      case rel => exact ⟨_, (64), (4), (256), (t279), (t280), (t281), (t282), H', ⟨by first | omega | exact Nat.le_refl _⟩, ⟨by (with_reducible repeat (first | refine blk_drewN ?_ _ | refine blk_drew ?_ | refine blk_alloc ?_ _)); refine blk_far ?_ NB275_286.out _; (with_reducible repeat (first | refine blk_drewN ?_ _ | refine blk_drew ?_ | refine blk_alloc ?_ _)); refine blk_far ?_ NB275_286.out _; (with_reducible repeat (first | refine blk_drewN ?_ _ | refine blk_drew ?_ | refine blk_alloc ?_ _)); refine blk_far ?_ NB275_286.out _; (with_reducible repeat (first | refine blk_drewN ?_ _ | refine blk_drew ?_ | refine blk_alloc ?_ _)); refine blk_far ?_ NB275_286.out _; (with_reducible repeat (first | refine blk_drewN ?_ _ | refine blk_drew ?_ | refine blk_alloc ?_ _)); refine blk_far ?_ NB275_286.out _; (with_reducible repeat (first | refine blk_drewN ?_ _ | refine blk_drew ?_ | refine blk_alloc ?_ _)); refine blk_far ?_ NB275_286.out _; (with_reducible repeat (first | refine blk_drewN ?_ _ | refine blk_drew ?_ | refine blk_alloc ?_ _)); refine blk_far ?_ NB275_286.out _; (with_reducible repeat (first | refine blk_drewN ?_ _ | refine blk_drew ?_ | refine blk_alloc ?_ _)); refine blk_far ?_ NB275_286.out _; (with_reducible repeat (first | refine blk_drewN ?_ _ | refine blk_drew ?_ | refine blk_alloc ?_ _)); refine blk_far ?_ NB275_286.out _; (with_reducible repeat (first | refine blk_drewN ?_ _ | refine blk_drew ?_ | refine blk_alloc ?_ _)); refine blk_far ?_ NB275_286.out _; (with_reducible repeat (first | refine blk_drewN ?_ _ | refine blk_drew ?_ | refine blk_alloc ?_ _)); refine blk_far ?_ NB275_286.out _; (with_reducible repeat (first | refine blk_drewN ?_ _ | refine blk_drew ?_ | refine blk_alloc ?_ _)); refine blk_far ?_ NB275_286.out _; (with_reducible repeat (first | refine blk_drewN ?_ _ | refine blk_drew ?_ | refine blk_alloc ?_ _)); refine blk_far ?_ NB275_286.out _; (with_reducible repeat (first | refine blk_drewN ?_ _ | refine blk_drew ?_ | refine blk_alloc ?_ _)); exact BK275.out⟩, ⟨by (with_reducible repeat (first | refine blk_drewN ?_ _ | refine blk_drew ?_ | refine blk_alloc ?_ _)); refine blk_put (cs := #[.int .i64 64, .int .i64 t277, .int .i64 256, .int .i64 t279, .int .i64 t280, .int .i64 t281, .int .i64 t282, .int .i64 t283, .bool t284, .bool t285]) ?_ 1 _ rfl; (with_reducible repeat (first | refine blk_drewN ?_ _ | refine blk_drew ?_ | refine blk_alloc ?_ _)); refine blk_put (cs := #[.int .i64 64, .int .i64 t277, .int .i64 t278, .int .i64 t279, .int .i64 t280, .int .i64 t281, .int .i64 t282, .int .i64 t283, .bool t284, .bool t285]) ?_ 2 _ rfl; (with_reducible repeat (first | refine blk_drewN ?_ _ | refine blk_drew ?_ | refine blk_alloc ?_ _)); refine blk_put (cs := #[.int .i64 t276, .int .i64 t277, .int .i64 t278, .int .i64 t279, .int .i64 t280, .int .i64 t281, .int .i64 t282, .int .i64 t283, .bool t284, .bool t285]) ?_ 0 _ rfl; (with_reducible repeat (first | refine blk_drewN ?_ _ | refine blk_drew ?_ | refine blk_alloc ?_ _)); refine blk_put (cs := #[.int .i64 t276, .int .i64 t277, .int .i64 t278, .int .i64 t279, .int .i64 t280, .int .i64 t281, .int .i64 t282, .int .i64 t283, .bool t284, .bool false]) ?_ 9 _ rfl; (with_reducible repeat (first | refine blk_drewN ?_ _ | refine blk_drew ?_ | refine blk_alloc ?_ _)); refine blk_put (cs := #[.int .i64 t276, .int .i64 t277, .int .i64 t278, .int .i64 t279, .int .i64 t280, .int .i64 t281, .int .i64 t282, .int .i64 t283, .bool false, .bool false]) ?_ 8 _ rfl; (with_reducible repeat (first | refine blk_drewN ?_ _ | refine blk_drew ?_ | refine blk_alloc ?_ _)); refine blk_put (cs := #[.int .i64 t276, .int .i64 t277, .int .i64 t278, .int .i64 t279, .int .i64 t280, .int .i64 t281, .int .i64 t282, .int .i64 0, .bool false, .bool false]) ?_ 7 _ rfl; (with_reducible repeat (first | refine blk_drewN ?_ _ | refine blk_drew ?_ | refine blk_alloc ?_ _)); refine blk_put (cs := #[.int .i64 t276, .int .i64 t277, .int .i64 t278, .int .i64 t279, .int .i64 t280, .int .i64 t281, .int .i64 0, .int .i64 0, .bool false, .bool false]) ?_ 6 _ rfl; (with_reducible repeat (first | refine blk_drewN ?_ _ | refine blk_drew ?_ | refine blk_alloc ?_ _)); refine blk_put (cs := #[.int .i64 t276, .int .i64 t277, .int .i64 t278, .int .i64 t279, .int .i64 t280, .int .i64 0, .int .i64 0, .int .i64 0, .bool false, .bool false]) ?_ 5 _ rfl; (with_reducible repeat (first | refine blk_drewN ?_ _ | refine blk_drew ?_ | refine blk_alloc ?_ _)); refine blk_put (cs := #[.int .i64 t276, .int .i64 t277, .int .i64 t278, .int .i64 t279, .int .i64 0, .int .i64 0, .int .i64 0, .int .i64 0, .bool false, .bool false]) ?_ 4 _ rfl; (with_reducible repeat (first | refine blk_drewN ?_ _ | refine blk_drew ?_ | refine blk_alloc ?_ _)); refine blk_put (cs := #[.int .i64 t276, .int .i64 t277, .int .i64 t278, .int .i64 0, .int .i64 0, .int .i64 0, .int .i64 0, .int .i64 0, .bool false, .bool false]) ?_ 3 _ rfl; (with_reducible repeat (first | refine blk_drewN ?_ _ | refine blk_drew ?_ | refine blk_alloc ?_ _)); refine blk_put (cs := #[.int .i64 t276, .int .i64 t277, .int .i64 0, .int .i64 0, .int .i64 0, .int .i64 0, .int .i64 0, .int .i64 0, .bool false, .bool false]) ?_ 2 _ rfl; (with_reducible repeat (first | refine blk_drewN ?_ _ | refine blk_drew ?_ | refine blk_alloc ?_ _)); refine blk_put (cs := #[.int .i64 t276, .int .i64 0, .int .i64 0, .int .i64 0, .int .i64 0, .int .i64 0, .int .i64 0, .int .i64 0, .bool false, .bool false]) ?_ 1 _ rfl; (with_reducible repeat (first | refine blk_drewN ?_ _ | refine blk_drew ?_ | refine blk_alloc ?_ _)); refine blk_put (cs := #[.int .i64 0, .int .i64 0, .int .i64 0, .int .i64 0, .int .i64 0, .int .i64 0, .int .i64 0, .int .i64 0, .bool false, .bool false]) ?_ 0 _ rfl; (with_reducible repeat (first | refine blk_drewN ?_ _ | refine blk_drew ?_ | refine blk_alloc ?_ _)); exact BK286.out⟩, ⟨by repeat (first | (with_reducible first | exact HB.out | apply below_alloc | apply pw_below_drewN | apply below_drew1 | refine below_set ?_ GE275.out | refine below_set ?_ GE286.out) | exact HB.out)⟩⟩
    · rw [if_neg c9] at H
      have c9b0 : ((Int.tmod a0 6) == 1) = false := beq_eq_false_iff_ne.mpr c9
      have c9b1 : ((Int.tmod a0 6) != 1) = true := bne_iff_ne.mpr c9
      (first | rw [c9b0] | (simp only [i64_w, i32_w]; rw [c9b0]) | skip)
      by_cases c12 : (Int.tmod a0 6) = 2
      · rw [if_pos c12] at H
        have c12b0 : ((Int.tmod a0 6) == 2) = true := beq_iff_eq.mpr c12
        have c12b1 : ((Int.tmod a0 6) != 2) = false := bne_eq_false_iff_eq.mpr c12
        clear c12
        have H' := Aside0.mk H
        clear H
        have hnb13 := NB286_275.out
        have hnc13 := NB275_286.out
        have hcz14_0 : w6.cell? ⟨gb286, 0, none⟩ = some (.int .i64 0) := (blk_cell BK286.out 0).trans rfl
        have hcz14_1 : w6.cell? ⟨gb286, 1, none⟩ = some (.int .i64 0) := (blk_cell BK286.out 1).trans rfl
        have hcz14_2 : w6.cell? ⟨gb286, 2, none⟩ = some (.int .i64 0) := (blk_cell BK286.out 2).trans rfl
        have hcz14_3 : w6.cell? ⟨gb286, 3, none⟩ = some (.int .i64 0) := (blk_cell BK286.out 3).trans rfl
        have hcz14_4 : w6.cell? ⟨gb286, 4, none⟩ = some (.int .i64 0) := (blk_cell BK286.out 4).trans rfl
        have hcz14_5 : w6.cell? ⟨gb286, 5, none⟩ = some (.int .i64 0) := (blk_cell BK286.out 5).trans rfl
        have hcz14_6 : w6.cell? ⟨gb286, 6, none⟩ = some (.int .i64 0) := (blk_cell BK286.out 6).trans rfl
        have hcz14_7 : w6.cell? ⟨gb286, 7, none⟩ = some (.int .i64 0) := (blk_cell BK286.out 7).trans rfl
        have hcz14_8 : w6.cell? ⟨gb286, 8, none⟩ = some (.bool false) := (blk_cell BK286.out 8).trans rfl
        have hcz14_9 : w6.cell? ⟨gb286, 9, none⟩ = some (.bool false) := (blk_cell BK286.out 9).trans rfl
        have hfz14_0 := blk_frozen BK286.out 0
        have hfz14_1 := blk_frozen BK286.out 1
        have hfz14_2 := blk_frozen BK286.out 2
        have hfz14_3 := blk_frozen BK286.out 3
        have hfz14_4 := blk_frozen BK286.out 4
        have hfz14_5 := blk_frozen BK286.out 5
        have hfz14_6 := blk_frozen BK286.out 6
        have hfz14_7 := blk_frozen BK286.out 7
        have hfz14_8 := blk_frozen BK286.out 8
        have hfz14_9 := blk_frozen BK286.out 9
        go_wp2
        go_meet
        case rel => exact ⟨_, (t276), (t277), (t278), (16), (0), (0), (t282), H', ⟨by first | omega | exact Nat.le_refl _⟩, ⟨by (with_reducible repeat (first | refine blk_drewN ?_ _ | refine blk_drew ?_ | refine blk_alloc ?_ _)); refine blk_far ?_ NB275_286.out _; (with_reducible repeat (first | refine blk_drewN ?_ _ | refine blk_drew ?_ | refine blk_alloc ?_ _)); refine blk_far ?_ NB275_286.out _; (with_reducible repeat (first | refine blk_drewN ?_ _ | refine blk_drew ?_ | refine blk_alloc ?_ _)); refine blk_far ?_ NB275_286.out _; (with_reducible repeat (first | refine blk_drewN ?_ _ | refine blk_drew ?_ | refine blk_alloc ?_ _)); refine blk_far ?_ NB275_286.out _; (with_reducible repeat (first | refine blk_drewN ?_ _ | refine blk_drew ?_ | refine blk_alloc ?_ _)); refine blk_far ?_ NB275_286.out _; (with_reducible repeat (first | refine blk_drewN ?_ _ | refine blk_drew ?_ | refine blk_alloc ?_ _)); refine blk_far ?_ NB275_286.out _; (with_reducible repeat (first | refine blk_drewN ?_ _ | refine blk_drew ?_ | refine blk_alloc ?_ _)); refine blk_far ?_ NB275_286.out _; (with_reducible repeat (first | refine blk_drewN ?_ _ | refine blk_drew ?_ | refine blk_alloc ?_ _)); refine blk_far ?_ NB275_286.out _; (with_reducible repeat (first | refine blk_drewN ?_ _ | refine blk_drew ?_ | refine blk_alloc ?_ _)); refine blk_far ?_ NB275_286.out _; (with_reducible repeat (first | refine blk_drewN ?_ _ | refine blk_drew ?_ | refine blk_alloc ?_ _)); refine blk_far ?_ NB275_286.out _; (with_reducible repeat (first | refine blk_drewN ?_ _ | refine blk_drew ?_ | refine blk_alloc ?_ _)); refine blk_far ?_ NB275_286.out _; (with_reducible repeat (first | refine blk_drewN ?_ _ | refine blk_drew ?_ | refine blk_alloc ?_ _)); refine blk_far ?_ NB275_286.out _; (with_reducible repeat (first | refine blk_drewN ?_ _ | refine blk_drew ?_ | refine blk_alloc ?_ _)); refine blk_far ?_ NB275_286.out _; (with_reducible repeat (first | refine blk_drewN ?_ _ | refine blk_drew ?_ | refine blk_alloc ?_ _)); exact BK275.out⟩, ⟨by (with_reducible repeat (first | refine blk_drewN ?_ _ | refine blk_drew ?_ | refine blk_alloc ?_ _)); refine blk_put (cs := #[.int .i64 t276, .int .i64 t277, .int .i64 t278, .int .i64 16, .int .i64 0, .int .i64 t281, .int .i64 t282, .int .i64 t283, .bool t284, .bool t285]) ?_ 5 _ rfl; (with_reducible repeat (first | refine blk_drewN ?_ _ | refine blk_drew ?_ | refine blk_alloc ?_ _)); refine blk_put (cs := #[.int .i64 t276, .int .i64 t277, .int .i64 t278, .int .i64 16, .int .i64 t280, .int .i64 t281, .int .i64 t282, .int .i64 t283, .bool t284, .bool t285]) ?_ 4 _ rfl; (with_reducible repeat (first | refine blk_drewN ?_ _ | refine blk_drew ?_ | refine blk_alloc ?_ _)); refine blk_put (cs := #[.int .i64 t276, .int .i64 t277, .int .i64 t278, .int .i64 t279, .int .i64 t280, .int .i64 t281, .int .i64 t282, .int .i64 t283, .bool t284, .bool t285]) ?_ 3 _ rfl; (with_reducible repeat (first | refine blk_drewN ?_ _ | refine blk_drew ?_ | refine blk_alloc ?_ _)); refine blk_put (cs := #[.int .i64 t276, .int .i64 t277, .int .i64 t278, .int .i64 t279, .int .i64 t280, .int .i64 t281, .int .i64 t282, .int .i64 t283, .bool t284, .bool false]) ?_ 9 _ rfl; (with_reducible repeat (first | refine blk_drewN ?_ _ | refine blk_drew ?_ | refine blk_alloc ?_ _)); refine blk_put (cs := #[.int .i64 t276, .int .i64 t277, .int .i64 t278, .int .i64 t279, .int .i64 t280, .int .i64 t281, .int .i64 t282, .int .i64 t283, .bool false, .bool false]) ?_ 8 _ rfl; (with_reducible repeat (first | refine blk_drewN ?_ _ | refine blk_drew ?_ | refine blk_alloc ?_ _)); refine blk_put (cs := #[.int .i64 t276, .int .i64 t277, .int .i64 t278, .int .i64 t279, .int .i64 t280, .int .i64 t281, .int .i64 t282, .int .i64 0, .bool false, .bool false]) ?_ 7 _ rfl; (with_reducible repeat (first | refine blk_drewN ?_ _ | refine blk_drew ?_ | refine blk_alloc ?_ _)); refine blk_put (cs := #[.int .i64 t276, .int .i64 t277, .int .i64 t278, .int .i64 t279, .int .i64 t280, .int .i64 t281, .int .i64 0, .int .i64 0, .bool false, .bool false]) ?_ 6 _ rfl; (with_reducible repeat (first | refine blk_drewN ?_ _ | refine blk_drew ?_ | refine blk_alloc ?_ _)); refine blk_put (cs := #[.int .i64 t276, .int .i64 t277, .int .i64 t278, .int .i64 t279, .int .i64 t280, .int .i64 0, .int .i64 0, .int .i64 0, .bool false, .bool false]) ?_ 5 _ rfl; (with_reducible repeat (first | refine blk_drewN ?_ _ | refine blk_drew ?_ | refine blk_alloc ?_ _)); refine blk_put (cs := #[.int .i64 t276, .int .i64 t277, .int .i64 t278, .int .i64 t279, .int .i64 0, .int .i64 0, .int .i64 0, .int .i64 0, .bool false, .bool false]) ?_ 4 _ rfl; (with_reducible repeat (first | refine blk_drewN ?_ _ | refine blk_drew ?_ | refine blk_alloc ?_ _)); refine blk_put (cs := #[.int .i64 t276, .int .i64 t277, .int .i64 t278, .int .i64 0, .int .i64 0, .int .i64 0, .int .i64 0, .int .i64 0, .bool false, .bool false]) ?_ 3 _ rfl; (with_reducible repeat (first | refine blk_drewN ?_ _ | refine blk_drew ?_ | refine blk_alloc ?_ _)); refine blk_put (cs := #[.int .i64 t276, .int .i64 t277, .int .i64 0, .int .i64 0, .int .i64 0, .int .i64 0, .int .i64 0, .int .i64 0, .bool false, .bool false]) ?_ 2 _ rfl; (with_reducible repeat (first | refine blk_drewN ?_ _ | refine blk_drew ?_ | refine blk_alloc ?_ _)); refine blk_put (cs := #[.int .i64 t276, .int .i64 0, .int .i64 0, .int .i64 0, .int .i64 0, .int .i64 0, .int .i64 0, .int .i64 0, .bool false, .bool false]) ?_ 1 _ rfl; (with_reducible repeat (first | refine blk_drewN ?_ _ | refine blk_drew ?_ | refine blk_alloc ?_ _)); refine blk_put (cs := #[.int .i64 0, .int .i64 0, .int .i64 0, .int .i64 0, .int .i64 0, .int .i64 0, .int .i64 0, .int .i64 0, .bool false, .bool false]) ?_ 0 _ rfl; (with_reducible repeat (first | refine blk_drewN ?_ _ | refine blk_drew ?_ | refine blk_alloc ?_ _)); exact BK286.out⟩, ⟨by repeat (first | (with_reducible first | exact HB.out | apply below_alloc | apply pw_below_drewN | apply below_drew1 | refine below_set ?_ GE275.out | refine below_set ?_ GE286.out) | exact HB.out)⟩⟩
      · rw [if_neg c12] at H
        have c12b0 : ((Int.tmod a0 6) == 2) = false := beq_eq_false_iff_ne.mpr c12
        have c12b1 : ((Int.tmod a0 6) != 2) = true := bne_iff_ne.mpr c12
        by_cases c15 : (Int.tmod a0 6) = 3
        · rw [if_pos c15] at H
          have c15b0 : ((Int.tmod a0 6) == 3) = true := beq_iff_eq.mpr c15
          have c15b1 : ((Int.tmod a0 6) != 3) = false := bne_eq_false_iff_eq.mpr c15
          clear c15
          have H' := Aside0.mk H
          clear H
          have hnb16 := NB286_275.out
          have hnc16 := NB275_286.out
          have hcz17_0 : w6.cell? ⟨gb286, 0, none⟩ = some (.int .i64 0) := (blk_cell BK286.out 0).trans rfl
          have hcz17_1 : w6.cell? ⟨gb286, 1, none⟩ = some (.int .i64 0) := (blk_cell BK286.out 1).trans rfl
          have hcz17_2 : w6.cell? ⟨gb286, 2, none⟩ = some (.int .i64 0) := (blk_cell BK286.out 2).trans rfl
          have hcz17_3 : w6.cell? ⟨gb286, 3, none⟩ = some (.int .i64 0) := (blk_cell BK286.out 3).trans rfl
          have hcz17_4 : w6.cell? ⟨gb286, 4, none⟩ = some (.int .i64 0) := (blk_cell BK286.out 4).trans rfl
          have hcz17_5 : w6.cell? ⟨gb286, 5, none⟩ = some (.int .i64 0) := (blk_cell BK286.out 5).trans rfl
          have hcz17_6 : w6.cell? ⟨gb286, 6, none⟩ = some (.int .i64 0) := (blk_cell BK286.out 6).trans rfl
          have hcz17_7 : w6.cell? ⟨gb286, 7, none⟩ = some (.int .i64 0) := (blk_cell BK286.out 7).trans rfl
          have hcz17_8 : w6.cell? ⟨gb286, 8, none⟩ = some (.bool false) := (blk_cell BK286.out 8).trans rfl
          have hcz17_9 : w6.cell? ⟨gb286, 9, none⟩ = some (.bool false) := (blk_cell BK286.out 9).trans rfl
          have hfz17_0 := blk_frozen BK286.out 0
          have hfz17_1 := blk_frozen BK286.out 1
          have hfz17_2 := blk_frozen BK286.out 2
          have hfz17_3 := blk_frozen BK286.out 3
          have hfz17_4 := blk_frozen BK286.out 4
          have hfz17_5 := blk_frozen BK286.out 5
          have hfz17_6 := blk_frozen BK286.out 6
          have hfz17_7 := blk_frozen BK286.out 7
          have hfz17_8 := blk_frozen BK286.out 8
          have hfz17_9 := blk_frozen BK286.out 9
          go_wp2
          go_meet
          case rel => exact ⟨_, (80), (t277), (t278), (40), (t280), (t281), (1), H', ⟨by first | omega | exact Nat.le_refl _⟩, ⟨by (with_reducible repeat (first | refine blk_drewN ?_ _ | refine blk_drew ?_ | refine blk_alloc ?_ _)); refine blk_far ?_ NB275_286.out _; (with_reducible repeat (first | refine blk_drewN ?_ _ | refine blk_drew ?_ | refine blk_alloc ?_ _)); refine blk_far ?_ NB275_286.out _; (with_reducible repeat (first | refine blk_drewN ?_ _ | refine blk_drew ?_ | refine blk_alloc ?_ _)); refine blk_far ?_ NB275_286.out _; (with_reducible repeat (first | refine blk_drewN ?_ _ | refine blk_drew ?_ | refine blk_alloc ?_ _)); refine blk_far ?_ NB275_286.out _; (with_reducible repeat (first | refine blk_drewN ?_ _ | refine blk_drew ?_ | refine blk_alloc ?_ _)); refine blk_far ?_ NB275_286.out _; (with_reducible repeat (first | refine blk_drewN ?_ _ | refine blk_drew ?_ | refine blk_alloc ?_ _)); refine blk_far ?_ NB275_286.out _; (with_reducible repeat (first | refine blk_drewN ?_ _ | refine blk_drew ?_ | refine blk_alloc ?_ _)); refine blk_far ?_ NB275_286.out _; (with_reducible repeat (first | refine blk_drewN ?_ _ | refine blk_drew ?_ | refine blk_alloc ?_ _)); refine blk_far ?_ NB275_286.out _; (with_reducible repeat (first | refine blk_drewN ?_ _ | refine blk_drew ?_ | refine blk_alloc ?_ _)); refine blk_far ?_ NB275_286.out _; (with_reducible repeat (first | refine blk_drewN ?_ _ | refine blk_drew ?_ | refine blk_alloc ?_ _)); refine blk_far ?_ NB275_286.out _; (with_reducible repeat (first | refine blk_drewN ?_ _ | refine blk_drew ?_ | refine blk_alloc ?_ _)); refine blk_far ?_ NB275_286.out _; (with_reducible repeat (first | refine blk_drewN ?_ _ | refine blk_drew ?_ | refine blk_alloc ?_ _)); refine blk_far ?_ NB275_286.out _; (with_reducible repeat (first | refine blk_drewN ?_ _ | refine blk_drew ?_ | refine blk_alloc ?_ _)); refine blk_far ?_ NB275_286.out _; (with_reducible repeat (first | refine blk_drewN ?_ _ | refine blk_drew ?_ | refine blk_alloc ?_ _)); exact BK275.out⟩, ⟨by (with_reducible repeat (first | refine blk_drewN ?_ _ | refine blk_drew ?_ | refine blk_alloc ?_ _)); refine blk_put (cs := #[.int .i64 80, .int .i64 t277, .int .i64 t278, .int .i64 40, .int .i64 t280, .int .i64 t281, .int .i64 t282, .int .i64 t283, .bool t284, .bool t285]) ?_ 6 _ rfl; (with_reducible repeat (first | refine blk_drewN ?_ _ | refine blk_drew ?_ | refine blk_alloc ?_ _)); refine blk_put (cs := #[.int .i64 80, .int .i64 t277, .int .i64 t278, .int .i64 t279, .int .i64 t280, .int .i64 t281, .int .i64 t282, .int .i64 t283, .bool t284, .bool t285]) ?_ 3 _ rfl; (with_reducible repeat (first | refine blk_drewN ?_ _ | refine blk_drew ?_ | refine blk_alloc ?_ _)); refine blk_put (cs := #[.int .i64 t276, .int .i64 t277, .int .i64 t278, .int .i64 t279, .int .i64 t280, .int .i64 t281, .int .i64 t282, .int .i64 t283, .bool t284, .bool t285]) ?_ 0 _ rfl; (with_reducible repeat (first | refine blk_drewN ?_ _ | refine blk_drew ?_ | refine blk_alloc ?_ _)); refine blk_put (cs := #[.int .i64 t276, .int .i64 t277, .int .i64 t278, .int .i64 t279, .int .i64 t280, .int .i64 t281, .int .i64 t282, .int .i64 t283, .bool t284, .bool false]) ?_ 9 _ rfl; (with_reducible repeat (first | refine blk_drewN ?_ _ | refine blk_drew ?_ | refine blk_alloc ?_ _)); refine blk_put (cs := #[.int .i64 t276, .int .i64 t277, .int .i64 t278, .int .i64 t279, .int .i64 t280, .int .i64 t281, .int .i64 t282, .int .i64 t283, .bool false, .bool false]) ?_ 8 _ rfl; (with_reducible repeat (first | refine blk_drewN ?_ _ | refine blk_drew ?_ | refine blk_alloc ?_ _)); refine blk_put (cs := #[.int .i64 t276, .int .i64 t277, .int .i64 t278, .int .i64 t279, .int .i64 t280, .int .i64 t281, .int .i64 t282, .int .i64 0, .bool false, .bool false]) ?_ 7 _ rfl; (with_reducible repeat (first | refine blk_drewN ?_ _ | refine blk_drew ?_ | refine blk_alloc ?_ _)); refine blk_put (cs := #[.int .i64 t276, .int .i64 t277, .int .i64 t278, .int .i64 t279, .int .i64 t280, .int .i64 t281, .int .i64 0, .int .i64 0, .bool false, .bool false]) ?_ 6 _ rfl; (with_reducible repeat (first | refine blk_drewN ?_ _ | refine blk_drew ?_ | refine blk_alloc ?_ _)); refine blk_put (cs := #[.int .i64 t276, .int .i64 t277, .int .i64 t278, .int .i64 t279, .int .i64 t280, .int .i64 0, .int .i64 0, .int .i64 0, .bool false, .bool false]) ?_ 5 _ rfl; (with_reducible repeat (first | refine blk_drewN ?_ _ | refine blk_drew ?_ | refine blk_alloc ?_ _)); refine blk_put (cs := #[.int .i64 t276, .int .i64 t277, .int .i64 t278, .int .i64 t279, .int .i64 0, .int .i64 0, .int .i64 0, .int .i64 0, .bool false, .bool false]) ?_ 4 _ rfl; (with_reducible repeat (first | refine blk_drewN ?_ _ | refine blk_drew ?_ | refine blk_alloc ?_ _)); refine blk_put (cs := #[.int .i64 t276, .int .i64 t277, .int .i64 t278, .int .i64 0, .int .i64 0, .int .i64 0, .int .i64 0, .int .i64 0, .bool false, .bool false]) ?_ 3 _ rfl; (with_reducible repeat (first | refine blk_drewN ?_ _ | refine blk_drew ?_ | refine blk_alloc ?_ _)); refine blk_put (cs := #[.int .i64 t276, .int .i64 t277, .int .i64 0, .int .i64 0, .int .i64 0, .int .i64 0, .int .i64 0, .int .i64 0, .bool false, .bool false]) ?_ 2 _ rfl; (with_reducible repeat (first | refine blk_drewN ?_ _ | refine blk_drew ?_ | refine blk_alloc ?_ _)); refine blk_put (cs := #[.int .i64 t276, .int .i64 0, .int .i64 0, .int .i64 0, .int .i64 0, .int .i64 0, .int .i64 0, .int .i64 0, .bool false, .bool false]) ?_ 1 _ rfl; (with_reducible repeat (first | refine blk_drewN ?_ _ | refine blk_drew ?_ | refine blk_alloc ?_ _)); refine blk_put (cs := #[.int .i64 0, .int .i64 0, .int .i64 0, .int .i64 0, .int .i64 0, .int .i64 0, .int .i64 0, .int .i64 0, .bool false, .bool false]) ?_ 0 _ rfl; (with_reducible repeat (first | refine blk_drewN ?_ _ | refine blk_drew ?_ | refine blk_alloc ?_ _)); exact BK286.out⟩, ⟨by repeat (first | (with_reducible first | exact HB.out | apply below_alloc | apply pw_below_drewN | apply below_drew1 | refine below_set ?_ GE275.out | refine below_set ?_ GE286.out) | exact HB.out)⟩⟩
        · rw [if_neg c15] at H
          have c15b0 : ((Int.tmod a0 6) == 3) = false := beq_eq_false_iff_ne.mpr c15
          have c15b1 : ((Int.tmod a0 6) != 3) = true := bne_iff_ne.mpr c15
          have H' := Aside0.mk H
          clear H
          go_wp2
          go_meet
          case rel => exact ⟨_, (t276), (t277), (t278), (t279), (t280), (t281), (t282), H', ⟨by first | omega | exact Nat.le_refl _⟩, ⟨by (with_reducible repeat (first | refine blk_drewN ?_ _ | refine blk_drew ?_ | refine blk_alloc ?_ _)); refine blk_far ?_ NB275_286.out _; (with_reducible repeat (first | refine blk_drewN ?_ _ | refine blk_drew ?_ | refine blk_alloc ?_ _)); refine blk_far ?_ NB275_286.out _; (with_reducible repeat (first | refine blk_drewN ?_ _ | refine blk_drew ?_ | refine blk_alloc ?_ _)); refine blk_far ?_ NB275_286.out _; (with_reducible repeat (first | refine blk_drewN ?_ _ | refine blk_drew ?_ | refine blk_alloc ?_ _)); refine blk_far ?_ NB275_286.out _; (with_reducible repeat (first | refine blk_drewN ?_ _ | refine blk_drew ?_ | refine blk_alloc ?_ _)); refine blk_far ?_ NB275_286.out _; (with_reducible repeat (first | refine blk_drewN ?_ _ | refine blk_drew ?_ | refine blk_alloc ?_ _)); refine blk_far ?_ NB275_286.out _; (with_reducible repeat (first | refine blk_drewN ?_ _ | refine blk_drew ?_ | refine blk_alloc ?_ _)); refine blk_far ?_ NB275_286.out _; (with_reducible repeat (first | refine blk_drewN ?_ _ | refine blk_drew ?_ | refine blk_alloc ?_ _)); refine blk_far ?_ NB275_286.out _; (with_reducible repeat (first | refine blk_drewN ?_ _ | refine blk_drew ?_ | refine blk_alloc ?_ _)); refine blk_far ?_ NB275_286.out _; (with_reducible repeat (first | refine blk_drewN ?_ _ | refine blk_drew ?_ | refine blk_alloc ?_ _)); refine blk_far ?_ NB275_286.out _; (with_reducible repeat (first | refine blk_drewN ?_ _ | refine blk_drew ?_ | refine blk_alloc ?_ _)); exact BK275.out⟩, ⟨by (with_reducible repeat (first | refine blk_drewN ?_ _ | refine blk_drew ?_ | refine blk_alloc ?_ _)); refine blk_put (cs := #[.int .i64 t276, .int .i64 t277, .int .i64 t278, .int .i64 t279, .int .i64 t280, .int .i64 t281, .int .i64 t282, .int .i64 t283, .bool t284, .bool false]) ?_ 9 _ rfl; (with_reducible repeat (first | refine blk_drewN ?_ _ | refine blk_drew ?_ | refine blk_alloc ?_ _)); refine blk_put (cs := #[.int .i64 t276, .int .i64 t277, .int .i64 t278, .int .i64 t279, .int .i64 t280, .int .i64 t281, .int .i64 t282, .int .i64 t283, .bool false, .bool false]) ?_ 8 _ rfl; (with_reducible repeat (first | refine blk_drewN ?_ _ | refine blk_drew ?_ | refine blk_alloc ?_ _)); refine blk_put (cs := #[.int .i64 t276, .int .i64 t277, .int .i64 t278, .int .i64 t279, .int .i64 t280, .int .i64 t281, .int .i64 t282, .int .i64 0, .bool false, .bool false]) ?_ 7 _ rfl; (with_reducible repeat (first | refine blk_drewN ?_ _ | refine blk_drew ?_ | refine blk_alloc ?_ _)); refine blk_put (cs := #[.int .i64 t276, .int .i64 t277, .int .i64 t278, .int .i64 t279, .int .i64 t280, .int .i64 t281, .int .i64 0, .int .i64 0, .bool false, .bool false]) ?_ 6 _ rfl; (with_reducible repeat (first | refine blk_drewN ?_ _ | refine blk_drew ?_ | refine blk_alloc ?_ _)); refine blk_put (cs := #[.int .i64 t276, .int .i64 t277, .int .i64 t278, .int .i64 t279, .int .i64 t280, .int .i64 0, .int .i64 0, .int .i64 0, .bool false, .bool false]) ?_ 5 _ rfl; (with_reducible repeat (first | refine blk_drewN ?_ _ | refine blk_drew ?_ | refine blk_alloc ?_ _)); refine blk_put (cs := #[.int .i64 t276, .int .i64 t277, .int .i64 t278, .int .i64 t279, .int .i64 0, .int .i64 0, .int .i64 0, .int .i64 0, .bool false, .bool false]) ?_ 4 _ rfl; (with_reducible repeat (first | refine blk_drewN ?_ _ | refine blk_drew ?_ | refine blk_alloc ?_ _)); refine blk_put (cs := #[.int .i64 t276, .int .i64 t277, .int .i64 t278, .int .i64 0, .int .i64 0, .int .i64 0, .int .i64 0, .int .i64 0, .bool false, .bool false]) ?_ 3 _ rfl; (with_reducible repeat (first | refine blk_drewN ?_ _ | refine blk_drew ?_ | refine blk_alloc ?_ _)); refine blk_put (cs := #[.int .i64 t276, .int .i64 t277, .int .i64 0, .int .i64 0, .int .i64 0, .int .i64 0, .int .i64 0, .int .i64 0, .bool false, .bool false]) ?_ 2 _ rfl; (with_reducible repeat (first | refine blk_drewN ?_ _ | refine blk_drew ?_ | refine blk_alloc ?_ _)); refine blk_put (cs := #[.int .i64 t276, .int .i64 0, .int .i64 0, .int .i64 0, .int .i64 0, .int .i64 0, .int .i64 0, .int .i64 0, .bool false, .bool false]) ?_ 1 _ rfl; (with_reducible repeat (first | refine blk_drewN ?_ _ | refine blk_drew ?_ | refine blk_alloc ?_ _)); refine blk_put (cs := #[.int .i64 0, .int .i64 0, .int .i64 0, .int .i64 0, .int .i64 0, .int .i64 0, .int .i64 0, .int .i64 0, .bool false, .bool false]) ?_ 0 _ rfl; (with_reducible repeat (first | refine blk_drewN ?_ _ | refine blk_drew ?_ | refine blk_alloc ?_ _)); exact BK286.out⟩, ⟨by repeat (first | (with_reducible first | exact HB.out | apply below_alloc | apply pw_below_drewN | apply below_drew1 | refine below_set ?_ GE275.out | refine below_set ?_ GE286.out) | exact HB.out)⟩⟩
  case rest =>
    clear HC3
    try clear c1
    try clear p2
    try clear c7
    try clear c9
    try clear c9b0
    try clear c9b1
    try clear c10
    try clear c12
    try clear c12b0
    try clear c12b1
    try clear c13
    try clear c15
    try clear c15b0
    try clear c15b1
    try clear c16
    try clear c17
    try clear hcz11_0
    try clear hcz11_1
    try clear hcz11_2
    try clear hcz11_3
    try clear hcz11_4
    try clear hcz11_5
    try clear hcz11_6
    try clear hcz11_7
    try clear hcz11_8
    try clear hcz11_9
    try clear hcz14_0
    try clear hcz14_1
    try clear hcz14_2
    try clear hcz14_3
    try clear hcz14_4
    try clear hcz14_5
    try clear hcz14_6
    try clear hcz14_7
    try clear hcz14_8
    try clear hcz14_9
    try clear hcz17_0
    try clear hcz17_1
    try clear hcz17_2
    try clear hcz17_3
    try clear hcz17_4
    try clear hcz17_5
    try clear hcz17_6
    try clear hcz17_7
    try clear hcz17_8
    try clear hcz17_9
    try clear hcz8_0
    try clear hcz8_1
    try clear hcz8_2
    try clear hcz8_3
    try clear hcz8_4
    try clear hcz8_5
    try clear hcz8_6
    try clear hcz8_7
    try clear hcz8_8
    try clear hcz8_9
    try clear hfz11_0
    try clear hfz11_1
    try clear hfz11_2
    try clear hfz11_3
    try clear hfz11_4
    try clear hfz11_5
    try clear hfz11_6
    try clear hfz11_7
    try clear hfz11_8
    try clear hfz11_9
    try clear hfz14_0
    try clear hfz14_1
    try clear hfz14_2
    try clear hfz14_3
    try clear hfz14_4
    try clear hfz14_5
    try clear hfz14_6
    try clear hfz14_7
    try clear hfz14_8
    try clear hfz14_9
    try clear hfz17_0
    try clear hfz17_1
    try clear hfz17_2
    try clear hfz17_3
    try clear hfz17_4
    try clear hfz17_5
    try clear hfz17_6
    try clear hfz17_7
    try clear hfz17_8
    try clear hfz17_9
    try clear hfz8_0
    try clear hfz8_1
    try clear hfz8_2
    try clear hfz8_3
    try clear hfz8_4
    try clear hfz8_5
    try clear hfz8_6
    try clear hfz8_7
    try clear hfz8_8
    try clear hfz8_9
    obtain ⟨kq, x287000_2, x287001_2, x287002_2, x287003_2, x287004_2, x287005_2, x287006_2, HA, HJ2, BK275, BK286, HB⟩ := hcut
    cases kq with
    | zero => exact absurd HA.out (by simp [parallaxseat_Bounds.j0])
    | succ kj2 =>
      have H := HA.out
      clear HA
      simp only [parallaxseat_Bounds.j0] at H
      by_cases c18 : (Int.tmod a0 8) = 7
      · rw [if_pos c18] at H
        have c18b0 : ((Int.tmod a0 8) == 7) = true := beq_iff_eq.mpr c18
        have c18b1 : ((Int.tmod a0 8) != 7) = false := bne_eq_false_iff_eq.mpr c18
        clear c18
        by_cases c19 : (Int.tmod a0 16) > 12
        · rw [if_pos c19] at H
          have c19b0 : decide (12 < (Int.tmod a0 16)) = true := decide_eq_true c19
          clear c19
          simp only [Option.some.injEq, Prod.mk.injEq] at H
          obtain ⟨rfl, rfl, rfl, rfl, rfl, rfl, rfl, rfl, rfl, rfl⟩ := H
          have hnb20 := NB286_275.out
          have hnc20 := NB275_286.out
          have hcz21_0 : wc.cell? ⟨gb286, 0, none⟩ = some (.int .i64 x287000_2) := (blk_cell BK286.out 0).trans rfl
          have hcz21_1 : wc.cell? ⟨gb286, 1, none⟩ = some (.int .i64 x287001_2) := (blk_cell BK286.out 1).trans rfl
          have hcz21_2 : wc.cell? ⟨gb286, 2, none⟩ = some (.int .i64 x287002_2) := (blk_cell BK286.out 2).trans rfl
          have hcz21_3 : wc.cell? ⟨gb286, 3, none⟩ = some (.int .i64 x287003_2) := (blk_cell BK286.out 3).trans rfl
          have hcz21_4 : wc.cell? ⟨gb286, 4, none⟩ = some (.int .i64 x287004_2) := (blk_cell BK286.out 4).trans rfl
          have hcz21_5 : wc.cell? ⟨gb286, 5, none⟩ = some (.int .i64 x287005_2) := (blk_cell BK286.out 5).trans rfl
          have hcz21_6 : wc.cell? ⟨gb286, 6, none⟩ = some (.int .i64 x287006_2) := (blk_cell BK286.out 6).trans rfl
          have hcz21_7 : wc.cell? ⟨gb286, 7, none⟩ = some (.int .i64 t283) := (blk_cell BK286.out 7).trans rfl
          have hcz21_8 : wc.cell? ⟨gb286, 8, none⟩ = some (.bool t284) := (blk_cell BK286.out 8).trans rfl
          have hcz21_9 : wc.cell? ⟨gb286, 9, none⟩ = some (.bool t285) := (blk_cell BK286.out 9).trans rfl
          have hfz21_0 := blk_frozen BK286.out 0
          have hfz21_1 := blk_frozen BK286.out 1
          have hfz21_2 := blk_frozen BK286.out 2
          have hfz21_3 := blk_frozen BK286.out 3
          have hfz21_4 := blk_frozen BK286.out 4
          have hfz21_5 := blk_frozen BK286.out 5
          have hfz21_6 := blk_frozen BK286.out 6
          have hfz21_7 := blk_frozen BK286.out 7
          have hfz21_8 := blk_frozen BK286.out 8
          have hfz21_9 := blk_frozen BK286.out 9
          have hcz22_0 : wc.cell? ⟨gb275, 0, none⟩ = some (.int .i64 0) := (blk_cell BK275.out 0).trans rfl
          have hcz22_1 : wc.cell? ⟨gb275, 1, none⟩ = some (.int .i64 0) := (blk_cell BK275.out 1).trans rfl
          have hcz22_2 : wc.cell? ⟨gb275, 2, none⟩ = some (.int .i64 0) := (blk_cell BK275.out 2).trans rfl
          have hcz22_3 : wc.cell? ⟨gb275, 3, none⟩ = some (.int .i64 0) := (blk_cell BK275.out 3).trans rfl
          have hcz22_4 : wc.cell? ⟨gb275, 4, none⟩ = some (.int .i64 0) := (blk_cell BK275.out 4).trans rfl
          have hcz22_5 : wc.cell? ⟨gb275, 5, none⟩ = some (.int .i64 0) := (blk_cell BK275.out 5).trans rfl
          have hcz22_6 : wc.cell? ⟨gb275, 6, none⟩ = some (.int .i64 0) := (blk_cell BK275.out 6).trans rfl
          have hcz22_7 : wc.cell? ⟨gb275, 7, none⟩ = some (.int .i64 0) := (blk_cell BK275.out 7).trans rfl
          have hcz22_8 : wc.cell? ⟨gb275, 8, none⟩ = some (.bool false) := (blk_cell BK275.out 8).trans rfl
          have hcz22_9 : wc.cell? ⟨gb275, 9, none⟩ = some (.bool false) := (blk_cell BK275.out 9).trans rfl
          have hfz22_0 := blk_frozen BK275.out 0
          have hfz22_1 := blk_frozen BK275.out 1
          have hfz22_2 := blk_frozen BK275.out 2
          have hfz22_3 := blk_frozen BK275.out 3
          have hfz22_4 := blk_frozen BK275.out 4
          have hfz22_5 := blk_frozen BK275.out 5
          have hfz22_6 := blk_frozen BK275.out 6
          have hfz22_7 := blk_frozen BK275.out 7
          have hfz22_8 := blk_frozen BK275.out 8
          have hfz22_9 := blk_frozen BK275.out 9
          go_wp2
          refine bodyPost_ret (results_cell_row rfl _ _ gb275 28 #[.int .i64 x287000_2, .int .i64 x287001_2, .int .i64 x287002_2, .int .i64 x287003_2, .int .i64 x287004_2, .int .i64 x287005_2, .int .i64 (((Int.tdiv a0 32) % 4) + 1), .int .i64 t283, .bool false, .bool false] (0, 0) _ rfl (by (with_reducible repeat (first | refine blk_drewN ?_ _ | refine blk_drew ?_ | refine blk_alloc ?_ _)); refine blk_put (cs := #[.int .i64 x287000_2, .int .i64 x287001_2, .int .i64 x287002_2, .int .i64 x287003_2, .int .i64 x287004_2, .int .i64 x287005_2, .int .i64 (((Int.tdiv a0 32) % 4) + 1), .int .i64 t283, .bool false, .bool false]) ?_ 9 _ rfl; (with_reducible repeat (first | refine blk_drewN ?_ _ | refine blk_drew ?_ | refine blk_alloc ?_ _)); refine blk_put (cs := #[.int .i64 x287000_2, .int .i64 x287001_2, .int .i64 x287002_2, .int .i64 x287003_2, .int .i64 x287004_2, .int .i64 x287005_2, .int .i64 (((Int.tdiv a0 32) % 4) + 1), .int .i64 t283, .bool false, .bool false]) ?_ 8 _ rfl; (with_reducible repeat (first | refine blk_drewN ?_ _ | refine blk_drew ?_ | refine blk_alloc ?_ _)); refine blk_put (cs := #[.int .i64 x287000_2, .int .i64 x287001_2, .int .i64 x287002_2, .int .i64 x287003_2, .int .i64 x287004_2, .int .i64 x287005_2, .int .i64 (((Int.tdiv a0 32) % 4) + 1), .int .i64 0, .bool false, .bool false]) ?_ 7 _ rfl; (with_reducible repeat (first | refine blk_drewN ?_ _ | refine blk_drew ?_ | refine blk_alloc ?_ _)); refine blk_put (cs := #[.int .i64 x287000_2, .int .i64 x287001_2, .int .i64 x287002_2, .int .i64 x287003_2, .int .i64 x287004_2, .int .i64 x287005_2, .int .i64 0, .int .i64 0, .bool false, .bool false]) ?_ 6 _ rfl; (with_reducible repeat (first | refine blk_drewN ?_ _ | refine blk_drew ?_ | refine blk_alloc ?_ _)); refine blk_put (cs := #[.int .i64 x287000_2, .int .i64 x287001_2, .int .i64 x287002_2, .int .i64 x287003_2, .int .i64 x287004_2, .int .i64 0, .int .i64 0, .int .i64 0, .bool false, .bool false]) ?_ 5 _ rfl; (with_reducible repeat (first | refine blk_drewN ?_ _ | refine blk_drew ?_ | refine blk_alloc ?_ _)); refine blk_put (cs := #[.int .i64 x287000_2, .int .i64 x287001_2, .int .i64 x287002_2, .int .i64 x287003_2, .int .i64 0, .int .i64 0, .int .i64 0, .int .i64 0, .bool false, .bool false]) ?_ 4 _ rfl; (with_reducible repeat (first | refine blk_drewN ?_ _ | refine blk_drew ?_ | refine blk_alloc ?_ _)); refine blk_put (cs := #[.int .i64 x287000_2, .int .i64 x287001_2, .int .i64 x287002_2, .int .i64 0, .int .i64 0, .int .i64 0, .int .i64 0, .int .i64 0, .bool false, .bool false]) ?_ 3 _ rfl; (with_reducible repeat (first | refine blk_drewN ?_ _ | refine blk_drew ?_ | refine blk_alloc ?_ _)); refine blk_put (cs := #[.int .i64 x287000_2, .int .i64 x287001_2, .int .i64 0, .int .i64 0, .int .i64 0, .int .i64 0, .int .i64 0, .int .i64 0, .bool false, .bool false]) ?_ 2 _ rfl; (with_reducible repeat (first | refine blk_drewN ?_ _ | refine blk_drew ?_ | refine blk_alloc ?_ _)); refine blk_put (cs := #[.int .i64 x287000_2, .int .i64 0, .int .i64 0, .int .i64 0, .int .i64 0, .int .i64 0, .int .i64 0, .int .i64 0, .bool false, .bool false]) ?_ 1 _ rfl; (with_reducible repeat (first | refine blk_drewN ?_ _ | refine blk_drew ?_ | refine blk_alloc ?_ _)); refine blk_put (cs := #[.int .i64 0, .int .i64 0, .int .i64 0, .int .i64 0, .int .i64 0, .int .i64 0, .int .i64 0, .int .i64 0, .bool false, .bool false]) ?_ 0 _ rfl; (with_reducible repeat (first | refine blk_drewN ?_ _ | refine blk_drew ?_ | refine blk_alloc ?_ _)); refine blk_far ?_ NB275_286.out _; (with_reducible repeat (first | refine blk_drewN ?_ _ | refine blk_drew ?_ | refine blk_alloc ?_ _)); refine blk_far ?_ NB275_286.out _; (with_reducible repeat (first | refine blk_drewN ?_ _ | refine blk_drew ?_ | refine blk_alloc ?_ _)); refine blk_far ?_ NB275_286.out _; (with_reducible repeat (first | refine blk_drewN ?_ _ | refine blk_drew ?_ | refine blk_alloc ?_ _)); exact BK275.out) Tryd.underlying28 rfl (by kernel_rfl)) rfl ?_
          exact ⟨by first | rfl | (simp [errW_none, errW_some] <;> rfl) | (simp [*, errW_none, errW_some] <;> rfl), by repeat (first | (with_reducible first | exact HB.out | apply below_alloc | apply pw_below_drewN | apply below_drew1 | refine below_set ?_ GE275.out | refine below_set ?_ GE286.out) | exact HB.out)⟩
        · rw [if_neg c19] at H
          have c19b0 : decide (12 < (Int.tmod a0 16)) = false := decide_eq_false c19
          clear c19
          simp only [Option.some.injEq, Prod.mk.injEq] at H
          obtain ⟨rfl, rfl, rfl, rfl, rfl, rfl, rfl, rfl, rfl, rfl⟩ := H
          have hnb23 := NB286_275.out
          have hnc23 := NB275_286.out
          have hcz24_0 : wc.cell? ⟨gb286, 0, none⟩ = some (.int .i64 x287000_2) := (blk_cell BK286.out 0).trans rfl
          have hcz24_1 : wc.cell? ⟨gb286, 1, none⟩ = some (.int .i64 x287001_2) := (blk_cell BK286.out 1).trans rfl
          have hcz24_2 : wc.cell? ⟨gb286, 2, none⟩ = some (.int .i64 x287002_2) := (blk_cell BK286.out 2).trans rfl
          have hcz24_3 : wc.cell? ⟨gb286, 3, none⟩ = some (.int .i64 x287003_2) := (blk_cell BK286.out 3).trans rfl
          have hcz24_4 : wc.cell? ⟨gb286, 4, none⟩ = some (.int .i64 x287004_2) := (blk_cell BK286.out 4).trans rfl
          have hcz24_5 : wc.cell? ⟨gb286, 5, none⟩ = some (.int .i64 x287005_2) := (blk_cell BK286.out 5).trans rfl
          have hcz24_6 : wc.cell? ⟨gb286, 6, none⟩ = some (.int .i64 x287006_2) := (blk_cell BK286.out 6).trans rfl
          have hcz24_7 : wc.cell? ⟨gb286, 7, none⟩ = some (.int .i64 t283) := (blk_cell BK286.out 7).trans rfl
          have hcz24_8 : wc.cell? ⟨gb286, 8, none⟩ = some (.bool t284) := (blk_cell BK286.out 8).trans rfl
          have hcz24_9 : wc.cell? ⟨gb286, 9, none⟩ = some (.bool t285) := (blk_cell BK286.out 9).trans rfl
          have hfz24_0 := blk_frozen BK286.out 0
          have hfz24_1 := blk_frozen BK286.out 1
          have hfz24_2 := blk_frozen BK286.out 2
          have hfz24_3 := blk_frozen BK286.out 3
          have hfz24_4 := blk_frozen BK286.out 4
          have hfz24_5 := blk_frozen BK286.out 5
          have hfz24_6 := blk_frozen BK286.out 6
          have hfz24_7 := blk_frozen BK286.out 7
          have hfz24_8 := blk_frozen BK286.out 8
          have hfz24_9 := blk_frozen BK286.out 9
          have hcz25_0 : wc.cell? ⟨gb275, 0, none⟩ = some (.int .i64 0) := (blk_cell BK275.out 0).trans rfl
          have hcz25_1 : wc.cell? ⟨gb275, 1, none⟩ = some (.int .i64 0) := (blk_cell BK275.out 1).trans rfl
          have hcz25_2 : wc.cell? ⟨gb275, 2, none⟩ = some (.int .i64 0) := (blk_cell BK275.out 2).trans rfl
          have hcz25_3 : wc.cell? ⟨gb275, 3, none⟩ = some (.int .i64 0) := (blk_cell BK275.out 3).trans rfl
          have hcz25_4 : wc.cell? ⟨gb275, 4, none⟩ = some (.int .i64 0) := (blk_cell BK275.out 4).trans rfl
          have hcz25_5 : wc.cell? ⟨gb275, 5, none⟩ = some (.int .i64 0) := (blk_cell BK275.out 5).trans rfl
          have hcz25_6 : wc.cell? ⟨gb275, 6, none⟩ = some (.int .i64 0) := (blk_cell BK275.out 6).trans rfl
          have hcz25_7 : wc.cell? ⟨gb275, 7, none⟩ = some (.int .i64 0) := (blk_cell BK275.out 7).trans rfl
          have hcz25_8 : wc.cell? ⟨gb275, 8, none⟩ = some (.bool false) := (blk_cell BK275.out 8).trans rfl
          have hcz25_9 : wc.cell? ⟨gb275, 9, none⟩ = some (.bool false) := (blk_cell BK275.out 9).trans rfl
          have hfz25_0 := blk_frozen BK275.out 0
          have hfz25_1 := blk_frozen BK275.out 1
          have hfz25_2 := blk_frozen BK275.out 2
          have hfz25_3 := blk_frozen BK275.out 3
          have hfz25_4 := blk_frozen BK275.out 4
          have hfz25_5 := blk_frozen BK275.out 5
          have hfz25_6 := blk_frozen BK275.out 6
          have hfz25_7 := blk_frozen BK275.out 7
          have hfz25_8 := blk_frozen BK275.out 8
          have hfz25_9 := blk_frozen BK275.out 9
          go_wp2
          refine bodyPost_ret (results_cell_row rfl _ _ gb275 28 #[.int .i64 x287000_2, .int .i64 x287001_2, .int .i64 x287002_2, .int .i64 x287003_2, .int .i64 x287004_2, .int .i64 x287005_2, .int .i64 (((Int.tdiv a0 32) % 4) + 1), .int .i64 t283, .bool false, .bool t285] (0, 0) _ rfl (by (with_reducible repeat (first | refine blk_drewN ?_ _ | refine blk_drew ?_ | refine blk_alloc ?_ _)); refine blk_put (cs := #[.int .i64 x287000_2, .int .i64 x287001_2, .int .i64 x287002_2, .int .i64 x287003_2, .int .i64 x287004_2, .int .i64 x287005_2, .int .i64 (((Int.tdiv a0 32) % 4) + 1), .int .i64 t283, .bool false, .bool false]) ?_ 9 _ rfl; (with_reducible repeat (first | refine blk_drewN ?_ _ | refine blk_drew ?_ | refine blk_alloc ?_ _)); refine blk_put (cs := #[.int .i64 x287000_2, .int .i64 x287001_2, .int .i64 x287002_2, .int .i64 x287003_2, .int .i64 x287004_2, .int .i64 x287005_2, .int .i64 (((Int.tdiv a0 32) % 4) + 1), .int .i64 t283, .bool false, .bool false]) ?_ 8 _ rfl; (with_reducible repeat (first | refine blk_drewN ?_ _ | refine blk_drew ?_ | refine blk_alloc ?_ _)); refine blk_put (cs := #[.int .i64 x287000_2, .int .i64 x287001_2, .int .i64 x287002_2, .int .i64 x287003_2, .int .i64 x287004_2, .int .i64 x287005_2, .int .i64 (((Int.tdiv a0 32) % 4) + 1), .int .i64 0, .bool false, .bool false]) ?_ 7 _ rfl; (with_reducible repeat (first | refine blk_drewN ?_ _ | refine blk_drew ?_ | refine blk_alloc ?_ _)); refine blk_put (cs := #[.int .i64 x287000_2, .int .i64 x287001_2, .int .i64 x287002_2, .int .i64 x287003_2, .int .i64 x287004_2, .int .i64 x287005_2, .int .i64 0, .int .i64 0, .bool false, .bool false]) ?_ 6 _ rfl; (with_reducible repeat (first | refine blk_drewN ?_ _ | refine blk_drew ?_ | refine blk_alloc ?_ _)); refine blk_put (cs := #[.int .i64 x287000_2, .int .i64 x287001_2, .int .i64 x287002_2, .int .i64 x287003_2, .int .i64 x287004_2, .int .i64 0, .int .i64 0, .int .i64 0, .bool false, .bool false]) ?_ 5 _ rfl; (with_reducible repeat (first | refine blk_drewN ?_ _ | refine blk_drew ?_ | refine blk_alloc ?_ _)); refine blk_put (cs := #[.int .i64 x287000_2, .int .i64 x287001_2, .int .i64 x287002_2, .int .i64 x287003_2, .int .i64 0, .int .i64 0, .int .i64 0, .int .i64 0, .bool false, .bool false]) ?_ 4 _ rfl; (with_reducible repeat (first | refine blk_drewN ?_ _ | refine blk_drew ?_ | refine blk_alloc ?_ _)); refine blk_put (cs := #[.int .i64 x287000_2, .int .i64 x287001_2, .int .i64 x287002_2, .int .i64 0, .int .i64 0, .int .i64 0, .int .i64 0, .int .i64 0, .bool false, .bool false]) ?_ 3 _ rfl; (with_reducible repeat (first | refine blk_drewN ?_ _ | refine blk_drew ?_ | refine blk_alloc ?_ _)); refine blk_put (cs := #[.int .i64 x287000_2, .int .i64 x287001_2, .int .i64 0, .int .i64 0, .int .i64 0, .int .i64 0, .int .i64 0, .int .i64 0, .bool false, .bool false]) ?_ 2 _ rfl; (with_reducible repeat (first | refine blk_drewN ?_ _ | refine blk_drew ?_ | refine blk_alloc ?_ _)); refine blk_put (cs := #[.int .i64 x287000_2, .int .i64 0, .int .i64 0, .int .i64 0, .int .i64 0, .int .i64 0, .int .i64 0, .int .i64 0, .bool false, .bool false]) ?_ 1 _ rfl; (with_reducible repeat (first | refine blk_drewN ?_ _ | refine blk_drew ?_ | refine blk_alloc ?_ _)); refine blk_put (cs := #[.int .i64 0, .int .i64 0, .int .i64 0, .int .i64 0, .int .i64 0, .int .i64 0, .int .i64 0, .int .i64 0, .bool false, .bool false]) ?_ 0 _ rfl; (with_reducible repeat (first | refine blk_drewN ?_ _ | refine blk_drew ?_ | refine blk_alloc ?_ _)); refine blk_far ?_ NB275_286.out _; (with_reducible repeat (first | refine blk_drewN ?_ _ | refine blk_drew ?_ | refine blk_alloc ?_ _)); refine blk_far ?_ NB275_286.out _; (with_reducible repeat (first | refine blk_drewN ?_ _ | refine blk_drew ?_ | refine blk_alloc ?_ _)); exact BK275.out) Tryd.underlying28 rfl (by kernel_rfl)) rfl ?_
          exact ⟨by first | rfl | (simp [errW_none, errW_some] <;> rfl) | (simp [*, errW_none, errW_some] <;> rfl), by repeat (first | (with_reducible first | exact HB.out | apply below_alloc | apply pw_below_drewN | apply below_drew1 | refine below_set ?_ GE275.out | refine below_set ?_ GE286.out) | exact HB.out)⟩
      · rw [if_neg c18] at H
        have c18b0 : ((Int.tmod a0 8) == 7) = false := beq_eq_false_iff_ne.mpr c18
        have c18b1 : ((Int.tmod a0 8) != 7) = true := bne_iff_ne.mpr c18
        by_cases c26 : (Int.tmod a0 16) > 12
        · rw [if_pos c26] at H
          have c26b0 : decide (12 < (Int.tmod a0 16)) = true := decide_eq_true c26
          clear c26
          simp only [Option.some.injEq, Prod.mk.injEq] at H
          obtain ⟨rfl, rfl, rfl, rfl, rfl, rfl, rfl, rfl, rfl, rfl⟩ := H
          have hnb27 := NB286_275.out
          have hnc27 := NB275_286.out
          have hcz28_0 : wc.cell? ⟨gb286, 0, none⟩ = some (.int .i64 x287000_2) := (blk_cell BK286.out 0).trans rfl
          have hcz28_1 : wc.cell? ⟨gb286, 1, none⟩ = some (.int .i64 x287001_2) := (blk_cell BK286.out 1).trans rfl
          have hcz28_2 : wc.cell? ⟨gb286, 2, none⟩ = some (.int .i64 x287002_2) := (blk_cell BK286.out 2).trans rfl
          have hcz28_3 : wc.cell? ⟨gb286, 3, none⟩ = some (.int .i64 x287003_2) := (blk_cell BK286.out 3).trans rfl
          have hcz28_4 : wc.cell? ⟨gb286, 4, none⟩ = some (.int .i64 x287004_2) := (blk_cell BK286.out 4).trans rfl
          have hcz28_5 : wc.cell? ⟨gb286, 5, none⟩ = some (.int .i64 x287005_2) := (blk_cell BK286.out 5).trans rfl
          have hcz28_6 : wc.cell? ⟨gb286, 6, none⟩ = some (.int .i64 x287006_2) := (blk_cell BK286.out 6).trans rfl
          have hcz28_7 : wc.cell? ⟨gb286, 7, none⟩ = some (.int .i64 t283) := (blk_cell BK286.out 7).trans rfl
          have hcz28_8 : wc.cell? ⟨gb286, 8, none⟩ = some (.bool t284) := (blk_cell BK286.out 8).trans rfl
          have hcz28_9 : wc.cell? ⟨gb286, 9, none⟩ = some (.bool t285) := (blk_cell BK286.out 9).trans rfl
          have hfz28_0 := blk_frozen BK286.out 0
          have hfz28_1 := blk_frozen BK286.out 1
          have hfz28_2 := blk_frozen BK286.out 2
          have hfz28_3 := blk_frozen BK286.out 3
          have hfz28_4 := blk_frozen BK286.out 4
          have hfz28_5 := blk_frozen BK286.out 5
          have hfz28_6 := blk_frozen BK286.out 6
          have hfz28_7 := blk_frozen BK286.out 7
          have hfz28_8 := blk_frozen BK286.out 8
          have hfz28_9 := blk_frozen BK286.out 9
          have hcz29_0 : wc.cell? ⟨gb275, 0, none⟩ = some (.int .i64 0) := (blk_cell BK275.out 0).trans rfl
          have hcz29_1 : wc.cell? ⟨gb275, 1, none⟩ = some (.int .i64 0) := (blk_cell BK275.out 1).trans rfl
          have hcz29_2 : wc.cell? ⟨gb275, 2, none⟩ = some (.int .i64 0) := (blk_cell BK275.out 2).trans rfl
          have hcz29_3 : wc.cell? ⟨gb275, 3, none⟩ = some (.int .i64 0) := (blk_cell BK275.out 3).trans rfl
          have hcz29_4 : wc.cell? ⟨gb275, 4, none⟩ = some (.int .i64 0) := (blk_cell BK275.out 4).trans rfl
          have hcz29_5 : wc.cell? ⟨gb275, 5, none⟩ = some (.int .i64 0) := (blk_cell BK275.out 5).trans rfl
          have hcz29_6 : wc.cell? ⟨gb275, 6, none⟩ = some (.int .i64 0) := (blk_cell BK275.out 6).trans rfl
          have hcz29_7 : wc.cell? ⟨gb275, 7, none⟩ = some (.int .i64 0) := (blk_cell BK275.out 7).trans rfl
          have hcz29_8 : wc.cell? ⟨gb275, 8, none⟩ = some (.bool false) := (blk_cell BK275.out 8).trans rfl
          have hcz29_9 : wc.cell? ⟨gb275, 9, none⟩ = some (.bool false) := (blk_cell BK275.out 9).trans rfl
          have hfz29_0 := blk_frozen BK275.out 0
          have hfz29_1 := blk_frozen BK275.out 1
          have hfz29_2 := blk_frozen BK275.out 2
          have hfz29_3 := blk_frozen BK275.out 3
          have hfz29_4 := blk_frozen BK275.out 4
          have hfz29_5 := blk_frozen BK275.out 5
          have hfz29_6 := blk_frozen BK275.out 6
          have hfz29_7 := blk_frozen BK275.out 7
          have hfz29_8 := blk_frozen BK275.out 8
          have hfz29_9 := blk_frozen BK275.out 9
          go_wp2
          refine bodyPost_ret (results_cell_row rfl _ _ gb275 28 #[.int .i64 x287000_2, .int .i64 x287001_2, .int .i64 x287002_2, .int .i64 x287003_2, .int .i64 x287004_2, .int .i64 x287005_2, .int .i64 (((Int.tdiv a0 32) % 4) + 1), .int .i64 t283, .bool t284, .bool false] (0, 0) _ rfl (by (with_reducible repeat (first | refine blk_drewN ?_ _ | refine blk_drew ?_ | refine blk_alloc ?_ _)); refine blk_put (cs := #[.int .i64 x287000_2, .int .i64 x287001_2, .int .i64 x287002_2, .int .i64 x287003_2, .int .i64 x287004_2, .int .i64 x287005_2, .int .i64 (((Int.tdiv a0 32) % 4) + 1), .int .i64 t283, .bool t284, .bool false]) ?_ 9 _ rfl; (with_reducible repeat (first | refine blk_drewN ?_ _ | refine blk_drew ?_ | refine blk_alloc ?_ _)); refine blk_put (cs := #[.int .i64 x287000_2, .int .i64 x287001_2, .int .i64 x287002_2, .int .i64 x287003_2, .int .i64 x287004_2, .int .i64 x287005_2, .int .i64 (((Int.tdiv a0 32) % 4) + 1), .int .i64 t283, .bool false, .bool false]) ?_ 8 _ rfl; (with_reducible repeat (first | refine blk_drewN ?_ _ | refine blk_drew ?_ | refine blk_alloc ?_ _)); refine blk_put (cs := #[.int .i64 x287000_2, .int .i64 x287001_2, .int .i64 x287002_2, .int .i64 x287003_2, .int .i64 x287004_2, .int .i64 x287005_2, .int .i64 (((Int.tdiv a0 32) % 4) + 1), .int .i64 0, .bool false, .bool false]) ?_ 7 _ rfl; (with_reducible repeat (first | refine blk_drewN ?_ _ | refine blk_drew ?_ | refine blk_alloc ?_ _)); refine blk_put (cs := #[.int .i64 x287000_2, .int .i64 x287001_2, .int .i64 x287002_2, .int .i64 x287003_2, .int .i64 x287004_2, .int .i64 x287005_2, .int .i64 0, .int .i64 0, .bool false, .bool false]) ?_ 6 _ rfl; (with_reducible repeat (first | refine blk_drewN ?_ _ | refine blk_drew ?_ | refine blk_alloc ?_ _)); refine blk_put (cs := #[.int .i64 x287000_2, .int .i64 x287001_2, .int .i64 x287002_2, .int .i64 x287003_2, .int .i64 x287004_2, .int .i64 0, .int .i64 0, .int .i64 0, .bool false, .bool false]) ?_ 5 _ rfl; (with_reducible repeat (first | refine blk_drewN ?_ _ | refine blk_drew ?_ | refine blk_alloc ?_ _)); refine blk_put (cs := #[.int .i64 x287000_2, .int .i64 x287001_2, .int .i64 x287002_2, .int .i64 x287003_2, .int .i64 0, .int .i64 0, .int .i64 0, .int .i64 0, .bool false, .bool false]) ?_ 4 _ rfl; (with_reducible repeat (first | refine blk_drewN ?_ _ | refine blk_drew ?_ | refine blk_alloc ?_ _)); refine blk_put (cs := #[.int .i64 x287000_2, .int .i64 x287001_2, .int .i64 x287002_2, .int .i64 0, .int .i64 0, .int .i64 0, .int .i64 0, .int .i64 0, .bool false, .bool false]) ?_ 3 _ rfl; (with_reducible repeat (first | refine blk_drewN ?_ _ | refine blk_drew ?_ | refine blk_alloc ?_ _)); refine blk_put (cs := #[.int .i64 x287000_2, .int .i64 x287001_2, .int .i64 0, .int .i64 0, .int .i64 0, .int .i64 0, .int .i64 0, .int .i64 0, .bool false, .bool false]) ?_ 2 _ rfl; (with_reducible repeat (first | refine blk_drewN ?_ _ | refine blk_drew ?_ | refine blk_alloc ?_ _)); refine blk_put (cs := #[.int .i64 x287000_2, .int .i64 0, .int .i64 0, .int .i64 0, .int .i64 0, .int .i64 0, .int .i64 0, .int .i64 0, .bool false, .bool false]) ?_ 1 _ rfl; (with_reducible repeat (first | refine blk_drewN ?_ _ | refine blk_drew ?_ | refine blk_alloc ?_ _)); refine blk_put (cs := #[.int .i64 0, .int .i64 0, .int .i64 0, .int .i64 0, .int .i64 0, .int .i64 0, .int .i64 0, .int .i64 0, .bool false, .bool false]) ?_ 0 _ rfl; (with_reducible repeat (first | refine blk_drewN ?_ _ | refine blk_drew ?_ | refine blk_alloc ?_ _)); refine blk_far ?_ NB275_286.out _; (with_reducible repeat (first | refine blk_drewN ?_ _ | refine blk_drew ?_ | refine blk_alloc ?_ _)); refine blk_far ?_ NB275_286.out _; (with_reducible repeat (first | refine blk_drewN ?_ _ | refine blk_drew ?_ | refine blk_alloc ?_ _)); exact BK275.out) Tryd.underlying28 rfl (by kernel_rfl)) rfl ?_
          exact ⟨by first | rfl | (simp [errW_none, errW_some] <;> rfl) | (simp [*, errW_none, errW_some] <;> rfl), by repeat (first | (with_reducible first | exact HB.out | apply below_alloc | apply pw_below_drewN | apply below_drew1 | refine below_set ?_ GE275.out | refine below_set ?_ GE286.out) | exact HB.out)⟩
        · rw [if_neg c26] at H
          have c26b0 : decide (12 < (Int.tmod a0 16)) = false := decide_eq_false c26
          clear c26
          simp only [Option.some.injEq, Prod.mk.injEq] at H
          obtain ⟨rfl, rfl, rfl, rfl, rfl, rfl, rfl, rfl, rfl, rfl⟩ := H
          have hnb30 := NB286_275.out
          have hnc30 := NB275_286.out
          have hcz31_0 : wc.cell? ⟨gb286, 0, none⟩ = some (.int .i64 x287000_2) := (blk_cell BK286.out 0).trans rfl
          have hcz31_1 : wc.cell? ⟨gb286, 1, none⟩ = some (.int .i64 x287001_2) := (blk_cell BK286.out 1).trans rfl
          have hcz31_2 : wc.cell? ⟨gb286, 2, none⟩ = some (.int .i64 x287002_2) := (blk_cell BK286.out 2).trans rfl
          have hcz31_3 : wc.cell? ⟨gb286, 3, none⟩ = some (.int .i64 x287003_2) := (blk_cell BK286.out 3).trans rfl
          have hcz31_4 : wc.cell? ⟨gb286, 4, none⟩ = some (.int .i64 x287004_2) := (blk_cell BK286.out 4).trans rfl
          have hcz31_5 : wc.cell? ⟨gb286, 5, none⟩ = some (.int .i64 x287005_2) := (blk_cell BK286.out 5).trans rfl
          have hcz31_6 : wc.cell? ⟨gb286, 6, none⟩ = some (.int .i64 x287006_2) := (blk_cell BK286.out 6).trans rfl
          have hcz31_7 : wc.cell? ⟨gb286, 7, none⟩ = some (.int .i64 t283) := (blk_cell BK286.out 7).trans rfl
          have hcz31_8 : wc.cell? ⟨gb286, 8, none⟩ = some (.bool t284) := (blk_cell BK286.out 8).trans rfl
          have hcz31_9 : wc.cell? ⟨gb286, 9, none⟩ = some (.bool t285) := (blk_cell BK286.out 9).trans rfl
          have hfz31_0 := blk_frozen BK286.out 0
          have hfz31_1 := blk_frozen BK286.out 1
          have hfz31_2 := blk_frozen BK286.out 2
          have hfz31_3 := blk_frozen BK286.out 3
          have hfz31_4 := blk_frozen BK286.out 4
          have hfz31_5 := blk_frozen BK286.out 5
          have hfz31_6 := blk_frozen BK286.out 6
          have hfz31_7 := blk_frozen BK286.out 7
          have hfz31_8 := blk_frozen BK286.out 8
          have hfz31_9 := blk_frozen BK286.out 9
          have hcz32_0 : wc.cell? ⟨gb275, 0, none⟩ = some (.int .i64 0) := (blk_cell BK275.out 0).trans rfl
          have hcz32_1 : wc.cell? ⟨gb275, 1, none⟩ = some (.int .i64 0) := (blk_cell BK275.out 1).trans rfl
          have hcz32_2 : wc.cell? ⟨gb275, 2, none⟩ = some (.int .i64 0) := (blk_cell BK275.out 2).trans rfl
          have hcz32_3 : wc.cell? ⟨gb275, 3, none⟩ = some (.int .i64 0) := (blk_cell BK275.out 3).trans rfl
          have hcz32_4 : wc.cell? ⟨gb275, 4, none⟩ = some (.int .i64 0) := (blk_cell BK275.out 4).trans rfl
          have hcz32_5 : wc.cell? ⟨gb275, 5, none⟩ = some (.int .i64 0) := (blk_cell BK275.out 5).trans rfl
          have hcz32_6 : wc.cell? ⟨gb275, 6, none⟩ = some (.int .i64 0) := (blk_cell BK275.out 6).trans rfl
          have hcz32_7 : wc.cell? ⟨gb275, 7, none⟩ = some (.int .i64 0) := (blk_cell BK275.out 7).trans rfl
          have hcz32_8 : wc.cell? ⟨gb275, 8, none⟩ = some (.bool false) := (blk_cell BK275.out 8).trans rfl
          have hcz32_9 : wc.cell? ⟨gb275, 9, none⟩ = some (.bool false) := (blk_cell BK275.out 9).trans rfl
          have hfz32_0 := blk_frozen BK275.out 0
          have hfz32_1 := blk_frozen BK275.out 1
          have hfz32_2 := blk_frozen BK275.out 2
          have hfz32_3 := blk_frozen BK275.out 3
          have hfz32_4 := blk_frozen BK275.out 4
          have hfz32_5 := blk_frozen BK275.out 5
          have hfz32_6 := blk_frozen BK275.out 6
          have hfz32_7 := blk_frozen BK275.out 7
          have hfz32_8 := blk_frozen BK275.out 8
          have hfz32_9 := blk_frozen BK275.out 9
          go_wp2
          refine bodyPost_ret (results_cell_row rfl _ _ gb275 28 #[.int .i64 x287000_2, .int .i64 x287001_2, .int .i64 x287002_2, .int .i64 x287003_2, .int .i64 x287004_2, .int .i64 x287005_2, .int .i64 (((Int.tdiv a0 32) % 4) + 1), .int .i64 t283, .bool t284, .bool t285] (0, 0) _ rfl (by (with_reducible repeat (first | refine blk_drewN ?_ _ | refine blk_drew ?_ | refine blk_alloc ?_ _)); refine blk_put (cs := #[.int .i64 x287000_2, .int .i64 x287001_2, .int .i64 x287002_2, .int .i64 x287003_2, .int .i64 x287004_2, .int .i64 x287005_2, .int .i64 (((Int.tdiv a0 32) % 4) + 1), .int .i64 t283, .bool t284, .bool false]) ?_ 9 _ rfl; (with_reducible repeat (first | refine blk_drewN ?_ _ | refine blk_drew ?_ | refine blk_alloc ?_ _)); refine blk_put (cs := #[.int .i64 x287000_2, .int .i64 x287001_2, .int .i64 x287002_2, .int .i64 x287003_2, .int .i64 x287004_2, .int .i64 x287005_2, .int .i64 (((Int.tdiv a0 32) % 4) + 1), .int .i64 t283, .bool false, .bool false]) ?_ 8 _ rfl; (with_reducible repeat (first | refine blk_drewN ?_ _ | refine blk_drew ?_ | refine blk_alloc ?_ _)); refine blk_put (cs := #[.int .i64 x287000_2, .int .i64 x287001_2, .int .i64 x287002_2, .int .i64 x287003_2, .int .i64 x287004_2, .int .i64 x287005_2, .int .i64 (((Int.tdiv a0 32) % 4) + 1), .int .i64 0, .bool false, .bool false]) ?_ 7 _ rfl; (with_reducible repeat (first | refine blk_drewN ?_ _ | refine blk_drew ?_ | refine blk_alloc ?_ _)); refine blk_put (cs := #[.int .i64 x287000_2, .int .i64 x287001_2, .int .i64 x287002_2, .int .i64 x287003_2, .int .i64 x287004_2, .int .i64 x287005_2, .int .i64 0, .int .i64 0, .bool false, .bool false]) ?_ 6 _ rfl; (with_reducible repeat (first | refine blk_drewN ?_ _ | refine blk_drew ?_ | refine blk_alloc ?_ _)); refine blk_put (cs := #[.int .i64 x287000_2, .int .i64 x287001_2, .int .i64 x287002_2, .int .i64 x287003_2, .int .i64 x287004_2, .int .i64 0, .int .i64 0, .int .i64 0, .bool false, .bool false]) ?_ 5 _ rfl; (with_reducible repeat (first | refine blk_drewN ?_ _ | refine blk_drew ?_ | refine blk_alloc ?_ _)); refine blk_put (cs := #[.int .i64 x287000_2, .int .i64 x287001_2, .int .i64 x287002_2, .int .i64 x287003_2, .int .i64 0, .int .i64 0, .int .i64 0, .int .i64 0, .bool false, .bool false]) ?_ 4 _ rfl; (with_reducible repeat (first | refine blk_drewN ?_ _ | refine blk_drew ?_ | refine blk_alloc ?_ _)); refine blk_put (cs := #[.int .i64 x287000_2, .int .i64 x287001_2, .int .i64 x287002_2, .int .i64 0, .int .i64 0, .int .i64 0, .int .i64 0, .int .i64 0, .bool false, .bool false]) ?_ 3 _ rfl; (with_reducible repeat (first | refine blk_drewN ?_ _ | refine blk_drew ?_ | refine blk_alloc ?_ _)); refine blk_put (cs := #[.int .i64 x287000_2, .int .i64 x287001_2, .int .i64 0, .int .i64 0, .int .i64 0, .int .i64 0, .int .i64 0, .int .i64 0, .bool false, .bool false]) ?_ 2 _ rfl; (with_reducible repeat (first | refine blk_drewN ?_ _ | refine blk_drew ?_ | refine blk_alloc ?_ _)); refine blk_put (cs := #[.int .i64 x287000_2, .int .i64 0, .int .i64 0, .int .i64 0, .int .i64 0, .int .i64 0, .int .i64 0, .int .i64 0, .bool false, .bool false]) ?_ 1 _ rfl; (with_reducible repeat (first | refine blk_drewN ?_ _ | refine blk_drew ?_ | refine blk_alloc ?_ _)); refine blk_put (cs := #[.int .i64 0, .int .i64 0, .int .i64 0, .int .i64 0, .int .i64 0, .int .i64 0, .int .i64 0, .int .i64 0, .bool false, .bool false]) ?_ 0 _ rfl; (with_reducible repeat (first | refine blk_drewN ?_ _ | refine blk_drew ?_ | refine blk_alloc ?_ _)); refine blk_far ?_ NB275_286.out _; (with_reducible repeat (first | refine blk_drewN ?_ _ | refine blk_drew ?_ | refine blk_alloc ?_ _)); exact BK275.out) Tryd.underlying28 rfl (by kernel_rfl)) rfl ?_
          exact ⟨by first | rfl | (simp [errW_none, errW_some] <;> rfl) | (simp [*, errW_none, errW_some] <;> rfl), by repeat (first | (with_reducible first | exact HB.out | apply below_alloc | apply pw_below_drewN | apply below_drew1 | refine below_set ?_ GE275.out | refine below_set ?_ GE286.out) | exact HB.out)⟩

/-! ### parallaxlaw8_some: function 10 -/
def parallaxlaw8_some.l0 : Nat → List Int → List ByteArray → ByteArray → Int → Option (ByteArray)
  | 0, _, _, _, _ => none
  | k + 1, x0, x3, x4, x5 => if x5 < (x0.length : Int) then (if 0 ≤ x5 then (if (x3.length : Int) = 0 then (none) else (if 0 ≤ (Int.tmod (wrap64 (rd x0 x5)) (x3.length : Int)) then (if (Int.tmod (wrap64 (rd x0 x5)) (x3.length : Int)) < (x3.length : Int) then (if x4.size + (rdOf ByteArray.empty x3 (Int.tmod (wrap64 (rd x0 x5)) (x3.length : Int))).size ≤ 9223372036854775807 then (parallaxlaw8_some.l0 k x0 x3 (x4 ++ (rdOf ByteArray.empty x3 (Int.tmod (wrap64 (rd x0 x5)) (x3.length : Int)))) (wrap64 (x5 + 1))) else (none)) else (none)) else (none))) else (none)) else (some x4)
def parallaxlaw8_some.f (k : Nat) (l0 : List Int) : Option (ByteArray) := parallaxlaw8_some.l0 k l0 (([(⟨#[71, 69, 84]⟩ : ByteArray), (⟨#[32]⟩ : ByteArray), (⟨#[32, 32]⟩ : ByteArray), (⟨#[9]⟩ : ByteArray), (⟨#[47]⟩ : ByteArray), (⟨#[47, 97]⟩ : ByteArray), (⟨#[72, 84, 84, 80, 47, 49, 46, 49]⟩ : ByteArray), (⟨#[72, 84, 84, 80, 47, 49, 46, 48]⟩ : ByteArray), (⟨#[104, 116, 116, 112, 47, 49, 46, 49]⟩ : ByteArray), (⟨#[72, 84, 84, 80, 47, 49, 46, 57]⟩ : ByteArray), (⟨#[120]⟩ : ByteArray), (⟨#[1]⟩ : ByteArray), (⟨#[195, 169]⟩ : ByteArray), (⟨#[72, 84, 84, 80, 47, 50, 46, 48]⟩ : ByteArray), (⟨#[47, 97, 32, 98]⟩ : ByteArray)] : List ByteArray)) (⟨#[]⟩ : ByteArray) 0
theorem parallaxlaw8_some.mono_l : ∀ k, (∀ y0 y1 y2 y3, LeO (parallaxlaw8_some.l0 k y0 y1 y2 y3) (parallaxlaw8_some.l0 (k + 1) y0 y1 y2 y3))
  | 0 => fun _ _ _ _ r h => by simp [parallaxlaw8_some.l0] at h
  | k + 1 => by
    have ih0 := parallaxlaw8_some.mono_l k
    · intro y0 y1 y2 y3
      unfold parallaxlaw8_some.l0
      repeat' first
      | (with_reducible exact ih0 _ _ _ _)
      | (with_reducible exact LeO.refl _)
      | (with_reducible exact LeO.none _)
      | (with_reducible refine LeO.ite ?_ ?_)
      | (with_reducible refine LeO.bind ?_ (fun _ => ?_))
      | exact ih0 _ _ _ _
      | exact LeO.none _
      | refine LeO.ite ?_ ?_
      | refine LeO.bind ?_ (fun _ => ?_)
theorem parallaxlaw8_some.mono : ∀ a0 k, LeO (parallaxlaw8_some.f k a0) (parallaxlaw8_some.f (k + 1) a0) := by
  intro a0 k
  have ih0 := parallaxlaw8_some.mono_l k
  unfold parallaxlaw8_some.f
  repeat' first
      | (with_reducible exact ih0 _ _ _ _)
      | (with_reducible exact LeO.refl _)
      | (with_reducible exact LeO.none _)
      | (with_reducible refine LeO.ite ?_ ?_)
      | (with_reducible refine LeO.bind ?_ (fun _ => ?_))
      | exact ih0 _ _ _ _
      | exact LeO.none _
      | refine LeO.ite ?_ ?_
      | refine LeO.bind ?_ (fun _ => ?_)
set_option maxHeartbeats 8000000 in
set_option maxRecDepth 100000 in
theorem parallaxlaw8_some.calls (k : Nat) (A0 : Option Addr) (c0 : Nat) (l0 : List Int) (r : ByteArray) (w : World) (hr0 : Kd.C (Kd.int .u8) w A0 l0.length l0) (hc0 : l0.length ≤ c0) (h : parallaxlaw8_some.f k l0 = some r) :
    Calls Tryd.prog 10 #[.slice A0 l0.length c0] w fun e w' => e = .returned (.string r) ∧ Below w.heap.size w w' := by
  have HR0 := Aside0.mk hr0
  have HC0 := Aside0.mk hc0
  clear hr0 hc0
  have HB := Aside0.mk (Below.refl w.heap.size w)
  have H : (parallaxlaw8_some.l0 k l0 (([(⟨#[71, 69, 84]⟩ : ByteArray), (⟨#[32]⟩ : ByteArray), (⟨#[32, 32]⟩ : ByteArray), (⟨#[9]⟩ : ByteArray), (⟨#[47]⟩ : ByteArray), (⟨#[47, 97]⟩ : ByteArray), (⟨#[72, 84, 84, 80, 47, 49, 46, 49]⟩ : ByteArray), (⟨#[72, 84, 84, 80, 47, 49, 46, 48]⟩ : ByteArray), (⟨#[104, 116, 116, 112, 47, 49, 46, 49]⟩ : ByteArray), (⟨#[72, 84, 84, 80, 47, 49, 46, 57]⟩ : ByteArray), (⟨#[120]⟩ : ByteArray), (⟨#[1]⟩ : ByteArray), (⟨#[195, 169]⟩ : ByteArray), (⟨#[72, 84, 84, 80, 47, 50, 46, 48]⟩ : ByteArray), (⟨#[47, 97, 32, 98]⟩ : ByteArray)] : List ByteArray)) (⟨#[]⟩ : ByteArray) 0) = some r := h
  clear h
  obtain ⟨y287, hy287⟩ : ∃ y_ : List ByteArray, y_ = (([(⟨#[71, 69, 84]⟩ : ByteArray), (⟨#[32]⟩ : ByteArray), (⟨#[32, 32]⟩ : ByteArray), (⟨#[9]⟩ : ByteArray), (⟨#[47]⟩ : ByteArray), (⟨#[47, 97]⟩ : ByteArray), (⟨#[72, 84, 84, 80, 47, 49, 46, 49]⟩ : ByteArray), (⟨#[72, 84, 84, 80, 47, 49, 46, 48]⟩ : ByteArray), (⟨#[104, 116, 116, 112, 47, 49, 46, 49]⟩ : ByteArray), (⟨#[72, 84, 84, 80, 47, 49, 46, 57]⟩ : ByteArray), (⟨#[120]⟩ : ByteArray), (⟨#[1]⟩ : ByteArray), (⟨#[195, 169]⟩ : ByteArray), (⟨#[72, 84, 84, 80, 47, 50, 46, 48]⟩ : ByteArray), (⟨#[47, 97, 32, 98]⟩ : ByteArray)] : List ByteArray)) := ⟨_, rfl⟩
  replace H : (parallaxlaw8_some.l0 k l0 y287 (⟨#[]⟩ : ByteArray) 0) = some r := by first | (rw [hy287]; with_reducible exact H) | (have H2_ := (Option.bind_some _ _).symm.trans H; rw [hy287]; with_reducible exact H2_) | (have H2_ := (Option.bind_some _ _).symm.trans H; with_reducible exact H2_) | with_reducible exact H | (rw [hy287]; exact H) | exact H
  have Ny287 := Aside0.mk hy287
  clear hy287
  have H' := Aside0.mk H
  clear H
  go_enter Tryd.func10, Tryd.ntmps10
  go_wp2_with (first | ((with_reducible refine gate_dst (N := 6) rfl ?_); refine Kd.R_lit Kd.string _ 9 ?hg (N := 6) ?hd (xs := ([(⟨#[71, 69, 84]⟩ : ByteArray), (⟨#[32]⟩ : ByteArray), (⟨#[32, 32]⟩ : ByteArray), (⟨#[9]⟩ : ByteArray), (⟨#[47]⟩ : ByteArray), (⟨#[47, 97]⟩ : ByteArray), (⟨#[72, 84, 84, 80, 47, 49, 46, 49]⟩ : ByteArray), (⟨#[72, 84, 84, 80, 47, 49, 46, 48]⟩ : ByteArray), (⟨#[104, 116, 116, 112, 47, 49, 46, 49]⟩ : ByteArray), (⟨#[72, 84, 84, 80, 47, 49, 46, 57]⟩ : ByteArray), (⟨#[120]⟩ : ByteArray), (⟨#[1]⟩ : ByteArray), (⟨#[195, 169]⟩ : ByteArray), (⟨#[72, 84, 84, 80, 47, 50, 46, 48]⟩ : ByteArray), (⟨#[47, 97, 32, 98]⟩ : ByteArray)] : List ByteArray)) (inner := [.string (⟨#[71, 69, 84]⟩ : ByteArray), .string (⟨#[32]⟩ : ByteArray), .string (⟨#[32, 32]⟩ : ByteArray), .string (⟨#[9]⟩ : ByteArray), .string (⟨#[47]⟩ : ByteArray), .string (⟨#[47, 97]⟩ : ByteArray), .string (⟨#[72, 84, 84, 80, 47, 49, 46, 49]⟩ : ByteArray), .string (⟨#[72, 84, 84, 80, 47, 49, 46, 48]⟩ : ByteArray), .string (⟨#[104, 116, 116, 112, 47, 49, 46, 49]⟩ : ByteArray), .string (⟨#[72, 84, 84, 80, 47, 49, 46, 57]⟩ : ByteArray), .string (⟨#[120]⟩ : ByteArray), .string (⟨#[1]⟩ : ByteArray), .string (⟨#[195, 169]⟩ : ByteArray), .string (⟨#[72, 84, 84, 80, 47, 50, 46, 48]⟩ : ByteArray), .string (⟨#[47, 97, 32, 98]⟩ : ByteArray)]) (ok := fun _ => True) (okp := fun _ => True) ?hr ?hp (fun _ hk => hk) trivial (Below.refl _ _) (Nat.le_refl _) (by simp) ?_; (case hd => rfl); (case hg => rfl); (case hr => first | (go_simp; done) | (go_simp; rfl)); (case hp => exact (Reps.one (show Kd.M Kd.string _ _ _ (⟨#[71, 69, 84]⟩ : ByteArray) [.string (⟨#[71, 69, 84]⟩ : ByteArray)] from rfl) (Reps.one (show Kd.M Kd.string _ _ _ (⟨#[32]⟩ : ByteArray) [.string (⟨#[32]⟩ : ByteArray)] from rfl) (Reps.one (show Kd.M Kd.string _ _ _ (⟨#[32, 32]⟩ : ByteArray) [.string (⟨#[32, 32]⟩ : ByteArray)] from rfl) (Reps.one (show Kd.M Kd.string _ _ _ (⟨#[9]⟩ : ByteArray) [.string (⟨#[9]⟩ : ByteArray)] from rfl) (Reps.one (show Kd.M Kd.string _ _ _ (⟨#[47]⟩ : ByteArray) [.string (⟨#[47]⟩ : ByteArray)] from rfl) (Reps.one (show Kd.M Kd.string _ _ _ (⟨#[47, 97]⟩ : ByteArray) [.string (⟨#[47, 97]⟩ : ByteArray)] from rfl) (Reps.one (show Kd.M Kd.string _ _ _ (⟨#[72, 84, 84, 80, 47, 49, 46, 49]⟩ : ByteArray) [.string (⟨#[72, 84, 84, 80, 47, 49, 46, 49]⟩ : ByteArray)] from rfl) (Reps.one (show Kd.M Kd.string _ _ _ (⟨#[72, 84, 84, 80, 47, 49, 46, 48]⟩ : ByteArray) [.string (⟨#[72, 84, 84, 80, 47, 49, 46, 48]⟩ : ByteArray)] from rfl) (Reps.one (show Kd.M Kd.string _ _ _ (⟨#[104, 116, 116, 112, 47, 49, 46, 49]⟩ : ByteArray) [.string (⟨#[104, 116, 116, 112, 47, 49, 46, 49]⟩ : ByteArray)] from rfl) (Reps.one (show Kd.M Kd.string _ _ _ (⟨#[72, 84, 84, 80, 47, 49, 46, 57]⟩ : ByteArray) [.string (⟨#[72, 84, 84, 80, 47, 49, 46, 57]⟩ : ByteArray)] from rfl) (Reps.one (show Kd.M Kd.string _ _ _ (⟨#[120]⟩ : ByteArray) [.string (⟨#[120]⟩ : ByteArray)] from rfl) (Reps.one (show Kd.M Kd.string _ _ _ (⟨#[1]⟩ : ByteArray) [.string (⟨#[1]⟩ : ByteArray)] from rfl) (Reps.one (show Kd.M Kd.string _ _ _ (⟨#[195, 169]⟩ : ByteArray) [.string (⟨#[195, 169]⟩ : ByteArray)] from rfl) (Reps.one (show Kd.M Kd.string _ _ _ (⟨#[72, 84, 84, 80, 47, 50, 46, 48]⟩ : ByteArray) [.string (⟨#[72, 84, 84, 80, 47, 50, 46, 48]⟩ : ByteArray)] from rfl) (Reps.one (show Kd.M Kd.string _ _ _ (⟨#[47, 97, 32, 98]⟩ : ByteArray) [.string (⟨#[47, 97, 32, 98]⟩ : ByteArray)] from rfl) (Reps.none _ _))))))))))))))))); intro v288 w2 ho3 hb hg_ hnew_; clear hg_ hnew_; (first | rw [← Ny287.out] at ho3 | (simp only [Int.reduceToNat] at ho3; rw [← Ny287.out] at ho3)); have n0_ := Aside0.mk (Kd.R_lower ho3 (below_size (by repeat (first | (with_reducible first | exact HB.out | apply below_alloc | apply pw_below_drewN | apply below_drew1) | exact HB.out)))); have n1_ := Aside0.mk (below_step (by repeat (first | (with_reducible first | exact HB.out | apply below_alloc | apply pw_below_drewN | apply below_drew1) | exact HB.out)) hb); clear HB; have HO289 := n0_; have HB := n1_; clear n0_ n1_; clear hb ho3))
  go_loopg [4, 5] k (fun kq v4 v5 w' => ∃ (x4_1 : ByteArray) (x5_1 : Int), v4 = .string x4_1 ∧ v5 = .int .i64 x5_1 ∧ Aside0 (parallaxlaw8_some.l0 kq l0 y287 x4_1 x5_1 = some r) ∧ Aside0 (kq ≤ k) ∧ Aside0 (Kd.R Kd.string 9 w' w.heap.size (fun _ => True) v288 y287) ∧ Aside0 (Below w.heap.size w w'))
  case atStart => exact ⟨((⟨#[]⟩ : ByteArray)), (0), (by first | rfl | (simp; done) | (simp [*]; done)), (by first | rfl | (simp; done) | (simp [*]; done)), H', ⟨Nat.le_refl _⟩, ⟨by (with_reducible repeat (first | apply Kd.R_alloc | apply Kd.R_drewN | apply Kd.R_drew)); exact HO289.out⟩, ⟨by repeat (first | (with_reducible first | exact HB.out | apply below_alloc | apply pw_below_drewN | apply below_drew1) | exact HB.out)⟩⟩
  case round =>
    clear H'
    try clear c1
    try clear p2
    obtain ⟨x4_1, x5_1, rfl, rfl, HA, HK1, HO_3, HB⟩ := hrel
    cases gk with
    | zero => exact absurd HA.out (by simp [parallaxlaw8_some.l0])
    | succ k1 =>
      have H := HA.out
      clear HA
      simp only [parallaxlaw8_some.l0] at H
      by_cases c4 : x5_1 < (l0.length : Int)
      · rw [if_pos c4] at H
        have c4b0 : decide (x5_1 < (l0.length : Int)) = true := decide_eq_true c4
        clear c4
        by_cases c5 : 0 ≤ x5_1
        · rw [if_pos c5] at H
          have c5b0 : decide (0 ≤ x5_1) = true := decide_eq_true c5
          clear c5
          by_cases c6 : (y287.length : Int) = 0
          · rw [if_pos c6] at H
            exact absurd H (by simp)
          · rw [if_neg c6] at H
            have c6b0 : ((y287.length : Int) == 0) = false := beq_eq_false_iff_ne.mpr c6
            have c6b1 : ((y287.length : Int) != 0) = true := bne_iff_ne.mpr c6
            have c6b2 : ¬ (y287 = []) := fun h_ => c6 (by rw [h_]; rfl)
            obtain ⟨ji7, hji7⟩ : ∃ j_ : Int, (Int.tmod (wrap64 (rd l0 x5_1)) (y287.length : Int)) = j_ := ⟨_, rfl⟩
            replace H : (if 0 ≤ (ji7) then (if (ji7) < (y287.length : Int) then (if x4_1.size + (rdOf ByteArray.empty y287 (ji7)).size ≤ 9223372036854775807 then (parallaxlaw8_some.l0 k1 l0 y287 (x4_1 ++ (rdOf ByteArray.empty y287 (ji7))) (wrap64 (x5_1 + 1))) else (none)) else (none)) else (none)) = some r := by first | (rw [hji7] at H; exact H) | (simp only [hji7] at H ⊢; exact H)
            by_cases c8 : 0 ≤ (ji7)
            · rw [if_pos c8] at H
              have c8b0 : decide (0 ≤ (ji7)) = true := decide_eq_true c8
              clear c8
              by_cases c9 : (ji7) < (y287.length : Int)
              · rw [if_pos c9] at H
                have c9b0 : decide ((ji7) < (y287.length : Int)) = true := decide_eq_true c9
                clear c9
                by_cases c10 : x4_1.size + (rdOf ByteArray.empty y287 (ji7)).size ≤ 9223372036854775807
                · rw [if_pos c10] at H
                  have c10b0 := eq_true c10
                  have c10b1 : decide (x4_1.size + (rdOf ByteArray.empty y287 (ji7)).size ≤ 9223372036854775807) = true := decide_eq_true c10
                  try have c10b2 : (9223372036854775807 < x4_1.size + (rdOf ByteArray.empty y287 (ji7)).size) = False := eq_false (Nat.not_lt.2 c10)
                  have H' := Aside0.mk H
                  clear H
                  have p290 : 0 ≤ (x5_1 : Int) := of_decide_eq_true (by first | (with_reducible assumption) | assumption)
                  have q290 : x5_1 < (l0.length : Int) := of_decide_eq_true (by first | (with_reducible assumption) | assumption)
                  obtain ⟨ad290, e290, hx290_0⟩ := Kd.at_int HR0.out x5_1 p290 q290
                  cases e290
                  replace hx290_0 := (HB.out.cell (World.block_lt_of_cell? w _ hx290_0)).trans hx290_0
                  replace p290 := eq_true p290
                  replace q290 := eq_true q290
                  obtain ⟨Ao11, co11, eo11⟩ := Kd.R_slice HO_3.out
                  subst eo11
                  have p291 : 0 ≤ ((ji7) : Int) := of_decide_eq_true (by first | (with_reducible assumption) | assumption)
                  have q291 : (ji7) < (y287.length : Int) := of_decide_eq_true (by first | (with_reducible assumption) | assumption)
                  obtain ⟨ad291, e291, hx291_0⟩ := Kd.at_string (Kd.R_reads' HO_3.out).2.2 (ji7) p291 q291
                  cases e291
                  replace p291 := eq_true p291
                  replace q291 := eq_true q291
                  go_wp2
                  go_roundg k1
                  case measure => have := HK1.out; omega
                  case rel => exact ⟨(x4_1 ++ (rdOf ByteArray.empty y287 (ji7))), (wrap64 (x5_1 + 1)), (by first | rfl | (simp; done) | (simp only [← hji7] <;> (first | rfl | simp)) | (simp [*]; done)), (by first | rfl | (simp; done) | (simp [*]; done)), H', ⟨by have := HK1.out; omega⟩, ⟨by (with_reducible repeat (first | apply Kd.R_alloc | apply Kd.R_drewN | apply Kd.R_drew)); exact HO_3.out⟩, ⟨by repeat (first | (with_reducible first | exact HB.out | apply below_alloc | apply pw_below_drewN | apply below_drew1) | exact HB.out)⟩⟩
                · rw [if_neg c10] at H
                  exact absurd H (by simp)
              · rw [if_neg c9] at H
                exact absurd H (by simp)
            · rw [if_neg c8] at H
              exact absurd H (by simp)
        · rw [if_neg c5] at H
          exact absurd H (by simp)
      · rw [if_neg c4] at H
        have c4b0 : decide (x5_1 < (l0.length : Int)) = false := decide_eq_false c4
        clear c4
        obtain rfl := Option.some.inj H
        go_wp2
        go_ret
        exact ⟨by first | rfl | (simp [errW_none, errW_some] <;> rfl) | (simp [*, errW_none, errW_some] <;> rfl), by repeat (first | (with_reducible first | exact HB.out | apply below_alloc | apply pw_below_drewN | apply below_drew1) | exact HB.out)⟩

end Go.Proofs.YtclaaacdmaeblaaDoor.PRequestExtends
