-- Written by a program of this session (wip/tools/myprint.sh)
import Derived.Test.YtjnphebgbdjohaaDoorPQuirksTellx0
import Derived.Test.YtjnphebgbdjohaaDoorPQuirksTellx2
import Derived.Test.YtjnphebgbdjohaaDoorPQuirksTellx3
namespace Go.Proofs.YtjnphebgbdjohaaDoor.PQuirksTell
open Go.RowKit Go.Proofs.YtjnphebgbdjohaaDoorW.PrintWords Go.Proofs.YtjnphebgbdjohaaDoorW.PrintLast Go.Proofs.YtjnphebgbdjohaaDoorW.PrintMore
attribute [local go_sem] max2_int min2_int max_two min_two max_three min_three max_four min_four   -- for this text's walks alone
set_option linter.unusedVariables false
set_option linter.unusedSimpArgs false

/-! ### parallaxseat_Bounds: function 15 -/
def parallaxseat_Bounds.j0 : Nat → Int → Int → Int → Int → Int → Int → Int → Int → Int → Bool → Bool → Option (Int × Int × Int × Int × Int × Int × Int × Int × Bool × Bool)
  | 0, _, _, _, _, _, _, _, _, _, _, _ => none
  | k + 1, x0, x184000, x184001, x184002, x184003, x184004, x184005, x184006, x184007, x184008, x184009 => if (Int.tmod x0 8) = 7 then (if (Int.tmod x0 16) > 12 then (some (x184000, x184001, x184002, x184003, x184004, x184005, ((Int.tdiv x0 32) % 4) + 1, x184007, false, false)) else (some (x184000, x184001, x184002, x184003, x184004, x184005, ((Int.tdiv x0 32) % 4) + 1, x184007, false, x184009))) else (if (Int.tmod x0 16) > 12 then (some (x184000, x184001, x184002, x184003, x184004, x184005, ((Int.tdiv x0 32) % 4) + 1, x184007, x184008, false)) else (some (x184000, x184001, x184002, x184003, x184004, x184005, ((Int.tdiv x0 32) % 4) + 1, x184007, x184008, x184009)))
def parallaxseat_Bounds.f (k : Nat) (a0 : Int) : Option (Int × Int × Int × Int × Int × Int × Int × Int × Bool × Bool) := (parallaxref4_Usual.f).bind fun bt173 => (if (Int.tmod a0 6) = 1 then (parallaxseat_Bounds.j0 k a0 64 4 256 bt173.2.2.2.1 bt173.2.2.2.2.1 bt173.2.2.2.2.2.1 bt173.2.2.2.2.2.2.1 bt173.2.2.2.2.2.2.2.1 bt173.2.2.2.2.2.2.2.2.1 bt173.2.2.2.2.2.2.2.2.2) else (if (Int.tmod a0 6) = 2 then (parallaxseat_Bounds.j0 k a0 bt173.1 bt173.2.1 bt173.2.2.1 16 0 0 bt173.2.2.2.2.2.2.1 bt173.2.2.2.2.2.2.2.1 bt173.2.2.2.2.2.2.2.2.1 bt173.2.2.2.2.2.2.2.2.2) else (if (Int.tmod a0 6) = 3 then (parallaxseat_Bounds.j0 k a0 80 bt173.2.1 bt173.2.2.1 40 bt173.2.2.2.2.1 bt173.2.2.2.2.2.1 1 bt173.2.2.2.2.2.2.2.1 bt173.2.2.2.2.2.2.2.2.1 bt173.2.2.2.2.2.2.2.2.2) else (parallaxseat_Bounds.j0 k a0 bt173.1 bt173.2.1 bt173.2.2.1 bt173.2.2.2.1 bt173.2.2.2.2.1 bt173.2.2.2.2.2.1 bt173.2.2.2.2.2.2.1 bt173.2.2.2.2.2.2.2.1 bt173.2.2.2.2.2.2.2.2.1 bt173.2.2.2.2.2.2.2.2.2))))
theorem parallaxseat_Bounds.mono_l : ∀ k, (∀ y0 y1 y2 y3 y4 y5 y6 y7 y8 y9 y10, LeO (parallaxseat_Bounds.j0 k y0 y1 y2 y3 y4 y5 y6 y7 y8 y9 y10) (parallaxseat_Bounds.j0 (k + 1) y0 y1 y2 y3 y4 y5 y6 y7 y8 y9 y10))
  | 0 => fun _ _ _ _ _ _ _ _ _ _ _ r h => by simp [parallaxseat_Bounds.j0] at h
  | k + 1 => by
    have ih0 := parallaxseat_Bounds.mono_l k
    · intro y0 y1 y2 y3 y4 y5 y6 y7 y8 y9 y10
      unfold parallaxseat_Bounds.j0
      repeat' first
      | (with_reducible exact ih0 _ _ _ _ _ _ _ _ _ _ _)
      | (with_reducible exact LeO.refl _)
      | (with_reducible exact LeO.none _)
      | (with_reducible refine LeO.ite ?_ ?_)
      | (with_reducible refine LeO.bind ?_ (fun _ => ?_))
      | exact ih0 _ _ _ _ _ _ _ _ _ _ _
      | exact LeO.none _
      | refine LeO.ite ?_ ?_
      | refine LeO.bind ?_ (fun _ => ?_)
theorem parallaxseat_Bounds.mono : ∀ a0 k, LeO (parallaxseat_Bounds.f k a0) (parallaxseat_Bounds.f (k + 1) a0) := by
  intro a0 k
  have ih0 := parallaxseat_Bounds.mono_l k
  unfold parallaxseat_Bounds.f
  repeat' first
      | (with_reducible exact ih0 _ _ _ _ _ _ _ _ _ _ _)
      | (with_reducible exact LeO.refl _)
      | (with_reducible exact LeO.none _)
      | (with_reducible refine LeO.ite ?_ ?_)
      | (with_reducible refine LeO.bind ?_ (fun _ => ?_))
      | exact ih0 _ _ _ _ _ _ _ _ _ _ _
      | exact LeO.none _
      | refine LeO.ite ?_ ?_
      | refine LeO.bind ?_ (fun _ => ?_)
set_option maxHeartbeats 8000000 in
set_option maxRecDepth 100000 in
theorem parallaxseat_Bounds.calls (k : Nat) (a0 : Int) (r1 : Int) (r2 : Int) (r3 : Int) (r4 : Int) (r5 : Int) (r6 : Int) (r7 : Int) (r8 : Int) (r9 : Bool) (r10 : Bool) (w : World) (h : parallaxseat_Bounds.f k a0 = some (r1, r2, r3, r4, r5, r6, r7, r8, r9, r10)) :
    Calls Tryd.prog 15 #[.int .u8 a0] w fun e w' => e = .returned (.agg #[.int .i64 r1, .int .i64 r2, .int .i64 r3, .int .i64 r4, .int .i64 r5, .int .i64 r6, .int .i64 r7, .int .i64 r8, .bool r9, .bool r10]) ∧ Below w.heap.size w w' := by
  have hu25 := Tryd.underlying25
  have HB := Aside0.mk (Below.refl w.heap.size w)
  have H : ((parallaxref4_Usual.f).bind fun bt173 => (if (Int.tmod a0 6) = 1 then (parallaxseat_Bounds.j0 k a0 64 4 256 bt173.2.2.2.1 bt173.2.2.2.2.1 bt173.2.2.2.2.2.1 bt173.2.2.2.2.2.2.1 bt173.2.2.2.2.2.2.2.1 bt173.2.2.2.2.2.2.2.2.1 bt173.2.2.2.2.2.2.2.2.2) else (if (Int.tmod a0 6) = 2 then (parallaxseat_Bounds.j0 k a0 bt173.1 bt173.2.1 bt173.2.2.1 16 0 0 bt173.2.2.2.2.2.2.1 bt173.2.2.2.2.2.2.2.1 bt173.2.2.2.2.2.2.2.2.1 bt173.2.2.2.2.2.2.2.2.2) else (if (Int.tmod a0 6) = 3 then (parallaxseat_Bounds.j0 k a0 80 bt173.2.1 bt173.2.2.1 40 bt173.2.2.2.2.1 bt173.2.2.2.2.2.1 1 bt173.2.2.2.2.2.2.2.1 bt173.2.2.2.2.2.2.2.2.1 bt173.2.2.2.2.2.2.2.2.2) else (parallaxseat_Bounds.j0 k a0 bt173.1 bt173.2.1 bt173.2.2.1 bt173.2.2.2.1 bt173.2.2.2.2.1 bt173.2.2.2.2.2.1 bt173.2.2.2.2.2.2.1 bt173.2.2.2.2.2.2.2.1 bt173.2.2.2.2.2.2.2.2.1 bt173.2.2.2.2.2.2.2.2.2))))) = some (r1, r2, r3, r4, r5, r6, r7, r8, r9, r10) := h
  clear h
  replace H := Option.bind_eq_some_iff.mp H
  obtain ⟨⟨t173, t174, t175, t176, t177, t178, t179, t180, t181, t182⟩, A20, H⟩ := H
  replace H : (if (Int.tmod a0 6) = 1 then (parallaxseat_Bounds.j0 k a0 64 4 256 t176 t177 t178 t179 t180 t181 t182) else (if (Int.tmod a0 6) = 2 then (parallaxseat_Bounds.j0 k a0 t173 t174 t175 16 0 0 t179 t180 t181 t182) else (if (Int.tmod a0 6) = 3 then (parallaxseat_Bounds.j0 k a0 80 t174 t175 40 t177 t178 1 t180 t181 t182) else (parallaxseat_Bounds.j0 k a0 t173 t174 t175 t176 t177 t178 t179 t180 t181 t182)))) = some (r1, r2, r3, r4, r5, r6, r7, r8, r9, r10) := H
  have A2 := Aside0.mk A20
  clear A20
  have HC3 := Aside0.mk H
  clear H
  go_enter Tryd.func15, Tryd.ntmps15
  go_upto_block 0 with (first | ((with_reducible refine gate_dst (N := 2) rfl ?_); refine box_event ?hg (N := 2) ?hd (cs := #[.int .i64 0, .int .i64 0, .int .i64 0, .int .i64 0, .int .i64 0, .int .i64 0, .int .i64 0, .int .i64 0, .bool false, .bool false]) (t := 25) ?hr ?_; (case hd => rfl); (case hg => rfl); (case hr => first | (go_simp; done) | (go_simp; rfl)); intro gb172 hg w4 hbox hb; have n0_ := Aside0.mk (below_step (by repeat (first | (with_reducible first | exact HB.out | apply below_alloc | apply pw_below_drewN | apply below_drew1) | exact HB.out)) hb); have n1_ := Aside0.mk (hbox); have n2_ := Aside0.mk ((by rw [hg]; exact (below_size (by repeat (first | (with_reducible first | exact HB.out | apply below_alloc | apply pw_below_drewN | apply below_drew1) | exact HB.out))) : w.heap.size ≤ gb172)); have n3_ := Aside0.mk ((by rw [hg]; exact (below_size (by repeat (first | (with_reducible first | exact HB.out | apply below_alloc | apply pw_below_drewN | apply below_drew1) | exact HB.out))) : w.heap.size ≤ gb172)); clear HB; have HB := n0_; have BK172 := n1_; have GW172 := n2_; have GE172 := n3_; clear n0_ n1_ n2_ n3_; clear hb hbox hg) | ((with_reducible refine gate_callee (f := 28) rfl ?_); refine goesL_ (some 4) rfl rfl Tryd.func28 (by kernel_rfl) rfl #[] rfl (by (try simp only [List.map_toArray, List.map_cons, List.map_nil]); first | done | rfl | (simp only [List.length_drop, List.length_take]; rfl)) ?_; (with_reducible refine (parallaxref4_Usual.calls  t173 t174 t175 t176 t177 t178 t179 t180 t181 t182 _ A2.out).mono ?_); rintro e w5 ⟨rfl, hb⟩; refine ⟨_, rfl, ?_⟩; have n0_ := Aside0.mk (blk_below (g := gb172) (o := .cells #[.int .i64 0, .int .i64 0, .int .i64 0, .int .i64 0, .int .i64 0, .int .i64 0, .int .i64 0, .int .i64 0, .bool false, .bool false] 25 (0, 0)) (by (with_reducible repeat (first | refine blk_drewN ?_ _ | refine blk_drew ?_ | refine blk_alloc ?_ _)); exact BK172.out) hb); have n1_ := Aside0.mk (below_step (by repeat (first | (with_reducible first | exact HB.out | apply below_alloc | apply pw_below_drewN | apply below_drew1 | refine below_set ?_ GE172.out) | exact HB.out)) hb); clear BK172; clear HB; have BK172 := n0_; have HB := n1_; clear n0_ n1_; (try clear hb); (try clear hb2); (try clear hk); (try clear hi)) | ((with_reducible refine gate_dst (N := 3) rfl ?_); refine box_event ?hg (N := 3) ?hd (cs := #[.int .i64 0, .int .i64 0, .int .i64 0, .int .i64 0, .int .i64 0, .int .i64 0, .int .i64 0, .int .i64 0, .bool false, .bool false]) (t := 25) ?hr ?_; (case hd => rfl); (case hg => rfl); (case hr => first | (go_simp; done) | (go_simp; rfl)); intro gb183 hg w6 hbox hb; have n0_ := Aside0.mk (blk_below (g := gb172) (o := .cells #[.int .i64 0, .int .i64 0, .int .i64 0, .int .i64 0, .int .i64 0, .int .i64 0, .int .i64 0, .int .i64 0, .bool false, .bool false] 25 (0, 0)) (by (with_reducible repeat (first | refine blk_drewN ?_ _ | refine blk_drew ?_ | refine blk_alloc ?_ _)); exact BK172.out) hb); have n1_ := Aside0.mk (below_step (by repeat (first | (with_reducible first | exact HB.out | apply below_alloc | apply pw_below_drewN | apply below_drew1 | refine below_set ?_ GE172.out) | exact HB.out)) hb); have n2_ := Aside0.mk (hbox); have n3_ := Aside0.mk ((by rw [hg]; exact (below_size (by repeat (first | (with_reducible first | exact HB.out | apply below_alloc | apply pw_below_drewN | apply below_drew1 | refine below_set ?_ GE172.out) | exact HB.out))) : w.heap.size ≤ gb183)); have n4_ := Aside0.mk ((by rw [hg]; exact (below_size (by repeat (first | (with_reducible first | exact HB.out | apply below_alloc | apply pw_below_drewN | apply below_drew1 | refine below_set ?_ GE172.out) | exact HB.out))) : w.heap.size ≤ gb183)); have n5_ := Aside0.mk ((by rw [hg]; exact Nat.ne_of_lt (blk_lt (g := gb172) (o := .cells #[.int .i64 0, .int .i64 0, .int .i64 0, .int .i64 0, .int .i64 0, .int .i64 0, .int .i64 0, .int .i64 0, .bool false, .bool false] 25 (0, 0)) (by (with_reducible repeat (first | refine blk_drewN ?_ _ | refine blk_drew ?_ | refine blk_alloc ?_ _)); exact BK172.out)) : gb172 ≠ gb183)); have n6_ := Aside0.mk ((by rw [hg]; exact Nat.ne_of_gt (blk_lt (g := gb172) (o := .cells #[.int .i64 0, .int .i64 0, .int .i64 0, .int .i64 0, .int .i64 0, .int .i64 0, .int .i64 0, .int .i64 0, .bool false, .bool false] 25 (0, 0)) (by (with_reducible repeat (first | refine blk_drewN ?_ _ | refine blk_drew ?_ | refine blk_alloc ?_ _)); exact BK172.out)) : gb183 ≠ gb172)); clear BK172; clear HB; have BK172 := n0_; have HB := n1_; have BK183 := n2_; have GW183 := n3_; have GE183 := n4_; have NB172_183 := n5_; have NB183_172 := n6_; clear n0_ n1_ n2_ n3_ n4_ n5_ n6_; clear hb hbox hg; have hnb7 := NB183_172.out; have hnc7 := NB172_183.out; have hcz8_0 : w6.cell? ⟨gb183, 0, none⟩ = some (.int .i64 0) := (blk_cell BK183.out 0).trans rfl; have hcz8_1 : w6.cell? ⟨gb183, 1, none⟩ = some (.int .i64 0) := (blk_cell BK183.out 1).trans rfl; have hcz8_2 : w6.cell? ⟨gb183, 2, none⟩ = some (.int .i64 0) := (blk_cell BK183.out 2).trans rfl; have hcz8_3 : w6.cell? ⟨gb183, 3, none⟩ = some (.int .i64 0) := (blk_cell BK183.out 3).trans rfl; have hcz8_4 : w6.cell? ⟨gb183, 4, none⟩ = some (.int .i64 0) := (blk_cell BK183.out 4).trans rfl; have hcz8_5 : w6.cell? ⟨gb183, 5, none⟩ = some (.int .i64 0) := (blk_cell BK183.out 5).trans rfl; have hcz8_6 : w6.cell? ⟨gb183, 6, none⟩ = some (.int .i64 0) := (blk_cell BK183.out 6).trans rfl; have hcz8_7 : w6.cell? ⟨gb183, 7, none⟩ = some (.int .i64 0) := (blk_cell BK183.out 7).trans rfl; have hcz8_8 : w6.cell? ⟨gb183, 8, none⟩ = some (.bool false) := (blk_cell BK183.out 8).trans rfl; have hcz8_9 : w6.cell? ⟨gb183, 9, none⟩ = some (.bool false) := (blk_cell BK183.out 9).trans rfl; have hfz8_0 := blk_frozen BK183.out 0; have hfz8_1 := blk_frozen BK183.out 1; have hfz8_2 := blk_frozen BK183.out 2; have hfz8_3 := blk_frozen BK183.out 3; have hfz8_4 := blk_frozen BK183.out 4; have hfz8_5 := blk_frozen BK183.out 5; have hfz8_6 := blk_frozen BK183.out 6; have hfz8_7 := blk_frozen BK183.out 7; have hfz8_8 := blk_frozen BK183.out 8; have hfz8_9 := blk_frozen BK183.out 9))
  (try simp only [Act.put, List.setIfInBounds_toArray, List.set_cons_zero, List.set_cons_succ])
  go_cut [] (fun wc => ∃ (kq : Nat) (x184000_2 : Int) (x184001_2 : Int) (x184002_2 : Int) (x184003_2 : Int) (x184004_2 : Int) (x184005_2 : Int) (x184006_2 : Int), Aside0 (parallaxseat_Bounds.j0 kq a0 x184000_2 x184001_2 x184002_2 x184003_2 x184004_2 x184005_2 x184006_2 t180 t181 t182 = some (r1, r2, r3, r4, r5, r6, r7, r8, r9, r10)) ∧ Aside0 (kq ≤ k) ∧ Aside0 (wc.heap[gb172]? = some (.cells #[.int .i64 0, .int .i64 0, .int .i64 0, .int .i64 0, .int .i64 0, .int .i64 0, .int .i64 0, .int .i64 0, .bool false, .bool false] 25 (0, 0))) ∧ Aside0 (wc.heap[gb183]? = some (.cells #[.int .i64 x184000_2, .int .i64 x184001_2, .int .i64 x184002_2, .int .i64 x184003_2, .int .i64 x184004_2, .int .i64 x184005_2, .int .i64 x184006_2, .int .i64 t180, .bool t181, .bool t182] 25 (0, 0))) ∧ Aside0 (Below w.heap.size w wc))
  case first =>
    have H := HC3.out
    clear HC3
    by_cases c9 : (Int.tmod a0 6) = 1
    · rw [if_pos c9] at H
      have c9b0 : ((Int.tmod a0 6) == 1) = true := beq_iff_eq.mpr c9
      have c9b1 : ((Int.tmod a0 6) != 1) = false := bne_eq_false_iff_eq.mpr c9
      clear c9
      (first | rw [c9b0] | (simp only [i64_w, i32_w]; rw [c9b0]) | skip)
      have H' := Aside0.mk H
      clear H
      have hnb10 := NB183_172.out
      have hnc10 := NB172_183.out
      have hcz11_0 : w6.cell? ⟨gb183, 0, none⟩ = some (.int .i64 0) := (blk_cell BK183.out 0).trans rfl
      have hcz11_1 : w6.cell? ⟨gb183, 1, none⟩ = some (.int .i64 0) := (blk_cell BK183.out 1).trans rfl
      have hcz11_2 : w6.cell? ⟨gb183, 2, none⟩ = some (.int .i64 0) := (blk_cell BK183.out 2).trans rfl
      have hcz11_3 : w6.cell? ⟨gb183, 3, none⟩ = some (.int .i64 0) := (blk_cell BK183.out 3).trans rfl
      have hcz11_4 : w6.cell? ⟨gb183, 4, none⟩ = some (.int .i64 0) := (blk_cell BK183.out 4).trans rfl
      have hcz11_5 : w6.cell? ⟨gb183, 5, none⟩ = some (.int .i64 0) := (blk_cell BK183.out 5).trans rfl
      have hcz11_6 : w6.cell? ⟨gb183, 6, none⟩ = some (.int .i64 0) := (blk_cell BK183.out 6).trans rfl
      have hcz11_7 : w6.cell? ⟨gb183, 7, none⟩ = some (.int .i64 0) := (blk_cell BK183.out 7).trans rfl
      have hcz11_8 : w6.cell? ⟨gb183, 8, none⟩ = some (.bool false) := (blk_cell BK183.out 8).trans rfl
      have hcz11_9 : w6.cell? ⟨gb183, 9, none⟩ = some (.bool false) := (blk_cell BK183.out 9).trans rfl
      have hfz11_0 := blk_frozen BK183.out 0
      have hfz11_1 := blk_frozen BK183.out 1
      have hfz11_2 := blk_frozen BK183.out 2
      have hfz11_3 := blk_frozen BK183.out 3
      have hfz11_4 := blk_frozen BK183.out 4
      have hfz11_5 := blk_frozen BK183.out 5
      have hfz11_6 := blk_frozen BK183.out 6
      have hfz11_7 := blk_frozen BK183.out 7
      have hfz11_8 := blk_frozen BK183.out 8
      have hfz11_9 := blk_frozen BK183.out 9
      go_wp2
      go_meet
      case rel => exact ⟨_, (64), (4), (256), (t176), (t177), (t178), (t179), H', ⟨by first | omega | exact Nat.le_refl _⟩, ⟨by (with_reducible repeat (first | refine blk_drewN ?_ _ | refine blk_drew ?_ | refine blk_alloc ?_ _)); refine blk_far ?_ NB172_183.out _; (with_reducible repeat (first | refine blk_drewN ?_ _ | refine blk_drew ?_ | refine blk_alloc ?_ _)); refine blk_far ?_ NB172_183.out _; (with_reducible repeat (first | refine blk_drewN ?_ _ | refine blk_drew ?_ | refine blk_alloc ?_ _)); refine blk_far ?_ NB172_183.out _; (with_reducible repeat (first | refine blk_drewN ?_ _ | refine blk_drew ?_ | refine blk_alloc ?_ _)); refine blk_far ?_ NB172_183.out _; (with_reducible repeat (first | refine blk_drewN ?_ _ | refine blk_drew ?_ | refine blk_alloc ?_ _)); refine blk_far ?_ NB172_183.out _; (with_reducible repeat (first | refine blk_drewN ?_ _ | refine blk_drew ?_ | refine blk_alloc ?_ _)); refine blk_far ?_ NB172_183.out _; (with_reducible repeat (first | refine blk_drewN ?_ _ | refine blk_drew ?_ | refine blk_alloc ?_ _)); refine blk_far ?_ NB172_183.out _; (with_reducible repeat (first | refine blk_drewN ?_ _ | refine blk_drew ?_ | refine blk_alloc ?_ _)); refine blk_far ?_ NB172_183.out _; (with_reducible repeat (first | refine blk_drewN ?_ _ | refine blk_drew ?_ | refine blk_alloc ?_ _)); refine blk_far ?_ NB172_183.out _; (with_reducible repeat (first | refine blk_drewN ?_ _ | refine blk_drew ?_ | refine blk_alloc ?_ _)); refine blk_far ?_ NB172_183.out _; (with_reducible repeat (first | refine blk_drewN ?_ _ | refine blk_drew ?_ | refine blk_alloc ?_ _)); refine blk_far ?_ NB172_183.out _; (with_reducible repeat (first | refine blk_drewN ?_ _ | refine blk_drew ?_ | refine blk_alloc ?_ _)); refine blk_far ?_ NB172_183.out _; (with_reducible repeat (first | refine blk_drewN ?_ _ | refine blk_drew ?_ | refine blk_alloc ?_ _)); refine blk_far ?_ NB172_183.out _; (with_reducible repeat (first | refine blk_drewN ?_ _ | refine blk_drew ?_ | refine blk_alloc ?_ _)); exact BK172.out⟩, ⟨by (with_reducible repeat (first | refine blk_drewN ?_ _ | refine blk_drew ?_ | refine blk_alloc ?_ _)); refine blk_put (cs := #[.int .i64 64, .int .i64 t174, .int .i64 256, .int .i64 t176, .int .i64 t177, .int .i64 t178, .int .i64 t179, .int .i64 t180, .bool t181, .bool t182]) ?_ 1 _ rfl; (with_reducible repeat (first | refine blk_drewN ?_ _ | refine blk_drew ?_ | refine blk_alloc ?_ _)); refine blk_put (cs := #[.int .i64 64, .int .i64 t174, .int .i64 t175, .int .i64 t176, .int .i64 t177, .int .i64 t178, .int .i64 t179, .int .i64 t180, .bool t181, .bool t182]) ?_ 2 _ rfl; (with_reducible repeat (first | refine blk_drewN ?_ _ | refine blk_drew ?_ | refine blk_alloc ?_ _)); refine blk_put (cs := #[.int .i64 t173, .int .i64 t174, .int .i64 t175, .int .i64 t176, .int .i64 t177, .int .i64 t178, .int .i64 t179, .int .i64 t180, .bool t181, .bool t182]) ?_ 0 _ rfl; (with_reducible repeat (first | refine blk_drewN ?_ _ | refine blk_drew ?_ | refine blk_alloc ?_ _)); refine blk_put (cs := #[.int .i64 t173, .int .i64 t174, .int .i64 t175, .int .i64 t176, .int .i64 t177, .int .i64 t178, .int .i64 t179, .int .i64 t180, .bool t181, .bool false]) ?_ 9 _ rfl; (with_reducible repeat (first | refine blk_drewN ?_ _ | refine blk_drew ?_ | refine blk_alloc ?_ _)); refine blk_put (cs := #[.int .i64 t173, .int .i64 t174, .int .i64 t175, .int .i64 t176, .int .i64 t177, .int .i64 t178, .int .i64 t179, .int .i64 t180, .bool false, .bool false]) ?_ 8 _ rfl; (with_reducible repeat (first | refine blk_drewN ?_ _ | refine blk_drew ?_ | refine blk_alloc ?_ _)); refine blk_put (cs := #[.int .i64 t173, .int .i64 t174, .int .i64 t175, .int .i64 t176, .int .i64 t177, .int .i64 t178, .int .i64 t179, .int .i64 0, .bool false, .bool false]) ?_ 7 _ rfl; (with_reducible repeat (first | refine blk_drewN ?_ _ | refine blk_drew ?_ | refine blk_alloc ?_ _)); refine blk_put (cs := #[.int .i64 t173, .int .i64 t174, .int .i64 t175, .int .i64 t176, .int .i64 t177, .int .i64 t178, .int .i64 0, .int .i64 0, .bool false, .bool false]) ?_ 6 _ rfl; (with_reducible repeat (first | refine blk_drewN ?_ _ | refine blk_drew ?_ | refine blk_alloc ?_ _)); refine blk_put (cs := #[.int .i64 t173, .int .i64 t174, .int .i64 t175, .int .i64 t176, .int .i64 t177, .int .i64 0, .int .i64 0, .int .i64 0, .bool false, .bool false]) ?_ 5 _ rfl; (with_reducible repeat (first | refine blk_drewN ?_ _ | refine blk_drew ?_ | refine blk_alloc ?_ _)); refine blk_put (cs := #[.int .i64 t173, .int .i64 t174, .int .i64 t175, .int .i64 t176, .int .i64 0, .int .i64 0, .int .i64 0, .int .i64 0, .bool false, .bool false]) ?_ 4 _ rfl; (with_reducible repeat (first | refine blk_drewN ?_ _ | refine blk_drew ?_ | refine blk_alloc ?_ _)); refine blk_put (cs := #[.int .i64 t173, .int .i64 t174, .int .i64 t175, .int .i64 0, .int .i64 0, .int .i64 0, .int .i64 0, .int .i64 0, .bool false, .bool false]) ?_ 3 _ rfl; (with_reducible repeat (first | refine blk_drewN ?_ _ | refine blk_drew ?_ | refine blk_alloc ?_ _)); refine blk_put (cs := #[.int .i64 t173, .int .i64 t174, .int .i64 0, .int .i64 0, .int .i64 0, .int .i64 0, .int .i64 0, .int .i64 0, .bool false, .bool false]) ?_ 2 _ rfl; (with_reducible repeat (first | refine blk_drewN ?_ _ | refine blk_drew ?_ | refine blk_alloc ?_ _)); refine blk_put (cs := #[.int .i64 t173, .int .i64 0, .int .i64 0, .int .i64 0, .int .i64 0, .int .i64 0, .int .i64 0, .int .i64 0, .bool false, .bool false]) ?_ 1 _ rfl; (with_reducible repeat (first | refine blk_drewN ?_ _ | refine blk_drew ?_ | refine blk_alloc ?_ _)); refine blk_put (cs := #[.int .i64 0, .int .i64 0, .int .i64 0, .int .i64 0, .int .i64 0, .int .i64 0, .int .i64 0, .int .i64 0, .bool false, .bool false]) ?_ 0 _ rfl; (with_reducible repeat (first | refine blk_drewN ?_ _ | refine blk_drew ?_ | refine blk_alloc ?_ _)); exact BK183.out⟩, ⟨by repeat (first | (with_reducible first | exact HB.out | apply below_alloc | apply pw_below_drewN | apply below_drew1 | refine below_set ?_ GE172.out | refine below_set ?_ GE183.out) | exact HB.out)⟩⟩
    · rw [if_neg c9] at H
      have c9b0 : ((Int.tmod a0 6) == 1) = false := beq_eq_false_iff_ne.mpr c9
      have c9b1 : ((Int.tmod a0 6) != 1) = true := bne_iff_ne.mpr c9
      (first | rw [c9b0] | (simp only [i64_w, i32_w]; rw [c9b0]) | skip)
      by_cases c12 : (Int.tmod a0 6) = 2
      · rw [if_pos c12] at H
        have c12b0 : ((Int.tmod a0 6) == 2) = true := beq_iff_eq.mpr c12
        have c12b1 : ((Int.tmod a0 6) != 2) = false := bne_eq_false_iff_eq.mpr c12
        clear c12
        have H' := Aside0.mk H
        clear H
        have hnb13 := NB183_172.out
        have hnc13 := NB172_183.out
        have hcz14_0 : w6.cell? ⟨gb183, 0, none⟩ = some (.int .i64 0) := (blk_cell BK183.out 0).trans rfl
        have hcz14_1 : w6.cell? ⟨gb183, 1, none⟩ = some (.int .i64 0) := (blk_cell BK183.out 1).trans rfl
        have hcz14_2 : w6.cell? ⟨gb183, 2, none⟩ = some (.int .i64 0) := (blk_cell BK183.out 2).trans rfl
        have hcz14_3 : w6.cell? ⟨gb183, 3, none⟩ = some (.int .i64 0) := (blk_cell BK183.out 3).trans rfl
        have hcz14_4 : w6.cell? ⟨gb183, 4, none⟩ = some (.int .i64 0) := (blk_cell BK183.out 4).trans rfl
        have hcz14_5 : w6.cell? ⟨gb183, 5, none⟩ = some (.int .i64 0) := (blk_cell BK183.out 5).trans rfl
        have hcz14_6 : w6.cell? ⟨gb183, 6, none⟩ = some (.int .i64 0) := (blk_cell BK183.out 6).trans rfl
        have hcz14_7 : w6.cell? ⟨gb183, 7, none⟩ = some (.int .i64 0) := (blk_cell BK183.out 7).trans rfl
        have hcz14_8 : w6.cell? ⟨gb183, 8, none⟩ = some (.bool false) := (blk_cell BK183.out 8).trans rfl
        have hcz14_9 : w6.cell? ⟨gb183, 9, none⟩ = some (.bool false) := (blk_cell BK183.out 9).trans rfl
        have hfz14_0 := blk_frozen BK183.out 0
        have hfz14_1 := blk_frozen BK183.out 1
        have hfz14_2 := blk_frozen BK183.out 2
        have hfz14_3 := blk_frozen BK183.out 3
        have hfz14_4 := blk_frozen BK183.out 4
        have hfz14_5 := blk_frozen BK183.out 5
        have hfz14_6 := blk_frozen BK183.out 6
        have hfz14_7 := blk_frozen BK183.out 7
        have hfz14_8 := blk_frozen BK183.out 8
        have hfz14_9 := blk_frozen BK183.out 9
        go_wp2
        go_meet
        case rel => exact ⟨_, (t173), (t174), (t175), (16), (0), (0), (t179), H', ⟨by first | omega | exact Nat.le_refl _⟩, ⟨by (with_reducible repeat (first | refine blk_drewN ?_ _ | refine blk_drew ?_ | refine blk_alloc ?_ _)); refine blk_far ?_ NB172_183.out _; (with_reducible repeat (first | refine blk_drewN ?_ _ | refine blk_drew ?_ | refine blk_alloc ?_ _)); refine blk_far ?_ NB172_183.out _; (with_reducible repeat (first | refine blk_drewN ?_ _ | refine blk_drew ?_ | refine blk_alloc ?_ _)); refine blk_far ?_ NB172_183.out _; (with_reducible repeat (first | refine blk_drewN ?_ _ | refine blk_drew ?_ | refine blk_alloc ?_ _)); refine blk_far ?_ NB172_183.out _; (with_reducible repeat (first | refine blk_drewN ?_ _ | refine blk_drew ?_ | refine blk_alloc ?_ _)); refine blk_far ?_ NB172_183.out _; (with_reducible repeat (first | refine blk_drewN ?_ _ | refine blk_drew ?_ | refine blk_alloc ?_ _)); refine blk_far ?_ NB172_183.out _; (with_reducible repeat (first | refine blk_drewN ?_ _ | refine blk_drew ?_ | refine blk_alloc ?_ _)); refine blk_far ?_ NB172_183.out _; (with_reducible repeat (first | refine blk_drewN ?_ _ | refine blk_drew ?_ | refine blk_alloc ?_ _)); refine blk_far ?_ NB172_183.out _; (with_reducible repeat (first | refine blk_drewN ?_ _ | refine blk_drew ?_ | refine blk_alloc ?_ _)); refine blk_far ?_ NB172_183.out _; (with_reducible repeat (first | refine blk_drewN ?_ _ | refine blk_drew ?_ | refine blk_alloc ?_ _)); refine blk_far ?_ NB172_183.out _; (with_reducible repeat (first | refine blk_drewN ?_ _ | refine blk_drew ?_ | refine blk_alloc ?_ _)); refine blk_far ?_ NB172_183.out _; (with_reducible repeat (first | refine blk_drewN ?_ _ | refine blk_drew ?_ | refine blk_alloc ?_ _)); refine blk_far ?_ NB172_183.out _; (with_reducible repeat (first | refine blk_drewN ?_ _ | refine blk_drew ?_ | refine blk_alloc ?_ _)); refine blk_far ?_ NB172_183.out _; (with_reducible repeat (first | refine blk_drewN ?_ _ | refine blk_drew ?_ | refine blk_alloc ?_ _)); exact BK172.out⟩, ⟨by (with_reducible repeat (first | refine blk_drewN ?_ _ | refine blk_drew ?_ | refine blk_alloc ?_ _)); refine blk_put (cs := #[.int .i64 t173, .int .i64 t174, .int .i64 t175, .int .i64 16, .int .i64 0, .int .i64 t178, .int .i64 t179, .int .i64 t180, .bool t181, .bool t182]) ?_ 5 _ rfl; (with_reducible repeat (first | refine blk_drewN ?_ _ | refine blk_drew ?_ | refine blk_alloc ?_ _)); refine blk_put (cs := #[.int .i64 t173, .int .i64 t174, .int .i64 t175, .int .i64 16, .int .i64 t177, .int .i64 t178, .int .i64 t179, .int .i64 t180, .bool t181, .bool t182]) ?_ 4 _ rfl; (with_reducible repeat (first | refine blk_drewN ?_ _ | refine blk_drew ?_ | refine blk_alloc ?_ _)); refine blk_put (cs := #[.int .i64 t173, .int .i64 t174, .int .i64 t175, .int .i64 t176, .int .i64 t177, .int .i64 t178, .int .i64 t179, .int .i64 t180, .bool t181, .bool t182]) ?_ 3 _ rfl; (with_reducible repeat (first | refine blk_drewN ?_ _ | refine blk_drew ?_ | refine blk_alloc ?_ _)); refine blk_put (cs := #[.int .i64 t173, .int .i64 t174, .int .i64 t175, .int .i64 t176, .int .i64 t177, .int .i64 t178, .int .i64 t179, .int .i64 t180, .bool t181, .bool false]) ?_ 9 _ rfl; (with_reducible repeat (first | refine blk_drewN ?_ _ | refine blk_drew ?_ | refine blk_alloc ?_ _)); refine blk_put (cs := #[.int .i64 t173, .int .i64 t174, .int .i64 t175, .int .i64 t176, .int .i64 t177, .int .i64 t178, .int .i64 t179, .int .i64 t180, .bool false, .bool false]) ?_ 8 _ rfl; (with_reducible repeat (first | refine blk_drewN ?_ _ | refine blk_drew ?_ | refine blk_alloc ?_ _)); refine blk_put (cs := #[.int .i64 t173, .int .i64 t174, .int .i64 t175, .int .i64 t176, .int .i64 t177, .int .i64 t178, .int .i64 t179, .int .i64 0, .bool false, .bool false]) ?_ 7 _ rfl; (with_reducible repeat (first | refine blk_drewN ?_ _ | refine blk_drew ?_ | refine blk_alloc ?_ _)); refine blk_put (cs := #[.int .i64 t173, .int .i64 t174, .int .i64 t175, .int .i64 t176, .int .i64 t177, .int .i64 t178, .int .i64 0, .int .i64 0, .bool false, .bool false]) ?_ 6 _ rfl; (with_reducible repeat (first | refine blk_drewN ?_ _ | refine blk_drew ?_ | refine blk_alloc ?_ _)); refine blk_put (cs := #[.int .i64 t173, .int .i64 t174, .int .i64 t175, .int .i64 t176, .int .i64 t177, .int .i64 0, .int .i64 0, .int .i64 0, .bool false, .bool false]) ?_ 5 _ rfl; (with_reducible repeat (first | refine blk_drewN ?_ _ | refine blk_drew ?_ | refine blk_alloc ?_ _)); refine blk_put (cs := #[.int .i64 t173, .int .i64 t174, .int .i64 t175, .int .i64 t176, .int .i64 0, .int .i64 0, .int .i64 0, .int .i64 0, .bool false, .bool false]) ?_ 4 _ rfl; (with_reducible repeat (first | refine blk_drewN ?_ _ | refine blk_drew ?_ | refine blk_alloc ?_ _)); refine blk_put (cs := #[.int .i64 t173, .int .i64 t174, .int .i64 t175, .int .i64 0, .int .i64 0, .int .i64 0, .int .i64 0, .int .i64 0, .bool false, .bool false]) ?_ 3 _ rfl; (with_reducible repeat (first | refine blk_drewN ?_ _ | refine blk_drew ?_ | refine blk_alloc ?_ _)); refine blk_put (cs := #[.int .i64 t173, .int .i64 t174, .int .i64 0, .int .i64 0, .int .i64 0, .int .i64 0, .int .i64 0, .int .i64 0, .bool false, .bool false]) ?_ 2 _ rfl; (with_reducible repeat (first | refine blk_drewN ?_ _ | refine blk_drew ?_ | refine blk_alloc ?_ _)); refine blk_put (cs := #[.int .i64 t173, .int .i64 0, .int .i64 0, .int .i64 0, .int .i64 0, .int .i64 0, .int .i64 0, .int .i64 0, .bool false, .bool false]) ?_ 1 _ rfl; (with_reducible repeat (first | refine blk_drewN ?_ _ | refine blk_drew ?_ | refine blk_alloc ?_ _)); refine blk_put (cs := #[.int .i64 0, .int .i64 0, .int .i64 0, .int .i64 0, .int .i64 0, .int .i64 0, .int .i64 0, .int .i64 0, .bool false, .bool false]) ?_ 0 _ rfl; (with_reducible repeat (first | refine blk_drewN ?_ _ | refine blk_drew ?_ | refine blk_alloc ?_ _)); exact BK183.out⟩, ⟨by repeat (first | (with_reducible first | exact HB.out | apply below_alloc | apply pw_below_drewN | apply below_drew1 | refine below_set ?_ GE172.out | refine below_set ?_ GE183.out) | exact HB.out)⟩⟩
      · rw [if_neg c12] at H
        have c12b0 : ((Int.tmod a0 6) == 2) = false := beq_eq_false_iff_ne.mpr c12
        have c12b1 : ((Int.tmod a0 6) != 2) = true := bne_iff_ne.mpr c12
        by_cases c15 : (Int.tmod a0 6) = 3
        · rw [if_pos c15] at H
          have c15b0 : ((Int.tmod a0 6) == 3) = true := beq_iff_eq.mpr c15
          have c15b1 : ((Int.tmod a0 6) != 3) = false := bne_eq_false_iff_eq.mpr c15
          clear c15
          have H' := Aside0.mk H
          clear H
          have hnb16 := NB183_172.out
          have hnc16 := NB172_183.out
          have hcz17_0 : w6.cell? ⟨gb183, 0, none⟩ = some (.int .i64 0) := (blk_cell BK183.out 0).trans rfl
          have hcz17_1 : w6.cell? ⟨gb183, 1, none⟩ = some (.int .i64 0) := (blk_cell BK183.out 1).trans rfl
          have hcz17_2 : w6.cell? ⟨gb183, 2, none⟩ = some (.int .i64 0) := (blk_cell BK183.out 2).trans rfl
          have hcz17_3 : w6.cell? ⟨gb183, 3, none⟩ = some (.int .i64 0) := (blk_cell BK183.out 3).trans rfl
          have hcz17_4 : w6.cell? ⟨gb183, 4, none⟩ = some (.int .i64 0) := (blk_cell BK183.out 4).trans rfl
          have hcz17_5 : w6.cell? ⟨gb183, 5, none⟩ = some (.int .i64 0) := (blk_cell BK183.out 5).trans rfl
          have hcz17_6 : w6.cell? ⟨gb183, 6, none⟩ = some (.int .i64 0) := (blk_cell BK183.out 6).trans rfl
          have hcz17_7 : w6.cell? ⟨gb183, 7, none⟩ = some (.int .i64 0) := (blk_cell BK183.out 7).trans rfl
          have hcz17_8 : w6.cell? ⟨gb183, 8, none⟩ = some (.bool false) := (blk_cell BK183.out 8).trans rfl
          have hcz17_9 : w6.cell? ⟨gb183, 9, none⟩ = some (.bool false) := (blk_cell BK183.out 9).trans rfl
          have hfz17_0 := blk_frozen BK183.out 0
          have hfz17_1 := blk_frozen BK183.out 1
          have hfz17_2 := blk_frozen BK183.out 2
          have hfz17_3 := blk_frozen BK183.out 3
          have hfz17_4 := blk_frozen BK183.out 4
          have hfz17_5 := blk_frozen BK183.out 5
          have hfz17_6 := blk_frozen BK183.out 6
          have hfz17_7 := blk_frozen BK183.out 7
          have hfz17_8 := blk_frozen BK183.out 8
          have hfz17_9 := blk_frozen BK183.out 9
          go_wp2
          go_meet
          case rel => exact ⟨_, (80), (t174), (t175), (40), (t177), (t178), (1), H', ⟨by first | omega | exact Nat.le_refl _⟩, ⟨by (with_reducible repeat (first | refine blk_drewN ?_ _ | refine blk_drew ?_ | refine blk_alloc ?_ _)); refine blk_far ?_ NB172_183.out _; (with_reducible repeat (first | refine blk_drewN ?_ _ | refine blk_drew ?_ | refine blk_alloc ?_ _)); refine blk_far ?_ NB172_183.out _; (with_reducible repeat (first | refine blk_drewN ?_ _ | refine blk_drew ?_ | refine blk_alloc ?_ _)); refine blk_far ?_ NB172_183.out _; (with_reducible repeat (first | refine blk_drewN ?_ _ | refine blk_drew ?_ | refine blk_alloc ?_ _)); refine blk_far ?_ NB172_183.out _; (with_reducible repeat (first | refine blk_drewN ?_ _ | refine blk_drew ?_ | refine blk_alloc ?_ _)); refine blk_far ?_ NB172_183.out _; (with_reducible repeat (first | refine blk_drewN ?_ _ | refine blk_drew ?_ | refine blk_alloc ?_ _)); refine blk_far ?_ NB172_183.out _; (with_reducible repeat (first | refine blk_drewN ?_ _ | refine blk_drew ?_ | refine blk_alloc ?_ _)); refine blk_far ?_ NB172_183.out _; (with_reducible repeat (first | refine blk_drewN ?_ _ | refine blk_drew ?_ | refine blk_alloc ?_ _)); refine blk_far ?_ NB172_183.out _; (with_reducible repeat (first | refine blk_drewN ?_ _ | refine blk_drew ?_ | refine blk_alloc ?_ _)); refine blk_far ?_ NB172_183.out _; (with_reducible repeat (first | refine blk_drewN ?_ _ | refine blk_drew ?_ | refine blk_alloc ?_ _)); refine blk_far ?_ NB172_183.out _; (with_reducible repeat (first | refine blk_drewN ?_ _ | refine blk_drew ?_ | refine blk_alloc ?_ _)); refine blk_far ?_ NB172_183.out _; (with_reducible repeat (first | refine blk_drewN ?_ _ | refine blk_drew ?_ | refine blk_alloc ?_ _)); refine blk_far ?_ NB172_183.out _; (with_reducible repeat (first | refine blk_drewN ?_ _ | refine blk_drew ?_ | refine blk_alloc ?_ _)); refine blk_far ?_ NB172_183.out _; (with_reducible repeat (first | refine blk_drewN ?_ _ | refine blk_drew ?_ | refine blk_alloc ?_ _)); exact BK172.out⟩, ⟨by (with_reducible repeat (first | refine blk_drewN ?_ _ | refine blk_drew ?_ | refine blk_alloc ?_ _)); refine blk_put (cs := #[.int .i64 80, .int .i64 t174, .int .i64 t175, .int .i64 40, .int .i64 t177, .int .i64 t178, .int .i64 t179, .int .i64 t180, .bool t181, .bool t182]) ?_ 6 _ rfl; (with_reducible repeat (first | refine blk_drewN ?_ _ | refine blk_drew ?_ | refine blk_alloc ?_ _)); refine blk_put (cs := #[.int .i64 80, .int .i64 t174, .int .i64 t175, .int .i64 t176, .int .i64 t177, .int .i64 t178, .int .i64 t179, .int .i64 t180, .bool t181, .bool t182]) ?_ 3 _ rfl; (with_reducible repeat (first | refine blk_drewN ?_ _ | refine blk_drew ?_ | refine blk_alloc ?_ _)); refine blk_put (cs := #[.int .i64 t173, .int .i64 t174, .int .i64 t175, .int .i64 t176, .int .i64 t177, .int .i64 t178, .int .i64 t179, .int .i64 t180, .bool t181, .bool t182]) ?_ 0 _ rfl; (with_reducible repeat (first | refine blk_drewN ?_ _ | refine blk_drew ?_ | refine blk_alloc ?_ _)); refine blk_put (cs := #[.int .i64 t173, .int .i64 t174, .int .i64 t175, .int .i64 t176, .int .i64 t177, .int .i64 t178, .int .i64 t179, .int .i64 t180, .bool t181, .bool false]) ?_ 9 _ rfl; (with_reducible repeat (first | refine blk_drewN ?_ _ | refine blk_drew ?_ | refine blk_alloc ?_ _)); refine blk_put (cs := #[.int .i64 t173, .int .i64 t174, .int .i64 t175, .int .i64 t176, .int .i64 t177, .int .i64 t178, .int .i64 t179, .int .i64 t180, .bool false, .bool false]) ?_ 8 _ rfl; (with_reducible repeat (first | refine blk_drewN ?_ _ | refine blk_drew ?_ | refine blk_alloc ?_ _)); refine blk_put (cs := #[.int .i64 t173, .int .i64 t174, .int .i64 t175, .int .i64 t176, .int .i64 t177, .int .i64 t178, .int .i64 t179, .int .i64 0, .bool false, .bool false]) ?_ 7 _ rfl; (with_reducible repeat (first | refine blk_drewN ?_ _ | refine blk_drew ?_ | refine blk_alloc ?_ _)); refine blk_put (cs := #[.int .i64 t173, .int .i64 t174, .int .i64 t175, .int .i64 t176, .int .i64 t177, .int .i64 t178, .int .i64 0, .int .i64 0, .bool false, .bool false]) ?_ 6 _ rfl; (with_reducible repeat (first | refine blk_drewN ?_ _ | refine blk_drew ?_ | refine blk_alloc ?_ _)); refine blk_put (cs := #[.int .i64 t173, .int .i64 t174, .int .i64 t175, .int .i64 t176, .int .i64 t177, .int .i64 0, .int .i64 0, .int .i64 0, .bool false, .bool false]) ?_ 5 _ rfl; (with_reducible repeat (first | refine blk_drewN ?_ _ | refine blk_drew ?_ | refine blk_alloc ?_ _)); refine blk_put (cs := #[.int .i64 t173, .int .i64 t174, .int .i64 t175, .int .i64 t176, .int .i64 0, .int .i64 0, .int .i64 0, .int .i64 0, .bool false, .bool false]) ?_ 4 _ rfl; (with_reducible repeat (first | refine blk_drewN ?_ _ | refine blk_drew ?_ | refine blk_alloc ?_ _)); refine blk_put (cs := #[.int .i64 t173, .int .i64 t174, .int .i64 t175, .int .i64 0, .int .i64 0, .int .i64 0, .int .i64 0, .int .i64 0, .bool false, .bool false]) ?_ 3 _ rfl; (with_reducible repeat (first | refine blk_drewN ?_ _ | refine blk_drew ?_ | refine blk_alloc ?_ _)); refine blk_put (cs := #[.int .i64 t173, .int .i64 t174, .int .i64 0, .int .i64 0, .int .i64 0, .int .i64 0, .int .i64 0, .int .i64 0, .bool false, .bool false]) ?_ 2 _ rfl; (with_reducible repeat (first | refine blk_drewN ?_ _ | refine blk_drew ?_ | refine blk_alloc ?_ _)); refine blk_put (cs := #[.int .i64 t173, .int .i64 0, .int .i64 0, .int .i64 0, .int .i64 0, .int .i64 0, .int .i64 0, .int .i64 0, .bool false, .bool false]) ?_ 1 _ rfl; (with_reducible repeat (first | refine blk_drewN ?_ _ | refine blk_drew ?_ | refine blk_alloc ?_ _)); refine blk_put (cs := #[.int .i64 0, .int .i64 0, .int .i64 0, .int .i64 0, .int .i64 0, .int .i64 0, .int .i64 0, .int .i64 0, .bool false, .bool false]) ?_ 0 _ rfl; (with_reducible repeat (first | refine blk_drewN ?_ _ | refine blk_drew ?_ | refine blk_alloc ?_ _)); exact BK183.out⟩, ⟨by repeat (first | (with_reducible first | exact HB.out | apply below_alloc | apply pw_below_drewN | apply below_drew1 | refine below_set ?_ GE172.out | refine below_set ?_ GE183.out) | exact HB.out)⟩⟩
        · rw [if_neg c15] at H
          have c15b0 : ((Int.tmod a0 6) == 3) = false := beq_eq_false_iff_ne.mpr c15
          have c15b1 : ((Int.tmod a0 6) != 3) = true := bne_iff_ne.mpr c15
          have H' := Aside0.mk H
          clear H
          go_wp2
          go_meet
          case rel => exact ⟨_, (t173), (t174), (t175), (t176), (t177), (t178), (t179), H', ⟨by first | omega | exact Nat.le_refl _⟩, ⟨by (with_reducible repeat (first | refine blk_drewN ?_ _ | refine blk_drew ?_ | refine blk_alloc ?_ _)); refine blk_far ?_ NB172_183.out _; (with_reducible repeat (first | refine blk_drewN ?_ _ | refine blk_drew ?_ | refine blk_alloc ?_ _)); refine blk_far ?_ NB172_183.out _; (with_reducible repeat (first | refine blk_drewN ?_ _ | refine blk_drew ?_ | refine blk_alloc ?_ _)); refine blk_far ?_ NB172_183.out _; (with_reducible repeat (first | refine blk_drewN ?_ _ | refine blk_drew ?_ | refine blk_alloc ?_ _)); refine blk_far ?_ NB172_183.out _; (with_reducible repeat (first | refine blk_drewN ?_ _ | refine blk_drew ?_ | refine blk_alloc ?_ _)); refine blk_far ?_ NB172_183.out _; (with_reducible repeat (first | refine blk_drewN ?_ _ | refine blk_drew ?_ | refine blk_alloc ?_ _)); refine blk_far ?_ NB172_183.out _; (with_reducible repeat (first | refine blk_drewN ?_ _ | refine blk_drew ?_ | refine blk_alloc ?_ _)); refine blk_far ?_ NB172_183.out _; (with_reducible repeat (first | refine blk_drewN ?_ _ | refine blk_drew ?_ | refine blk_alloc ?_ _)); refine blk_far ?_ NB172_183.out _; (with_reducible repeat (first | refine blk_drewN ?_ _ | refine blk_drew ?_ | refine blk_alloc ?_ _)); refine blk_far ?_ NB172_183.out _; (with_reducible repeat (first | refine blk_drewN ?_ _ | refine blk_drew ?_ | refine blk_alloc ?_ _)); refine blk_far ?_ NB172_183.out _; (with_reducible repeat (first | refine blk_drewN ?_ _ | refine blk_drew ?_ | refine blk_alloc ?_ _)); exact BK172.out⟩, ⟨by (with_reducible repeat (first | refine blk_drewN ?_ _ | refine blk_drew ?_ | refine blk_alloc ?_ _)); refine blk_put (cs := #[.int .i64 t173, .int .i64 t174, .int .i64 t175, .int .i64 t176, .int .i64 t177, .int .i64 t178, .int .i64 t179, .int .i64 t180, .bool t181, .bool false]) ?_ 9 _ rfl; (with_reducible repeat (first | refine blk_drewN ?_ _ | refine blk_drew ?_ | refine blk_alloc ?_ _)); refine blk_put (cs := #[.int .i64 t173, .int .i64 t174, .int .i64 t175, .int .i64 t176, .int .i64 t177, .int .i64 t178, .int .i64 t179, .int .i64 t180, .bool false, .bool false]) ?_ 8 _ rfl; (with_reducible repeat (first | refine blk_drewN ?_ _ | refine blk_drew ?_ | refine blk_alloc ?_ _)); refine blk_put (cs := #[.int .i64 t173, .int .i64 t174, .int .i64 t175, .int .i64 t176, .int .i64 t177, .int .i64 t178, .int .i64 t179, .int .i64 0, .bool false, .bool false]) ?_ 7 _ rfl; (with_reducible repeat (first | refine blk_drewN ?_ _ | refine blk_drew ?_ | refine blk_alloc ?_ _)); refine blk_put (cs := #[.int .i64 t173, .int .i64 t174, .int .i64 t175, .int .i64 t176, .int .i64 t177, .int .i64 t178, .int .i64 0, .int .i64 0, .bool false, .bool false]) ?_ 6 _ rfl; (with_reducible repeat (first | refine blk_drewN ?_ _ | refine blk_drew ?_ | refine blk_alloc ?_ _)); refine blk_put (cs := #[.int .i64 t173, .int .i64 t174, .int .i64 t175, .int .i64 t176, .int .i64 t177, .int .i64 0, .int .i64 0, .int .i64 0, .bool false, .bool false]) ?_ 5 _ rfl; (with_reducible repeat (first | refine blk_drewN ?_ _ | refine blk_drew ?_ | refine blk_alloc ?_ _)); refine blk_put (cs := #[.int .i64 t173, .int .i64 t174, .int .i64 t175, .int .i64 t176, .int .i64 0, .int .i64 0, .int .i64 0, .int .i64 0, .bool false, .bool false]) ?_ 4 _ rfl; (with_reducible repeat (first | refine blk_drewN ?_ _ | refine blk_drew ?_ | refine blk_alloc ?_ _)); refine blk_put (cs := #[.int .i64 t173, .int .i64 t174, .int .i64 t175, .int .i64 0, .int .i64 0, .int .i64 0, .int .i64 0, .int .i64 0, .bool false, .bool false]) ?_ 3 _ rfl; (with_reducible repeat (first | refine blk_drewN ?_ _ | refine blk_drew ?_ | refine blk_alloc ?_ _)); refine blk_put (cs := #[.int .i64 t173, .int .i64 t174, .int .i64 0, .int .i64 0, .int .i64 0, .int .i64 0, .int .i64 0, .int .i64 0, .bool false, .bool false]) ?_ 2 _ rfl; (with_reducible repeat (first | refine blk_drewN ?_ _ | refine blk_drew ?_ | refine blk_alloc ?_ _)); refine blk_put (cs := #[.int .i64 t173, .int .i64 0, .int .i64 0, .int .i64 0, .int .i64 0, .int .i64 0, .int .i64 0, .int .i64 0, .bool false, .bool false]) ?_ 1 _ rfl; (with_reducible repeat (first | refine blk_drewN ?_ _ | refine blk_drew ?_ | refine blk_alloc ?_ _)); refine blk_put (cs := #[.int .i64 0, .int .i64 0, .int .i64 0, .int .i64 0, .int .i64 0, .int .i64 0, .int .i64 0, .int .i64 0, .bool false, .bool false]) ?_ 0 _ rfl; (with_reducible repeat (first | refine blk_drewN ?_ _ | refine blk_drew ?_ | refine blk_alloc ?_ _)); exact BK183.out⟩, ⟨by repeat (first | (with_reducible first | exact HB.out | apply below_alloc | apply pw_below_drewN | apply below_drew1 | refine below_set ?_ GE172.out | refine below_set ?_ GE183.out) | exact HB.out)⟩⟩
  case rest =>
    clear HC3
    try clear c1
    try clear c2
    try clear p2
    try clear c7
    try clear c9
    try clear c9b0
    try clear c9b1
    try clear c10
    try clear c12
    try clear c12b0
    try clear c12b1
    try clear c13
    try clear c15
    try clear c15b0
    try clear c15b1
    try clear c16
    try clear hcz11_0
    try clear hcz11_1
    try clear hcz11_2
    try clear hcz11_3
    try clear hcz11_4
    try clear hcz11_5
    try clear hcz11_6
    try clear hcz11_7
    try clear hcz11_8
    try clear hcz11_9
    try clear hcz14_0
    try clear hcz14_1
    try clear hcz14_2
    try clear hcz14_3
    try clear hcz14_4
    try clear hcz14_5
    try clear hcz14_6
    try clear hcz14_7
    try clear hcz14_8
    try clear hcz14_9
    try clear hcz17_0
    try clear hcz17_1
    try clear hcz17_2
    try clear hcz17_3
    try clear hcz17_4
    try clear hcz17_5
    try clear hcz17_6
    try clear hcz17_7
    try clear hcz17_8
    try clear hcz17_9
    try clear hcz8_0
    try clear hcz8_1
    try clear hcz8_2
    try clear hcz8_3
    try clear hcz8_4
    try clear hcz8_5
    try clear hcz8_6
    try clear hcz8_7
    try clear hcz8_8
    try clear hcz8_9
    try clear hfz11_0
    try clear hfz11_1
    try clear hfz11_2
    try clear hfz11_3
    try clear hfz11_4
    try clear hfz11_5
    try clear hfz11_6
    try clear hfz11_7
    try clear hfz11_8
    try clear hfz11_9
    try clear hfz14_0
    try clear hfz14_1
    try clear hfz14_2
    try clear hfz14_3
    try clear hfz14_4
    try clear hfz14_5
    try clear hfz14_6
    try clear hfz14_7
    try clear hfz14_8
    try clear hfz14_9
    try clear hfz17_0
    try clear hfz17_1
    try clear hfz17_2
    try clear hfz17_3
    try clear hfz17_4
    try clear hfz17_5
    try clear hfz17_6
    try clear hfz17_7
    try clear hfz17_8
    try clear hfz17_9
    try clear hfz8_0
    try clear hfz8_1
    try clear hfz8_2
    try clear hfz8_3
    try clear hfz8_4
    try clear hfz8_5
    try clear hfz8_6
    try clear hfz8_7
    try clear hfz8_8
    try clear hfz8_9
    obtain ⟨kq, x184000_2, x184001_2, x184002_2, x184003_2, x184004_2, x184005_2, x184006_2, HA, HJ2, BK172, BK183, HB⟩ := hcut
    cases kq with
    | zero => exact absurd HA.out (by simp [parallaxseat_Bounds.j0])
    | succ kj2 =>
      have H := HA.out
      clear HA
      simp only [parallaxseat_Bounds.j0] at H
      by_cases c18 : (Int.tmod a0 8) = 7
      · rw [if_pos c18] at H
        have c18b0 : ((Int.tmod a0 8) == 7) = true := beq_iff_eq.mpr c18
        have c18b1 : ((Int.tmod a0 8) != 7) = false := bne_eq_false_iff_eq.mpr c18
        clear c18
        by_cases c19 : (Int.tmod a0 16) > 12
        · rw [if_pos c19] at H
          have c19b0 : decide (12 < (Int.tmod a0 16)) = true := decide_eq_true c19
          clear c19
          simp only [Option.some.injEq, Prod.mk.injEq] at H
          obtain ⟨rfl, rfl, rfl, rfl, rfl, rfl, rfl, rfl, rfl, rfl⟩ := H
          have hnb20 := NB183_172.out
          have hnc20 := NB172_183.out
          have hcz21_0 : wc.cell? ⟨gb183, 0, none⟩ = some (.int .i64 x184000_2) := (blk_cell BK183.out 0).trans rfl
          have hcz21_1 : wc.cell? ⟨gb183, 1, none⟩ = some (.int .i64 x184001_2) := (blk_cell BK183.out 1).trans rfl
          have hcz21_2 : wc.cell? ⟨gb183, 2, none⟩ = some (.int .i64 x184002_2) := (blk_cell BK183.out 2).trans rfl
          have hcz21_3 : wc.cell? ⟨gb183, 3, none⟩ = some (.int .i64 x184003_2) := (blk_cell BK183.out 3).trans rfl
          have hcz21_4 : wc.cell? ⟨gb183, 4, none⟩ = some (.int .i64 x184004_2) := (blk_cell BK183.out 4).trans rfl
          have hcz21_5 : wc.cell? ⟨gb183, 5, none⟩ = some (.int .i64 x184005_2) := (blk_cell BK183.out 5).trans rfl
          have hcz21_6 : wc.cell? ⟨gb183, 6, none⟩ = some (.int .i64 x184006_2) := (blk_cell BK183.out 6).trans rfl
          have hcz21_7 : wc.cell? ⟨gb183, 7, none⟩ = some (.int .i64 t180) := (blk_cell BK183.out 7).trans rfl
          have hcz21_8 : wc.cell? ⟨gb183, 8, none⟩ = some (.bool t181) := (blk_cell BK183.out 8).trans rfl
          have hcz21_9 : wc.cell? ⟨gb183, 9, none⟩ = some (.bool t182) := (blk_cell BK183.out 9).trans rfl
          have hfz21_0 := blk_frozen BK183.out 0
          have hfz21_1 := blk_frozen BK183.out 1
          have hfz21_2 := blk_frozen BK183.out 2
          have hfz21_3 := blk_frozen BK183.out 3
          have hfz21_4 := blk_frozen BK183.out 4
          have hfz21_5 := blk_frozen BK183.out 5
          have hfz21_6 := blk_frozen BK183.out 6
          have hfz21_7 := blk_frozen BK183.out 7
          have hfz21_8 := blk_frozen BK183.out 8
          have hfz21_9 := blk_frozen BK183.out 9
          have hcz22_0 : wc.cell? ⟨gb172, 0, none⟩ = some (.int .i64 0) := (blk_cell BK172.out 0).trans rfl
          have hcz22_1 : wc.cell? ⟨gb172, 1, none⟩ = some (.int .i64 0) := (blk_cell BK172.out 1).trans rfl
          have hcz22_2 : wc.cell? ⟨gb172, 2, none⟩ = some (.int .i64 0) := (blk_cell BK172.out 2).trans rfl
          have hcz22_3 : wc.cell? ⟨gb172, 3, none⟩ = some (.int .i64 0) := (blk_cell BK172.out 3).trans rfl
          have hcz22_4 : wc.cell? ⟨gb172, 4, none⟩ = some (.int .i64 0) := (blk_cell BK172.out 4).trans rfl
          have hcz22_5 : wc.cell? ⟨gb172, 5, none⟩ = some (.int .i64 0) := (blk_cell BK172.out 5).trans rfl
          have hcz22_6 : wc.cell? ⟨gb172, 6, none⟩ = some (.int .i64 0) := (blk_cell BK172.out 6).trans rfl
          have hcz22_7 : wc.cell? ⟨gb172, 7, none⟩ = some (.int .i64 0) := (blk_cell BK172.out 7).trans rfl
          have hcz22_8 : wc.cell? ⟨gb172, 8, none⟩ = some (.bool false) := (blk_cell BK172.out 8).trans rfl
          have hcz22_9 : wc.cell? ⟨gb172, 9, none⟩ = some (.bool false) := (blk_cell BK172.out 9).trans rfl
          have hfz22_0 := blk_frozen BK172.out 0
          have hfz22_1 := blk_frozen BK172.out 1
          have hfz22_2 := blk_frozen BK172.out 2
          have hfz22_3 := blk_frozen BK172.out 3
          have hfz22_4 := blk_frozen BK172.out 4
          have hfz22_5 := blk_frozen BK172.out 5
          have hfz22_6 := blk_frozen BK172.out 6
          have hfz22_7 := blk_frozen BK172.out 7
          have hfz22_8 := blk_frozen BK172.out 8
          have hfz22_9 := blk_frozen BK172.out 9
          go_wp2
          refine bodyPost_ret (results_cell_row rfl _ _ gb172 25 #[.int .i64 x184000_2, .int .i64 x184001_2, .int .i64 x184002_2, .int .i64 x184003_2, .int .i64 x184004_2, .int .i64 x184005_2, .int .i64 (((Int.tdiv a0 32) % 4) + 1), .int .i64 t180, .bool false, .bool false] (0, 0) _ rfl (by (with_reducible repeat (first | refine blk_drewN ?_ _ | refine blk_drew ?_ | refine blk_alloc ?_ _)); refine blk_put (cs := #[.int .i64 x184000_2, .int .i64 x184001_2, .int .i64 x184002_2, .int .i64 x184003_2, .int .i64 x184004_2, .int .i64 x184005_2, .int .i64 (((Int.tdiv a0 32) % 4) + 1), .int .i64 t180, .bool false, .bool false]) ?_ 9 _ rfl; (with_reducible repeat (first | refine blk_drewN ?_ _ | refine blk_drew ?_ | refine blk_alloc ?_ _)); refine blk_put (cs := #[.int .i64 x184000_2, .int .i64 x184001_2, .int .i64 x184002_2, .int .i64 x184003_2, .int .i64 x184004_2, .int .i64 x184005_2, .int .i64 (((Int.tdiv a0 32) % 4) + 1), .int .i64 t180, .bool false, .bool false]) ?_ 8 _ rfl; (with_reducible repeat (first | refine blk_drewN ?_ _ | refine blk_drew ?_ | refine blk_alloc ?_ _)); refine blk_put (cs := #[.int .i64 x184000_2, .int .i64 x184001_2, .int .i64 x184002_2, .int .i64 x184003_2, .int .i64 x184004_2, .int .i64 x184005_2, .int .i64 (((Int.tdiv a0 32) % 4) + 1), .int .i64 0, .bool false, .bool false]) ?_ 7 _ rfl; (with_reducible repeat (first | refine blk_drewN ?_ _ | refine blk_drew ?_ | refine blk_alloc ?_ _)); refine blk_put (cs := #[.int .i64 x184000_2, .int .i64 x184001_2, .int .i64 x184002_2, .int .i64 x184003_2, .int .i64 x184004_2, .int .i64 x184005_2, .int .i64 0, .int .i64 0, .bool false, .bool false]) ?_ 6 _ rfl; (with_reducible repeat (first | refine blk_drewN ?_ _ | refine blk_drew ?_ | refine blk_alloc ?_ _)); refine blk_put (cs := #[.int .i64 x184000_2, .int .i64 x184001_2, .int .i64 x184002_2, .int .i64 x184003_2, .int .i64 x184004_2, .int .i64 0, .int .i64 0, .int .i64 0, .bool false, .bool false]) ?_ 5 _ rfl; (with_reducible repeat (first | refine blk_drewN ?_ _ | refine blk_drew ?_ | refine blk_alloc ?_ _)); refine blk_put (cs := #[.int .i64 x184000_2, .int .i64 x184001_2, .int .i64 x184002_2, .int .i64 x184003_2, .int .i64 0, .int .i64 0, .int .i64 0, .int .i64 0, .bool false, .bool false]) ?_ 4 _ rfl; (with_reducible repeat (first | refine blk_drewN ?_ _ | refine blk_drew ?_ | refine blk_alloc ?_ _)); refine blk_put (cs := #[.int .i64 x184000_2, .int .i64 x184001_2, .int .i64 x184002_2, .int .i64 0, .int .i64 0, .int .i64 0, .int .i64 0, .int .i64 0, .bool false, .bool false]) ?_ 3 _ rfl; (with_reducible repeat (first | refine blk_drewN ?_ _ | refine blk_drew ?_ | refine blk_alloc ?_ _)); refine blk_put (cs := #[.int .i64 x184000_2, .int .i64 x184001_2, .int .i64 0, .int .i64 0, .int .i64 0, .int .i64 0, .int .i64 0, .int .i64 0, .bool false, .bool false]) ?_ 2 _ rfl; (with_reducible repeat (first | refine blk_drewN ?_ _ | refine blk_drew ?_ | refine blk_alloc ?_ _)); refine blk_put (cs := #[.int .i64 x184000_2, .int .i64 0, .int .i64 0, .int .i64 0, .int .i64 0, .int .i64 0, .int .i64 0, .int .i64 0, .bool false, .bool false]) ?_ 1 _ rfl; (with_reducible repeat (first | refine blk_drewN ?_ _ | refine blk_drew ?_ | refine blk_alloc ?_ _)); refine blk_put (cs := #[.int .i64 0, .int .i64 0, .int .i64 0, .int .i64 0, .int .i64 0, .int .i64 0, .int .i64 0, .int .i64 0, .bool false, .bool false]) ?_ 0 _ rfl; (with_reducible repeat (first | refine blk_drewN ?_ _ | refine blk_drew ?_ | refine blk_alloc ?_ _)); refine blk_far ?_ NB172_183.out _; (with_reducible repeat (first | refine blk_drewN ?_ _ | refine blk_drew ?_ | refine blk_alloc ?_ _)); refine blk_far ?_ NB172_183.out _; (with_reducible repeat (first | refine blk_drewN ?_ _ | refine blk_drew ?_ | refine blk_alloc ?_ _)); refine blk_far ?_ NB172_183.out _; (with_reducible repeat (first | refine blk_drewN ?_ _ | refine blk_drew ?_ | refine blk_alloc ?_ _)); exact BK172.out) Tryd.underlying25 rfl (by kernel_rfl)) rfl ?_
          exact ⟨by first | rfl | (simp [errW_none, errW_some] <;> rfl) | (simp [*, errW_none, errW_some] <;> rfl), by repeat (first | (with_reducible first | exact HB.out | apply below_alloc | apply pw_below_drewN | apply below_drew1 | refine below_set ?_ GE172.out | refine below_set ?_ GE183.out) | exact HB.out)⟩
        · rw [if_neg c19] at H
          have c19b0 : decide (12 < (Int.tmod a0 16)) = false := decide_eq_false c19
          clear c19
          simp only [Option.some.injEq, Prod.mk.injEq] at H
          obtain ⟨rfl, rfl, rfl, rfl, rfl, rfl, rfl, rfl, rfl, rfl⟩ := H
          have hnb23 := NB183_172.out
          have hnc23 := NB172_183.out
          have hcz24_0 : wc.cell? ⟨gb183, 0, none⟩ = some (.int .i64 x184000_2) := (blk_cell BK183.out 0).trans rfl
          have hcz24_1 : wc.cell? ⟨gb183, 1, none⟩ = some (.int .i64 x184001_2) := (blk_cell BK183.out 1).trans rfl
          have hcz24_2 : wc.cell? ⟨gb183, 2, none⟩ = some (.int .i64 x184002_2) := (blk_cell BK183.out 2).trans rfl
          have hcz24_3 : wc.cell? ⟨gb183, 3, none⟩ = some (.int .i64 x184003_2) := (blk_cell BK183.out 3).trans rfl
          have hcz24_4 : wc.cell? ⟨gb183, 4, none⟩ = some (.int .i64 x184004_2) := (blk_cell BK183.out 4).trans rfl
          have hcz24_5 : wc.cell? ⟨gb183, 5, none⟩ = some (.int .i64 x184005_2) := (blk_cell BK183.out 5).trans rfl
          have hcz24_6 : wc.cell? ⟨gb183, 6, none⟩ = some (.int .i64 x184006_2) := (blk_cell BK183.out 6).trans rfl
          have hcz24_7 : wc.cell? ⟨gb183, 7, none⟩ = some (.int .i64 t180) := (blk_cell BK183.out 7).trans rfl
          have hcz24_8 : wc.cell? ⟨gb183, 8, none⟩ = some (.bool t181) := (blk_cell BK183.out 8).trans rfl
          have hcz24_9 : wc.cell? ⟨gb183, 9, none⟩ = some (.bool t182) := (blk_cell BK183.out 9).trans rfl
          have hfz24_0 := blk_frozen BK183.out 0
          have hfz24_1 := blk_frozen BK183.out 1
          have hfz24_2 := blk_frozen BK183.out 2
          have hfz24_3 := blk_frozen BK183.out 3
          have hfz24_4 := blk_frozen BK183.out 4
          have hfz24_5 := blk_frozen BK183.out 5
          have hfz24_6 := blk_frozen BK183.out 6
          have hfz24_7 := blk_frozen BK183.out 7
          have hfz24_8 := blk_frozen BK183.out 8
          have hfz24_9 := blk_frozen BK183.out 9
          have hcz25_0 : wc.cell? ⟨gb172, 0, none⟩ = some (.int .i64 0) := (blk_cell BK172.out 0).trans rfl
          have hcz25_1 : wc.cell? ⟨gb172, 1, none⟩ = some (.int .i64 0) := (blk_cell BK172.out 1).trans rfl
          have hcz25_2 : wc.cell? ⟨gb172, 2, none⟩ = some (.int .i64 0) := (blk_cell BK172.out 2).trans rfl
          have hcz25_3 : wc.cell? ⟨gb172, 3, none⟩ = some (.int .i64 0) := (blk_cell BK172.out 3).trans rfl
          have hcz25_4 : wc.cell? ⟨gb172, 4, none⟩ = some (.int .i64 0) := (blk_cell BK172.out 4).trans rfl
          have hcz25_5 : wc.cell? ⟨gb172, 5, none⟩ = some (.int .i64 0) := (blk_cell BK172.out 5).trans rfl
          have hcz25_6 : wc.cell? ⟨gb172, 6, none⟩ = some (.int .i64 0) := (blk_cell BK172.out 6).trans rfl
          have hcz25_7 : wc.cell? ⟨gb172, 7, none⟩ = some (.int .i64 0) := (blk_cell BK172.out 7).trans rfl
          have hcz25_8 : wc.cell? ⟨gb172, 8, none⟩ = some (.bool false) := (blk_cell BK172.out 8).trans rfl
          have hcz25_9 : wc.cell? ⟨gb172, 9, none⟩ = some (.bool false) := (blk_cell BK172.out 9).trans rfl
          have hfz25_0 := blk_frozen BK172.out 0
          have hfz25_1 := blk_frozen BK172.out 1
          have hfz25_2 := blk_frozen BK172.out 2
          have hfz25_3 := blk_frozen BK172.out 3
          have hfz25_4 := blk_frozen BK172.out 4
          have hfz25_5 := blk_frozen BK172.out 5
          have hfz25_6 := blk_frozen BK172.out 6
          have hfz25_7 := blk_frozen BK172.out 7
          have hfz25_8 := blk_frozen BK172.out 8
          have hfz25_9 := blk_frozen BK172.out 9
          go_wp2
          refine bodyPost_ret (results_cell_row rfl _ _ gb172 25 #[.int .i64 x184000_2, .int .i64 x184001_2, .int .i64 x184002_2, .int .i64 x184003_2, .int .i64 x184004_2, .int .i64 x184005_2, .int .i64 (((Int.tdiv a0 32) % 4) + 1), .int .i64 t180, .bool false, .bool t182] (0, 0) _ rfl (by (with_reducible repeat (first | refine blk_drewN ?_ _ | refine blk_drew ?_ | refine blk_alloc ?_ _)); refine blk_put (cs := #[.int .i64 x184000_2, .int .i64 x184001_2, .int .i64 x184002_2, .int .i64 x184003_2, .int .i64 x184004_2, .int .i64 x184005_2, .int .i64 (((Int.tdiv a0 32) % 4) + 1), .int .i64 t180, .bool false, .bool false]) ?_ 9 _ rfl; (with_reducible repeat (first | refine blk_drewN ?_ _ | refine blk_drew ?_ | refine blk_alloc ?_ _)); refine blk_put (cs := #[.int .i64 x184000_2, .int .i64 x184001_2, .int .i64 x184002_2, .int .i64 x184003_2, .int .i64 x184004_2, .int .i64 x184005_2, .int .i64 (((Int.tdiv a0 32) % 4) + 1), .int .i64 t180, .bool false, .bool false]) ?_ 8 _ rfl; (with_reducible repeat (first | refine blk_drewN ?_ _ | refine blk_drew ?_ | refine blk_alloc ?_ _)); refine blk_put (cs := #[.int .i64 x184000_2, .int .i64 x184001_2, .int .i64 x184002_2, .int .i64 x184003_2, .int .i64 x184004_2, .int .i64 x184005_2, .int .i64 (((Int.tdiv a0 32) % 4) + 1), .int .i64 0, .bool false, .bool false]) ?_ 7 _ rfl; (with_reducible repeat (first | refine blk_drewN ?_ _ | refine blk_drew ?_ | refine blk_alloc ?_ _)); refine blk_put (cs := #[.int .i64 x184000_2, .int .i64 x184001_2, .int .i64 x184002_2, .int .i64 x184003_2, .int .i64 x184004_2, .int .i64 x184005_2, .int .i64 0, .int .i64 0, .bool false, .bool false]) ?_ 6 _ rfl; (with_reducible repeat (first | refine blk_drewN ?_ _ | refine blk_drew ?_ | refine blk_alloc ?_ _)); refine blk_put (cs := #[.int .i64 x184000_2, .int .i64 x184001_2, .int .i64 x184002_2, .int .i64 x184003_2, .int .i64 x184004_2, .int .i64 0, .int .i64 0, .int .i64 0, .bool false, .bool false]) ?_ 5 _ rfl; (with_reducible repeat (first | refine blk_drewN ?_ _ | refine blk_drew ?_ | refine blk_alloc ?_ _)); refine blk_put (cs := #[.int .i64 x184000_2, .int .i64 x184001_2, .int .i64 x184002_2, .int .i64 x184003_2, .int .i64 0, .int .i64 0, .int .i64 0, .int .i64 0, .bool false, .bool false]) ?_ 4 _ rfl; (with_reducible repeat (first | refine blk_drewN ?_ _ | refine blk_drew ?_ | refine blk_alloc ?_ _)); refine blk_put (cs := #[.int .i64 x184000_2, .int .i64 x184001_2, .int .i64 x184002_2, .int .i64 0, .int .i64 0, .int .i64 0, .int .i64 0, .int .i64 0, .bool false, .bool false]) ?_ 3 _ rfl; (with_reducible repeat (first | refine blk_drewN ?_ _ | refine blk_drew ?_ | refine blk_alloc ?_ _)); refine blk_put (cs := #[.int .i64 x184000_2, .int .i64 x184001_2, .int .i64 0, .int .i64 0, .int .i64 0, .int .i64 0, .int .i64 0, .int .i64 0, .bool false, .bool false]) ?_ 2 _ rfl; (with_reducible repeat (first | refine blk_drewN ?_ _ | refine blk_drew ?_ | refine blk_alloc ?_ _)); refine blk_put (cs := #[.int .i64 x184000_2, .int .i64 0, .int .i64 0, .int .i64 0, .int .i64 0, .int .i64 0, .int .i64 0, .int .i64 0, .bool false, .bool false]) ?_ 1 _ rfl; (with_reducible repeat (first | refine blk_drewN ?_ _ | refine blk_drew ?_ | refine blk_alloc ?_ _)); refine blk_put (cs := #[.int .i64 0, .int .i64 0, .int .i64 0, .int .i64 0, .int .i64 0, .int .i64 0, .int .i64 0, .int .i64 0, .bool false, .bool false]) ?_ 0 _ rfl; (with_reducible repeat (first | refine blk_drewN ?_ _ | refine blk_drew ?_ | refine blk_alloc ?_ _)); refine blk_far ?_ NB172_183.out _; (with_reducible repeat (first | refine blk_drewN ?_ _ | refine blk_drew ?_ | refine blk_alloc ?_ _)); refine blk_far ?_ NB172_183.out _; (with_reducible repeat (first | refine blk_drewN ?_ _ | refine blk_drew ?_ | refine blk_alloc ?_ _)); exact BK172.out) Tryd.underlying25 rfl (by kernel_rfl)) rfl ?_
          exact ⟨by first | rfl | (simp [errW_none, errW_some] <;> rfl) | (simp [*, errW_none, errW_some] <;> rfl), by repeat (first | (with_reducible first | exact HB.out | apply below_alloc | apply pw_below_drewN | apply below_drew1 | refine below_set ?_ GE172.out | refine below_set ?_ GE183.out) | exact HB.out)⟩
      · rw [if_neg c18] at H
        have c18b0 : ((Int.tmod a0 8) == 7) = false := beq_eq_false_iff_ne.mpr c18
        have c18b1 : ((Int.tmod a0 8) != 7) = true := bne_iff_ne.mpr c18
        by_cases c26 : (Int.tmod a0 16) > 12
        · rw [if_pos c26] at H
          have c26b0 : decide (12 < (Int.tmod a0 16)) = true := decide_eq_true c26
          clear c26
          simp only [Option.some.injEq, Prod.mk.injEq] at H
          obtain ⟨rfl, rfl, rfl, rfl, rfl, rfl, rfl, rfl, rfl, rfl⟩ := H
          have hnb27 := NB183_172.out
          have hnc27 := NB172_183.out
          have hcz28_0 : wc.cell? ⟨gb183, 0, none⟩ = some (.int .i64 x184000_2) := (blk_cell BK183.out 0).trans rfl
          have hcz28_1 : wc.cell? ⟨gb183, 1, none⟩ = some (.int .i64 x184001_2) := (blk_cell BK183.out 1).trans rfl
          have hcz28_2 : wc.cell? ⟨gb183, 2, none⟩ = some (.int .i64 x184002_2) := (blk_cell BK183.out 2).trans rfl
          have hcz28_3 : wc.cell? ⟨gb183, 3, none⟩ = some (.int .i64 x184003_2) := (blk_cell BK183.out 3).trans rfl
          have hcz28_4 : wc.cell? ⟨gb183, 4, none⟩ = some (.int .i64 x184004_2) := (blk_cell BK183.out 4).trans rfl
          have hcz28_5 : wc.cell? ⟨gb183, 5, none⟩ = some (.int .i64 x184005_2) := (blk_cell BK183.out 5).trans rfl
          have hcz28_6 : wc.cell? ⟨gb183, 6, none⟩ = some (.int .i64 x184006_2) := (blk_cell BK183.out 6).trans rfl
          have hcz28_7 : wc.cell? ⟨gb183, 7, none⟩ = some (.int .i64 t180) := (blk_cell BK183.out 7).trans rfl
          have hcz28_8 : wc.cell? ⟨gb183, 8, none⟩ = some (.bool t181) := (blk_cell BK183.out 8).trans rfl
          have hcz28_9 : wc.cell? ⟨gb183, 9, none⟩ = some (.bool t182) := (blk_cell BK183.out 9).trans rfl
          have hfz28_0 := blk_frozen BK183.out 0
          have hfz28_1 := blk_frozen BK183.out 1
          have hfz28_2 := blk_frozen BK183.out 2
          have hfz28_3 := blk_frozen BK183.out 3
          have hfz28_4 := blk_frozen BK183.out 4
          have hfz28_5 := blk_frozen BK183.out 5
          have hfz28_6 := blk_frozen BK183.out 6
          have hfz28_7 := blk_frozen BK183.out 7
          have hfz28_8 := blk_frozen BK183.out 8
          have hfz28_9 := blk_frozen BK183.out 9
          have hcz29_0 : wc.cell? ⟨gb172, 0, none⟩ = some (.int .i64 0) := (blk_cell BK172.out 0).trans rfl
          have hcz29_1 : wc.cell? ⟨gb172, 1, none⟩ = some (.int .i64 0) := (blk_cell BK172.out 1).trans rfl
          have hcz29_2 : wc.cell? ⟨gb172, 2, none⟩ = some (.int .i64 0) := (blk_cell BK172.out 2).trans rfl
          have hcz29_3 : wc.cell? ⟨gb172, 3, none⟩ = some (.int .i64 0) := (blk_cell BK172.out 3).trans rfl
          have hcz29_4 : wc.cell? ⟨gb172, 4, none⟩ = some (.int .i64 0) := (blk_cell BK172.out 4).trans rfl
          have hcz29_5 : wc.cell? ⟨gb172, 5, none⟩ = some (.int .i64 0) := (blk_cell BK172.out 5).trans rfl
          have hcz29_6 : wc.cell? ⟨gb172, 6, none⟩ = some (.int .i64 0) := (blk_cell BK172.out 6).trans rfl
          have hcz29_7 : wc.cell? ⟨gb172, 7, none⟩ = some (.int .i64 0) := (blk_cell BK172.out 7).trans rfl
          have hcz29_8 : wc.cell? ⟨gb172, 8, none⟩ = some (.bool false) := (blk_cell BK172.out 8).trans rfl
          have hcz29_9 : wc.cell? ⟨gb172, 9, none⟩ = some (.bool false) := (blk_cell BK172.out 9).trans rfl
          have hfz29_0 := blk_frozen BK172.out 0
          have hfz29_1 := blk_frozen BK172.out 1
          have hfz29_2 := blk_frozen BK172.out 2
          have hfz29_3 := blk_frozen BK172.out 3
          have hfz29_4 := blk_frozen BK172.out 4
          have hfz29_5 := blk_frozen BK172.out 5
          have hfz29_6 := blk_frozen BK172.out 6
          have hfz29_7 := blk_frozen BK172.out 7
          have hfz29_8 := blk_frozen BK172.out 8
          have hfz29_9 := blk_frozen BK172.out 9
          go_wp2
          refine bodyPost_ret (results_cell_row rfl _ _ gb172 25 #[.int .i64 x184000_2, .int .i64 x184001_2, .int .i64 x184002_2, .int .i64 x184003_2, .int .i64 x184004_2, .int .i64 x184005_2, .int .i64 (((Int.tdiv a0 32) % 4) + 1), .int .i64 t180, .bool t181, .bool false] (0, 0) _ rfl (by (with_reducible repeat (first | refine blk_drewN ?_ _ | refine blk_drew ?_ | refine blk_alloc ?_ _)); refine blk_put (cs := #[.int .i64 x184000_2, .int .i64 x184001_2, .int .i64 x184002_2, .int .i64 x184003_2, .int .i64 x184004_2, .int .i64 x184005_2, .int .i64 (((Int.tdiv a0 32) % 4) + 1), .int .i64 t180, .bool t181, .bool false]) ?_ 9 _ rfl; (with_reducible repeat (first | refine blk_drewN ?_ _ | refine blk_drew ?_ | refine blk_alloc ?_ _)); refine blk_put (cs := #[.int .i64 x184000_2, .int .i64 x184001_2, .int .i64 x184002_2, .int .i64 x184003_2, .int .i64 x184004_2, .int .i64 x184005_2, .int .i64 (((Int.tdiv a0 32) % 4) + 1), .int .i64 t180, .bool false, .bool false]) ?_ 8 _ rfl; (with_reducible repeat (first | refine blk_drewN ?_ _ | refine blk_drew ?_ | refine blk_alloc ?_ _)); refine blk_put (cs := #[.int .i64 x184000_2, .int .i64 x184001_2, .int .i64 x184002_2, .int .i64 x184003_2, .int .i64 x184004_2, .int .i64 x184005_2, .int .i64 (((Int.tdiv a0 32) % 4) + 1), .int .i64 0, .bool false, .bool false]) ?_ 7 _ rfl; (with_reducible repeat (first | refine blk_drewN ?_ _ | refine blk_drew ?_ | refine blk_alloc ?_ _)); refine blk_put (cs := #[.int .i64 x184000_2, .int .i64 x184001_2, .int .i64 x184002_2, .int .i64 x184003_2, .int .i64 x184004_2, .int .i64 x184005_2, .int .i64 0, .int .i64 0, .bool false, .bool false]) ?_ 6 _ rfl; (with_reducible repeat (first | refine blk_drewN ?_ _ | refine blk_drew ?_ | refine blk_alloc ?_ _)); refine blk_put (cs := #[.int .i64 x184000_2, .int .i64 x184001_2, .int .i64 x184002_2, .int .i64 x184003_2, .int .i64 x184004_2, .int .i64 0, .int .i64 0, .int .i64 0, .bool false, .bool false]) ?_ 5 _ rfl; (with_reducible repeat (first | refine blk_drewN ?_ _ | refine blk_drew ?_ | refine blk_alloc ?_ _)); refine blk_put (cs := #[.int .i64 x184000_2, .int .i64 x184001_2, .int .i64 x184002_2, .int .i64 x184003_2, .int .i64 0, .int .i64 0, .int .i64 0, .int .i64 0, .bool false, .bool false]) ?_ 4 _ rfl; (with_reducible repeat (first | refine blk_drewN ?_ _ | refine blk_drew ?_ | refine blk_alloc ?_ _)); refine blk_put (cs := #[.int .i64 x184000_2, .int .i64 x184001_2, .int .i64 x184002_2, .int .i64 0, .int .i64 0, .int .i64 0, .int .i64 0, .int .i64 0, .bool false, .bool false]) ?_ 3 _ rfl; (with_reducible repeat (first | refine blk_drewN ?_ _ | refine blk_drew ?_ | refine blk_alloc ?_ _)); refine blk_put (cs := #[.int .i64 x184000_2, .int .i64 x184001_2, .int .i64 0, .int .i64 0, .int .i64 0, .int .i64 0, .int .i64 0, .int .i64 0, .bool false, .bool false]) ?_ 2 _ rfl; (with_reducible repeat (first | refine blk_drewN ?_ _ | refine blk_drew ?_ | refine blk_alloc ?_ _)); refine blk_put (cs := #[.int .i64 x184000_2, .int .i64 0, .int .i64 0, .int .i64 0, .int .i64 0, .int .i64 0, .int .i64 0, .int .i64 0, .bool false, .bool false]) ?_ 1 _ rfl; (with_reducible repeat (first | refine blk_drewN ?_ _ | refine blk_drew ?_ | refine blk_alloc ?_ _)); refine blk_put (cs := #[.int .i64 0, .int .i64 0, .int .i64 0, .int .i64 0, .int .i64 0, .int .i64 0, .int .i64 0, .int .i64 0, .bool false, .bool false]) ?_ 0 _ rfl; (with_reducible repeat (first | refine blk_drewN ?_ _ | refine blk_drew ?_ | refine blk_alloc ?_ _)); refine blk_far ?_ NB172_183.out _; (with_reducible repeat (first | refine blk_drewN ?_ _ | refine blk_drew ?_ | refine blk_alloc ?_ _)); refine blk_far ?_ NB172_183.out _; (with_reducible repeat (first | refine blk_drewN ?_ _ | refine blk_drew ?_ | refine blk_alloc ?_ _)); exact BK172.out) Tryd.underlying25 rfl (by kernel_rfl)) rfl ?_
          exact ⟨by first | rfl | (simp [errW_none, errW_some] <;> rfl) | (simp [*, errW_none, errW_some] <;> rfl), by repeat (first | (with_reducible first | exact HB.out | apply below_alloc | apply pw_below_drewN | apply below_drew1 | refine below_set ?_ GE172.out | refine below_set ?_ GE183.out) | exact HB.out)⟩
        · rw [if_neg c26] at H
          have c26b0 : decide (12 < (Int.tmod a0 16)) = false := decide_eq_false c26
          clear c26
          simp only [Option.some.injEq, Prod.mk.injEq] at H
          obtain ⟨rfl, rfl, rfl, rfl, rfl, rfl, rfl, rfl, rfl, rfl⟩ := H
          have hnb30 := NB183_172.out
          have hnc30 := NB172_183.out
          have hcz31_0 : wc.cell? ⟨gb183, 0, none⟩ = some (.int .i64 x184000_2) := (blk_cell BK183.out 0).trans rfl
          have hcz31_1 : wc.cell? ⟨gb183, 1, none⟩ = some (.int .i64 x184001_2) := (blk_cell BK183.out 1).trans rfl
          have hcz31_2 : wc.cell? ⟨gb183, 2, none⟩ = some (.int .i64 x184002_2) := (blk_cell BK183.out 2).trans rfl
          have hcz31_3 : wc.cell? ⟨gb183, 3, none⟩ = some (.int .i64 x184003_2) := (blk_cell BK183.out 3).trans rfl
          have hcz31_4 : wc.cell? ⟨gb183, 4, none⟩ = some (.int .i64 x184004_2) := (blk_cell BK183.out 4).trans rfl
          have hcz31_5 : wc.cell? ⟨gb183, 5, none⟩ = some (.int .i64 x184005_2) := (blk_cell BK183.out 5).trans rfl
          have hcz31_6 : wc.cell? ⟨gb183, 6, none⟩ = some (.int .i64 x184006_2) := (blk_cell BK183.out 6).trans rfl
          have hcz31_7 : wc.cell? ⟨gb183, 7, none⟩ = some (.int .i64 t180) := (blk_cell BK183.out 7).trans rfl
          have hcz31_8 : wc.cell? ⟨gb183, 8, none⟩ = some (.bool t181) := (blk_cell BK183.out 8).trans rfl
          have hcz31_9 : wc.cell? ⟨gb183, 9, none⟩ = some (.bool t182) := (blk_cell BK183.out 9).trans rfl
          have hfz31_0 := blk_frozen BK183.out 0
          have hfz31_1 := blk_frozen BK183.out 1
          have hfz31_2 := blk_frozen BK183.out 2
          have hfz31_3 := blk_frozen BK183.out 3
          have hfz31_4 := blk_frozen BK183.out 4
          have hfz31_5 := blk_frozen BK183.out 5
          have hfz31_6 := blk_frozen BK183.out 6
          have hfz31_7 := blk_frozen BK183.out 7
          have hfz31_8 := blk_frozen BK183.out 8
          have hfz31_9 := blk_frozen BK183.out 9
          have hcz32_0 : wc.cell? ⟨gb172, 0, none⟩ = some (.int .i64 0) := (blk_cell BK172.out 0).trans rfl
          have hcz32_1 : wc.cell? ⟨gb172, 1, none⟩ = some (.int .i64 0) := (blk_cell BK172.out 1).trans rfl
          have hcz32_2 : wc.cell? ⟨gb172, 2, none⟩ = some (.int .i64 0) := (blk_cell BK172.out 2).trans rfl
          have hcz32_3 : wc.cell? ⟨gb172, 3, none⟩ = some (.int .i64 0) := (blk_cell BK172.out 3).trans rfl
          have hcz32_4 : wc.cell? ⟨gb172, 4, none⟩ = some (.int .i64 0) := (blk_cell BK172.out 4).trans rfl
          have hcz32_5 : wc.cell? ⟨gb172, 5, none⟩ = some (.int .i64 0) := (blk_cell BK172.out 5).trans rfl
          have hcz32_6 : wc.cell? ⟨gb172, 6, none⟩ = some (.int .i64 0) := (blk_cell BK172.out 6).trans rfl
          have hcz32_7 : wc.cell? ⟨gb172, 7, none⟩ = some (.int .i64 0) := (blk_cell BK172.out 7).trans rfl
          have hcz32_8 : wc.cell? ⟨gb172, 8, none⟩ = some (.bool false) := (blk_cell BK172.out 8).trans rfl
          have hcz32_9 : wc.cell? ⟨gb172, 9, none⟩ = some (.bool false) := (blk_cell BK172.out 9).trans rfl
          have hfz32_0 := blk_frozen BK172.out 0
          have hfz32_1 := blk_frozen BK172.out 1
          have hfz32_2 := blk_frozen BK172.out 2
          have hfz32_3 := blk_frozen BK172.out 3
          have hfz32_4 := blk_frozen BK172.out 4
          have hfz32_5 := blk_frozen BK172.out 5
          have hfz32_6 := blk_frozen BK172.out 6
          have hfz32_7 := blk_frozen BK172.out 7
          have hfz32_8 := blk_frozen BK172.out 8
          have hfz32_9 := blk_frozen BK172.out 9
          go_wp2
          refine bodyPost_ret (results_cell_row rfl _ _ gb172 25 #[.int .i64 x184000_2, .int .i64 x184001_2, .int .i64 x184002_2, .int .i64 x184003_2, .int .i64 x184004_2, .int .i64 x184005_2, .int .i64 (((Int.tdiv a0 32) % 4) + 1), .int .i64 t180, .bool t181, .bool t182] (0, 0) _ rfl (by (with_reducible repeat (first | refine blk_drewN ?_ _ | refine blk_drew ?_ | refine blk_alloc ?_ _)); refine blk_put (cs := #[.int .i64 x184000_2, .int .i64 x184001_2, .int .i64 x184002_2, .int .i64 x184003_2, .int .i64 x184004_2, .int .i64 x184005_2, .int .i64 (((Int.tdiv a0 32) % 4) + 1), .int .i64 t180, .bool t181, .bool false]) ?_ 9 _ rfl; (with_reducible repeat (first | refine blk_drewN ?_ _ | refine blk_drew ?_ | refine blk_alloc ?_ _)); refine blk_put (cs := #[.int .i64 x184000_2, .int .i64 x184001_2, .int .i64 x184002_2, .int .i64 x184003_2, .int .i64 x184004_2, .int .i64 x184005_2, .int .i64 (((Int.tdiv a0 32) % 4) + 1), .int .i64 t180, .bool false, .bool false]) ?_ 8 _ rfl; (with_reducible repeat (first | refine blk_drewN ?_ _ | refine blk_drew ?_ | refine blk_alloc ?_ _)); refine blk_put (cs := #[.int .i64 x184000_2, .int .i64 x184001_2, .int .i64 x184002_2, .int .i64 x184003_2, .int .i64 x184004_2, .int .i64 x184005_2, .int .i64 (((Int.tdiv a0 32) % 4) + 1), .int .i64 0, .bool false, .bool false]) ?_ 7 _ rfl; (with_reducible repeat (first | refine blk_drewN ?_ _ | refine blk_drew ?_ | refine blk_alloc ?_ _)); refine blk_put (cs := #[.int .i64 x184000_2, .int .i64 x184001_2, .int .i64 x184002_2, .int .i64 x184003_2, .int .i64 x184004_2, .int .i64 x184005_2, .int .i64 0, .int .i64 0, .bool false, .bool false]) ?_ 6 _ rfl; (with_reducible repeat (first | refine blk_drewN ?_ _ | refine blk_drew ?_ | refine blk_alloc ?_ _)); refine blk_put (cs := #[.int .i64 x184000_2, .int .i64 x184001_2, .int .i64 x184002_2, .int .i64 x184003_2, .int .i64 x184004_2, .int .i64 0, .int .i64 0, .int .i64 0, .bool false, .bool false]) ?_ 5 _ rfl; (with_reducible repeat (first | refine blk_drewN ?_ _ | refine blk_drew ?_ | refine blk_alloc ?_ _)); refine blk_put (cs := #[.int .i64 x184000_2, .int .i64 x184001_2, .int .i64 x184002_2, .int .i64 x184003_2, .int .i64 0, .int .i64 0, .int .i64 0, .int .i64 0, .bool false, .bool false]) ?_ 4 _ rfl; (with_reducible repeat (first | refine blk_drewN ?_ _ | refine blk_drew ?_ | refine blk_alloc ?_ _)); refine blk_put (cs := #[.int .i64 x184000_2, .int .i64 x184001_2, .int .i64 x184002_2, .int .i64 0, .int .i64 0, .int .i64 0, .int .i64 0, .int .i64 0, .bool false, .bool false]) ?_ 3 _ rfl; (with_reducible repeat (first | refine blk_drewN ?_ _ | refine blk_drew ?_ | refine blk_alloc ?_ _)); refine blk_put (cs := #[.int .i64 x184000_2, .int .i64 x184001_2, .int .i64 0, .int .i64 0, .int .i64 0, .int .i64 0, .int .i64 0, .int .i64 0, .bool false, .bool false]) ?_ 2 _ rfl; (with_reducible repeat (first | refine blk_drewN ?_ _ | refine blk_drew ?_ | refine blk_alloc ?_ _)); refine blk_put (cs := #[.int .i64 x184000_2, .int .i64 0, .int .i64 0, .int .i64 0, .int .i64 0, .int .i64 0, .int .i64 0, .int .i64 0, .bool false, .bool false]) ?_ 1 _ rfl; (with_reducible repeat (first | refine blk_drewN ?_ _ | refine blk_drew ?_ | refine blk_alloc ?_ _)); refine blk_put (cs := #[.int .i64 0, .int .i64 0, .int .i64 0, .int .i64 0, .int .i64 0, .int .i64 0, .int .i64 0, .int .i64 0, .bool false, .bool false]) ?_ 0 _ rfl; (with_reducible repeat (first | refine blk_drewN ?_ _ | refine blk_drew ?_ | refine blk_alloc ?_ _)); refine blk_far ?_ NB172_183.out _; (with_reducible repeat (first | refine blk_drewN ?_ _ | refine blk_drew ?_ | refine blk_alloc ?_ _)); exact BK172.out) Tryd.underlying25 rfl (by kernel_rfl)) rfl ?_
          exact ⟨by first | rfl | (simp [errW_none, errW_some] <;> rfl) | (simp [*, errW_none, errW_some] <;> rfl), by repeat (first | (with_reducible first | exact HB.out | apply below_alloc | apply pw_below_drewN | apply below_drew1 | refine below_set ?_ GE172.out | refine below_set ?_ GE183.out) | exact HB.out)⟩

/-! ### parallaxref4_Find: function 17 -/
def parallaxref4_Find.l0 : Nat → ByteArray → List ByteArray → Int → Option (Int × Bool)
  | 0, _, _, _ => none
  | k + 1, x0, x4, x5 => if x5 < (x4.length : Int) then (if 0 ≤ x5 then (if (rdOf ByteArray.empty x4 x5).toList = x0.toList then (some (x5, true)) else (parallaxref4_Find.l0 k x0 x4 (wrap64 (x5 + 1)))) else (none)) else (some (0, false))
def parallaxref4_Find.f (k : Nat) (a0 : ByteArray) : Option (Int × Bool) := (parallaxref4_names.f).bind fun t184 => (parallaxref4_Find.l0 k a0 t184 0)
theorem parallaxref4_Find.mono_l : ∀ k, (∀ y0 y1 y2, LeO (parallaxref4_Find.l0 k y0 y1 y2) (parallaxref4_Find.l0 (k + 1) y0 y1 y2))
  | 0 => fun _ _ _ r h => by simp [parallaxref4_Find.l0] at h
  | k + 1 => by
    have ih0 := parallaxref4_Find.mono_l k
    · intro y0 y1 y2
      unfold parallaxref4_Find.l0
      repeat' first
      | (with_reducible exact ih0 _ _ _)
      | (with_reducible exact LeO.refl _)
      | (with_reducible exact LeO.none _)
      | (with_reducible refine LeO.ite ?_ ?_)
      | (with_reducible refine LeO.bind ?_ (fun _ => ?_))
      | exact ih0 _ _ _
      | exact LeO.none _
      | refine LeO.ite ?_ ?_
      | refine LeO.bind ?_ (fun _ => ?_)
theorem parallaxref4_Find.mono : ∀ a0 k, LeO (parallaxref4_Find.f k a0) (parallaxref4_Find.f (k + 1) a0) := by
  intro a0 k
  have ih0 := parallaxref4_Find.mono_l k
  unfold parallaxref4_Find.f
  repeat' first
      | (with_reducible exact ih0 _ _ _)
      | (with_reducible exact LeO.refl _)
      | (with_reducible exact LeO.none _)
      | (with_reducible refine LeO.ite ?_ ?_)
      | (with_reducible refine LeO.bind ?_ (fun _ => ?_))
      | exact ih0 _ _ _
      | exact LeO.none _
      | refine LeO.ite ?_ ?_
      | refine LeO.bind ?_ (fun _ => ?_)
set_option maxHeartbeats 8000000 in
set_option maxRecDepth 100000 in
theorem parallaxref4_Find.calls (k : Nat) (a0 : ByteArray) (r1 : Int) (r2 : Bool) (w : World) (h : parallaxref4_Find.f k a0 = some (r1, r2)) :
    Calls Tryd.prog 17 #[.string a0] w fun e w' => e = .returned (.tuple #[.int .i64 r1, .bool r2]) ∧ Below w.heap.size w w' := by
  have HB := Aside0.mk (Below.refl w.heap.size w)
  have H : ((parallaxref4_names.f).bind fun t184 => (parallaxref4_Find.l0 k a0 t184 0)) = some (r1, r2) := h
  clear h
  replace H := Option.bind_eq_some_iff.mp H
  obtain ⟨t184, A20, H⟩ := H
  replace H : (parallaxref4_Find.l0 k a0 t184 0) = some (r1, r2) := H
  have A2 := Aside0.mk A20
  clear A20
  have H' := Aside0.mk H
  clear H
  go_enter Tryd.func17, Tryd.ntmps17
  go_wp2_with (first | ((with_reducible refine gate_callee (f := 27) rfl ?_); refine goesL_ (some 6) rfl rfl Tryd.func27 (by kernel_rfl) rfl #[] rfl (by (try simp only [List.map_toArray, List.map_cons, List.map_nil]); first | done | rfl | (simp only [List.length_drop, List.length_take]; rfl)) ?_; (with_reducible refine (parallaxref4_names.calls  t184 _ A2.out).mono ?_); rintro e w3 ⟨v185, rfl, ho0, hb⟩; refine ⟨_, rfl, ?_⟩; have n0_ := Aside0.mk (Kd.R_lower ho0 (below_size (by repeat (first | (with_reducible first | exact HB.out | apply below_alloc | apply pw_below_drewN | apply below_drew1) | exact HB.out)))); have n1_ := Aside0.mk (below_step (by repeat (first | (with_reducible first | exact HB.out | apply below_alloc | apply pw_below_drewN | apply below_drew1) | exact HB.out)) hb); clear HB; have HO186 := n0_; have HB := n1_; clear n0_ n1_; (try clear hb); (try clear hb2); (try clear hk); (try clear hi); (try clear ho0)))
  go_loopg [5] k (fun kq v5 w' => ∃ (x5_1 : Int), v5 = .int .i64 x5_1 ∧ Aside0 (parallaxref4_Find.l0 kq a0 t184 x5_1 = some (r1, r2)) ∧ Aside0 (kq ≤ k) ∧ Aside0 (Kd.R Kd.string 9 w' w.heap.size (fun _ => True) v185 t184) ∧ Aside0 (Below w.heap.size w w'))
  case atStart => exact ⟨(0), (by first | rfl | (simp; done) | (simp [*]; done)), H', ⟨Nat.le_refl _⟩, ⟨by (with_reducible repeat (first | apply Kd.R_alloc | apply Kd.R_drewN | apply Kd.R_drew)); exact HO186.out⟩, ⟨by repeat (first | (with_reducible first | exact HB.out | apply below_alloc | apply pw_below_drewN | apply below_drew1) | exact HB.out)⟩⟩
  case round =>
    clear H'
    try clear c1
    try clear c2
    try clear p2
    obtain ⟨x5_1, rfl, HA, HK1, HO_4, HB⟩ := hrel
    cases gk with
    | zero => exact absurd HA.out (by simp [parallaxref4_Find.l0])
    | succ k1 =>
      have H := HA.out
      clear HA
      simp only [parallaxref4_Find.l0] at H
      by_cases c4 : x5_1 < (t184.length : Int)
      · rw [if_pos c4] at H
        have c4b0 : decide (x5_1 < (t184.length : Int)) = true := decide_eq_true c4
        clear c4
        by_cases c5 : 0 ≤ x5_1
        · rw [if_pos c5] at H
          have c5b0 : decide (0 ≤ x5_1) = true := decide_eq_true c5
          clear c5
          by_cases c6 : (rdOf ByteArray.empty t184 x5_1).toList = a0.toList
          · rw [if_pos c6] at H
            have c6b0 : ((rdOf ByteArray.empty t184 x5_1).toList == a0.toList) = true := beq_iff_eq.mpr c6
            have c6b1 : ((rdOf ByteArray.empty t184 x5_1).toList != a0.toList) = false := bne_eq_false_iff_eq.mpr c6
            clear c6
            simp only [Option.some.injEq, Prod.mk.injEq] at H
            obtain ⟨rfl, rfl⟩ := H
            obtain ⟨Ao7, co7, eo7⟩ := Kd.R_slice HO_4.out
            subst eo7
            have p187 : 0 ≤ (x5_1 : Int) := of_decide_eq_true (by first | (with_reducible assumption) | assumption)
            have q187 : x5_1 < (t184.length : Int) := of_decide_eq_true (by first | (with_reducible assumption) | assumption)
            obtain ⟨ad187, e187, hx187_0⟩ := Kd.at_string (Kd.R_reads' HO_4.out).2.2 x5_1 p187 q187
            cases e187
            replace p187 := eq_true p187
            replace q187 := eq_true q187
            go_wp2
            go_ret2
            exact ⟨by first | rfl | (simp [errW_none, errW_some] <;> rfl) | (simp [*, errW_none, errW_some] <;> rfl), by repeat (first | (with_reducible first | exact HB.out | apply below_alloc | apply pw_below_drewN | apply below_drew1) | exact HB.out)⟩
          · rw [if_neg c6] at H
            have c6b0 : ((rdOf ByteArray.empty t184 x5_1).toList == a0.toList) = false := beq_eq_false_iff_ne.mpr c6
            have c6b1 : ((rdOf ByteArray.empty t184 x5_1).toList != a0.toList) = true := bne_iff_ne.mpr c6
            have H' := Aside0.mk H
            clear H
            obtain ⟨Ao8, co8, eo8⟩ := Kd.R_slice HO_4.out
            subst eo8
            have p187 : 0 ≤ (x5_1 : Int) := of_decide_eq_true (by first | (with_reducible assumption) | assumption)
            have q187 : x5_1 < (t184.length : Int) := of_decide_eq_true (by first | (with_reducible assumption) | assumption)
            obtain ⟨ad187, e187, hx187_0⟩ := Kd.at_string (Kd.R_reads' HO_4.out).2.2 x5_1 p187 q187
            cases e187
            replace p187 := eq_true p187
            replace q187 := eq_true q187
            go_wp2
            go_roundg k1
            case measure => have := HK1.out; omega
            case rel => exact ⟨(wrap64 (x5_1 + 1)), (by first | rfl | (simp; done) | (simp [*]; done)), H', ⟨by have := HK1.out; omega⟩, ⟨by (with_reducible repeat (first | apply Kd.R_alloc | apply Kd.R_drewN | apply Kd.R_drew)); exact HO_4.out⟩, ⟨by repeat (first | (with_reducible first | exact HB.out | apply below_alloc | apply pw_below_drewN | apply below_drew1) | exact HB.out)⟩⟩
        · rw [if_neg c5] at H
          exact absurd H (by simp)
      · rw [if_neg c4] at H
        have c4b0 : decide (x5_1 < (t184.length : Int)) = false := decide_eq_false c4
        clear c4
        simp only [Option.some.injEq, Prod.mk.injEq] at H
        obtain ⟨rfl, rfl⟩ := H
        obtain ⟨Ao9, co9, eo9⟩ := Kd.R_slice HO_4.out
        subst eo9
        go_wp2
        go_ret2
        exact ⟨by first | rfl | (simp [errW_none, errW_some] <;> rfl) | (simp [*, errW_none, errW_some] <;> rfl), by repeat (first | (with_reducible first | exact HB.out | apply below_alloc | apply pw_below_drewN | apply below_drew1) | exact HB.out)⟩

/-! ### parallaxref4_Profile: function 19 -/
def parallaxref4_Profile.f (a0 : Int) : Option (Bool) := some (decide (a0 < 1073741824))
set_option maxHeartbeats 8000000 in
set_option maxRecDepth 100000 in
theorem parallaxref4_Profile.calls (a0 : Int) (r : Bool) (w : World) (h : parallaxref4_Profile.f a0 = some r) :
    Calls Tryd.prog 19 #[.int .u32 a0] w fun e w' => e = .returned (.bool r) ∧ Drawn0 w w' := by
  have H : (some (decide (a0 < 1073741824))) = some r := h
  clear h
  obtain rfl := Option.some.inj H
  go_enter Tryd.func19, Tryd.ntmps19
  go_wp2
  go_ret
  exact ⟨by first | rfl | (simp; done) | (simp [*]; done), by repeat (first | exact Drawn0.refl _ | apply Drawn0.step)⟩

/-! ### parallaxhelp_Ints: function 22 -/
def parallaxhelp_Ints.l0 : Nat → List Int → List Int → Int → Option (Bool)
  | 0, _, _, _ => none
  | k + 1, x0, x1, x5 => if x5 < (x0.length : Int) then (if 0 ≤ x5 then (if x5 < (x1.length : Int) then (if (rd x0 x5) = (rd x1 x5) then (parallaxhelp_Ints.l0 k x0 x1 (wrap64 (x5 + 1))) else (some false)) else (none)) else (none)) else (some true)
def parallaxhelp_Ints.f (k : Nat) (l0 : List Int) (l1 : List Int) : Option (Bool) := if (l0.length : Int) = (l1.length : Int) then (parallaxhelp_Ints.l0 k l0 l1 0) else (some false)
theorem parallaxhelp_Ints.mono_l : ∀ k, (∀ y0 y1 y2, LeO (parallaxhelp_Ints.l0 k y0 y1 y2) (parallaxhelp_Ints.l0 (k + 1) y0 y1 y2))
  | 0 => fun _ _ _ r h => by simp [parallaxhelp_Ints.l0] at h
  | k + 1 => by
    have ih0 := parallaxhelp_Ints.mono_l k
    · intro y0 y1 y2
      unfold parallaxhelp_Ints.l0
      repeat' first
      | (with_reducible exact ih0 _ _ _)
      | (with_reducible exact LeO.refl _)
      | (with_reducible exact LeO.none _)
      | (with_reducible refine LeO.ite ?_ ?_)
      | (with_reducible refine LeO.bind ?_ (fun _ => ?_))
      | exact ih0 _ _ _
      | exact LeO.none _
      | refine LeO.ite ?_ ?_
      | refine LeO.bind ?_ (fun _ => ?_)
theorem parallaxhelp_Ints.mono : ∀ a0 a1 k, LeO (parallaxhelp_Ints.f k a0 a1) (parallaxhelp_Ints.f (k + 1) a0 a1) := by
  intro a0 a1 k
  have ih0 := parallaxhelp_Ints.mono_l k
  unfold parallaxhelp_Ints.f
  repeat' first
      | (with_reducible exact ih0 _ _ _)
      | (with_reducible exact LeO.refl _)
      | (with_reducible exact LeO.none _)
      | (with_reducible refine LeO.ite ?_ ?_)
      | (with_reducible refine LeO.bind ?_ (fun _ => ?_))
      | exact ih0 _ _ _
      | exact LeO.none _
      | refine LeO.ite ?_ ?_
      | refine LeO.bind ?_ (fun _ => ?_)
set_option maxHeartbeats 8000000 in
set_option maxRecDepth 100000 in
theorem parallaxhelp_Ints.calls (k : Nat) (A0 : Option Addr) (c0 : Nat) (l0 : List Int) (A1 : Option Addr) (c1 : Nat) (l1 : List Int) (r : Bool) (w : World) (hr0 : Kd.C (Kd.int .i64) w A0 l0.length l0) (hc0 : l0.length ≤ c0) (hr1 : Kd.C (Kd.int .i64) w A1 l1.length l1) (hc1 : l1.length ≤ c1) (h : parallaxhelp_Ints.f k l0 l1 = some r) :
    Calls Tryd.prog 22 #[.slice A0 l0.length c0, .slice A1 l1.length c1] w fun e w' => e = .returned (.bool r) ∧ Drawn0 w w' := by
  have HR0 := Aside0.mk hr0
  have HC0 := Aside0.mk hc0
  clear hr0 hc0
  have HR1 := Aside0.mk hr1
  have HC1 := Aside0.mk hc1
  clear hr1 hc1
  have H : (if (l0.length : Int) = (l1.length : Int) then (parallaxhelp_Ints.l0 k l0 l1 0) else (some false)) = some r := h
  clear h
  by_cases c3 : (l0.length : Int) = (l1.length : Int)
  · rw [if_pos c3] at H
    have c3b0 : ((l0.length : Int) == (l1.length : Int)) = true := beq_iff_eq.mpr c3
    have c3b1 : ((l0.length : Int) != (l1.length : Int)) = false := bne_eq_false_iff_eq.mpr c3
    have c3b2 : (l0.length == l1.length) = true := by first | simpa using c3 | (simp at c3 ⊢; omega)
    clear c3
    have H' := Aside0.mk H
    clear H
    go_enter Tryd.func22, Tryd.ntmps22
    go_wp2
    repeat (go_quiet (fail); try go_wp2)
    go_loopg [5] k (fun kq v5 w' => ∃ (x5_1 : Int), v5 = .int .i64 x5_1 ∧ Aside0 (parallaxhelp_Ints.l0 kq l0 l1 x5_1 = some r) ∧ Aside0 (kq ≤ k) ∧ Drawn0 w w')
    case atStart => exact ⟨(0), (by first | rfl | (simp; done) | (simp [*]; done)), H', ⟨Nat.le_refl _⟩, by repeat (first | exact Drawn0.refl _ | apply Drawn0.step)⟩
    case round =>
      clear H'
      try clear c1
      try clear c2
      try clear p2
      try clear c3
      try clear c3b0
      try clear c3b1
      try clear c3b2
      obtain ⟨x5_1, rfl, HA, HK1, ⟨m1, rfl⟩⟩ := hrel
      cases gk with
      | zero => exact absurd HA.out (by simp [parallaxhelp_Ints.l0])
      | succ k1 =>
        have H := HA.out
        clear HA
        simp only [parallaxhelp_Ints.l0] at H
        by_cases c4 : x5_1 < (l0.length : Int)
        · rw [if_pos c4] at H
          have c4b0 : decide (x5_1 < (l0.length : Int)) = true := decide_eq_true c4
          clear c4
          by_cases c5 : 0 ≤ x5_1
          · rw [if_pos c5] at H
            have c5b0 : decide (0 ≤ x5_1) = true := decide_eq_true c5
            clear c5
            by_cases c6 : x5_1 < (l1.length : Int)
            · rw [if_pos c6] at H
              have c6b0 : decide (x5_1 < (l1.length : Int)) = true := decide_eq_true c6
              clear c6
              by_cases c7 : (rd l0 x5_1) = (rd l1 x5_1)
              · rw [if_pos c7] at H
                have c7b0 : ((rd l0 x5_1) == (rd l1 x5_1)) = true := beq_iff_eq.mpr c7
                have c7b1 : ((rd l0 x5_1) != (rd l1 x5_1)) = false := bne_eq_false_iff_eq.mpr c7
                clear c7
                have H' := Aside0.mk H
                clear H
                have p188 : 0 ≤ (x5_1 : Int) := of_decide_eq_true (by first | (with_reducible assumption) | assumption)
                have q188 : x5_1 < (l0.length : Int) := of_decide_eq_true (by first | (with_reducible assumption) | assumption)
                obtain ⟨ad188, e188, hx188_0⟩ := Kd.at_int HR0.out x5_1 p188 q188
                cases e188
                replace p188 := eq_true p188
                replace q188 := eq_true q188
                have p189 : 0 ≤ (x5_1 : Int) := of_decide_eq_true (by first | (with_reducible assumption) | assumption)
                have q189 : x5_1 < (l1.length : Int) := of_decide_eq_true (by first | (with_reducible assumption) | assumption)
                obtain ⟨ad189, e189, hx189_0⟩ := Kd.at_int HR1.out x5_1 p189 q189
                cases e189
                replace p189 := eq_true p189
                replace q189 := eq_true q189
                go_wp2
                repeat (go_quiet (fail); try go_wp2)
                go_roundg k1
                case measure => have := HK1.out; omega
                case rel => exact ⟨(wrap64 (x5_1 + 1)), (by first | rfl | (simp; done) | (simp [*]; done)), H', ⟨by have := HK1.out; omega⟩, by repeat (first | exact Drawn0.refl _ | apply Drawn0.step)⟩
              · rw [if_neg c7] at H
                have c7b0 : ((rd l0 x5_1) == (rd l1 x5_1)) = false := beq_eq_false_iff_ne.mpr c7
                have c7b1 : ((rd l0 x5_1) != (rd l1 x5_1)) = true := bne_iff_ne.mpr c7
                obtain rfl := Option.some.inj H
                have p188 : 0 ≤ (x5_1 : Int) := of_decide_eq_true (by first | (with_reducible assumption) | assumption)
                have q188 : x5_1 < (l0.length : Int) := of_decide_eq_true (by first | (with_reducible assumption) | assumption)
                obtain ⟨ad188, e188, hx188_0⟩ := Kd.at_int HR0.out x5_1 p188 q188
                cases e188
                replace p188 := eq_true p188
                replace q188 := eq_true q188
                have p189 : 0 ≤ (x5_1 : Int) := of_decide_eq_true (by first | (with_reducible assumption) | assumption)
                have q189 : x5_1 < (l1.length : Int) := of_decide_eq_true (by first | (with_reducible assumption) | assumption)
                obtain ⟨ad189, e189, hx189_0⟩ := Kd.at_int HR1.out x5_1 p189 q189
                cases e189
                replace p189 := eq_true p189
                replace q189 := eq_true q189
                go_wp2
                repeat (go_quiet (fail); try go_wp2)
                go_ret
                exact ⟨by first | rfl | (simp; done) | (simp [*]; done), by repeat (first | exact Drawn0.refl _ | apply Drawn0.step)⟩
            · rw [if_neg c6] at H
              exact absurd H (by simp)
          · rw [if_neg c5] at H
            exact absurd H (by simp)
        · rw [if_neg c4] at H
          have c4b0 : decide (x5_1 < (l0.length : Int)) = false := decide_eq_false c4
          clear c4
          obtain rfl := Option.some.inj H
          go_wp2
          repeat (go_quiet (fail); try go_wp2)
          go_ret
          exact ⟨by first | rfl | (simp; done) | (simp [*]; done), by repeat (first | exact Drawn0.refl _ | apply Drawn0.step)⟩
  · rw [if_neg c3] at H
    have c3b0 : ((l0.length : Int) == (l1.length : Int)) = false := beq_eq_false_iff_ne.mpr c3
    have c3b1 : ((l0.length : Int) != (l1.length : Int)) = true := bne_iff_ne.mpr c3
    have c3b2 : (l0.length == l1.length) = false := by first | simpa using c3 | (simp at c3 ⊢; omega)
    obtain rfl := Option.some.inj H
    go_enter Tryd.func22, Tryd.ntmps22
    go_wp2
    repeat (go_quiet (fail); try go_wp2)
    go_ret
    exact ⟨by first | rfl | (simp; done) | (simp [*]; done), by repeat (first | exact Drawn0.refl _ | apply Drawn0.step)⟩

/-! ### parallaxref4_List: function 24 -/
def parallaxref4_List.l0 : Nat → Int → List Int → Int → Option (List Int)
  | 0, _, _, _ => none
  | k + 1, x0, x3, x4 => if x4 < 30 then ((parallaxref4_Has.f x0 x4).bind fun t190 => (if t190 = true then (if x3.length < 17592186044416 then (parallaxref4_List.l0 k x0 (x3 ++ [x4]) (wrap64 (x4 + 1))) else (none)) else (parallaxref4_List.l0 k x0 x3 (wrap64 (x4 + 1))))) else (some x3)
def parallaxref4_List.f (k : Nat) (a0 : Int) : Option (List Int) := parallaxref4_List.l0 k a0 ([] : List Int) 0
theorem parallaxref4_List.mono_l : ∀ k, (∀ y0 y1 y2, LeO (parallaxref4_List.l0 k y0 y1 y2) (parallaxref4_List.l0 (k + 1) y0 y1 y2))
  | 0 => fun _ _ _ r h => by simp [parallaxref4_List.l0] at h
  | k + 1 => by
    have ih0 := parallaxref4_List.mono_l k
    · intro y0 y1 y2
      unfold parallaxref4_List.l0
      repeat' first
      | (with_reducible exact ih0 _ _ _)
      | (with_reducible exact LeO.refl _)
      | (with_reducible exact LeO.none _)
      | (with_reducible refine LeO.ite ?_ ?_)
      | (with_reducible refine LeO.bind ?_ (fun _ => ?_))
      | exact ih0 _ _ _
      | exact LeO.none _
      | refine LeO.ite ?_ ?_
      | refine LeO.bind ?_ (fun _ => ?_)
theorem parallaxref4_List.mono : ∀ a0 k, LeO (parallaxref4_List.f k a0) (parallaxref4_List.f (k + 1) a0) := by
  intro a0 k
  have ih0 := parallaxref4_List.mono_l k
  unfold parallaxref4_List.f
  repeat' first
      | (with_reducible exact ih0 _ _ _)
      | (with_reducible exact LeO.refl _)
      | (with_reducible exact LeO.none _)
      | (with_reducible refine LeO.ite ?_ ?_)
      | (with_reducible refine LeO.bind ?_ (fun _ => ?_))
      | exact ih0 _ _ _
      | exact LeO.none _
      | refine LeO.ite ?_ ?_
      | refine LeO.bind ?_ (fun _ => ?_)
set_option maxHeartbeats 8000000 in
set_option maxRecDepth 100000 in
theorem parallaxref4_List.calls (k : Nat) (a0 : Int) (r : List Int) (w : World) (h : parallaxref4_List.f k a0 = some r) :
    Calls Tryd.prog 24 #[.int .u32 a0] w fun e w' => ∃ v0_ : Value, e = .returned (v0_) ∧ Kd.R (Kd.int .i64) 3 w' w.heap.size (fun _ => True) v0_ r ∧ Below w.heap.size w w' := by
  have HB := Aside0.mk (Below.refl w.heap.size w)
  have H : (parallaxref4_List.l0 k a0 ([] : List Int) 0) = some r := h
  clear h
  have H' := Aside0.mk H
  clear H
  go_enter Tryd.func24, Tryd.ntmps24
  go_wp2
  go_loopg [3, 4] k (fun kq v3 v4 w' => ∃ (x3_1 : List Int) (x4_1 : Int), v4 = .int .i64 x4_1 ∧ Aside0 (parallaxref4_List.l0 kq a0 x3_1 x4_1 = some r) ∧ Aside0 (kq ≤ k) ∧ Aside0 (Kd.R (Kd.int .i64) 3 w' w.heap.size (fun _ => True) v3 x3_1) ∧ Aside0 (Below w.heap.size w w'))
  case atStart => exact ⟨(([] : List Int)), (0), (by first | rfl | (simp; done) | (simp [*]; done)), H', ⟨Nat.le_refl _⟩, ⟨by first | exact Kd.R_nil _ _ _ _ _ | exact Kd.N_nil _ _ _ _ _ | exact Kd.V_nil _ _ _ _ _ | exact Kd.Q_nil _ _ _ _ _ | exact Kd.S_nil _ _ _ _ _⟩, ⟨by repeat (first | (with_reducible first | exact HB.out | apply below_alloc | apply pw_below_drewN | apply below_drew1) | exact HB.out)⟩⟩
  case round =>
    clear H'
    obtain ⟨x3_1, x4_1, rfl, HA, HK1, HO_3, HB⟩ := hrel
    cases gk with
    | zero => exact absurd HA.out (by simp [parallaxref4_List.l0])
    | succ k1 =>
      have H := HA.out
      clear HA
      simp only [parallaxref4_List.l0] at H
      by_cases c2 : x4_1 < 30
      · rw [if_pos c2] at H
        have c2b0 : decide (x4_1 < 30) = true := decide_eq_true c2
        clear c2
        replace H := Option.bind_eq_some_iff.mp H
        obtain ⟨t190, A30, H⟩ := H
        replace H : (if t190 = true then (if x3_1.length < 17592186044416 then (parallaxref4_List.l0 k1 a0 (x3_1 ++ [x4_1]) (wrap64 (x4_1 + 1))) else (none)) else (parallaxref4_List.l0 k1 a0 x3_1 (wrap64 (x4_1 + 1)))) = some r := H
        have A3 := Aside0.mk A30
        clear A30
        by_cases c4 : t190 = true
        · subst c4
          have H1 : (if x3_1.length < 17592186044416 then (parallaxref4_List.l0 k1 a0 (x3_1 ++ [x4_1]) (wrap64 (x4_1 + 1))) else (none)) = some r := by rw [if_pos rfl] at H; exact H
          clear H
          have H := H1
          clear H1
          by_cases c5 : x3_1.length < 17592186044416
          · rw [if_pos c5] at H
            have LMc5 := Aside0.mk c5
            clear c5
            obtain ⟨y191, hy191⟩ : ∃ y_ : List Int, y_ = (x3_1 ++ [x4_1]) := ⟨_, rfl⟩
            replace H : (parallaxref4_List.l0 k1 a0 y191 (wrap64 (x4_1 + 1))) = some r := by first | (rw [hy191]; with_reducible exact H) | (have H2_ := (Option.bind_some _ _).symm.trans H; rw [hy191]; with_reducible exact H2_) | (have H2_ := (Option.bind_some _ _).symm.trans H; with_reducible exact H2_) | with_reducible exact H | (rw [hy191]; exact H) | exact H
            have Ny191 := Aside0.mk hy191
            clear hy191
            have H' := Aside0.mk H
            clear H
            go_wp2_with (first | ((with_reducible refine gate_callee (f := 10) rfl ?_); refine goesL_ (some 11) rfl rfl Tryd.func10 (by kernel_rfl) rfl #[.int .u32 a0, .int .i64 x4_1] rfl (by (try simp only [List.map_toArray, List.map_cons, List.map_nil]); first | done | rfl | (simp only [List.length_drop, List.length_take]; rfl)) ?_; (with_reducible refine (parallaxref4_Has.calls a0 x4_1 true _ A3.out).mono ?_); rintro e w' ⟨rfl, ⟨nd, rfl⟩⟩; refine ⟨_, rfl, ?_⟩) | ((with_reducible refine gate_builtin (b := .append) (xs := #[.tmp 12, .tmp 14]) rfl ?_); at_builtin; refine Kd.R_append (Kd.int .i64) (w0 := w) w.heap.size rfl (.tmp 12) (.tmp 14) 23 3 (.int .i64 0) 8 rfl Tryd.underlying23 info3 rfl (by decide) (by omega) u3 x3_1 x4_1 [.int .i64 x4_1] (fun _ => True) (fun _ => False) rfl rfl ?aP (fun _ hk => hk.elim) ?aF ?aO ?aB ?aS ?aL ?_; (case aP => exact rfl); (case aB => exact (by repeat (first | (with_reducible first | exact HB.out | apply below_alloc | apply pw_below_drewN | apply below_drew1) | exact HB.out))); (case aF => exact (fun _ _ => trivial)); (case aO => exact (by (with_reducible repeat (first | apply Kd.R_alloc | apply Kd.R_drewN | apply Kd.R_drew)); exact HO_3.out)); (case aS => exact (below_size (by repeat (first | (with_reducible first | exact HB.out | apply below_alloc | apply pw_below_drewN | apply below_drew1) | exact HB.out)))); (case aL => have := LMc5.out; omega); intro v192 w6 ho hb hg hat; rw [← Ny191.out] at ho; have n0_ := Aside0.mk (hb); have n1_ := Aside0.mk (ho); clear HB; clear HO_3; have HB := n0_; have HO193 := n1_; clear n0_ n1_; clear ho hb hg hat))
            go_roundg k1
            case measure => have := HK1.out; omega
            case rel => exact ⟨(y191), (wrap64 (x4_1 + 1)), (by first | rfl | (simp; done) | (simp [*]; done)), H', ⟨by have := HK1.out; omega⟩, ⟨by (with_reducible repeat (first | apply Kd.R_alloc | apply Kd.R_drewN | apply Kd.R_drew)); exact HO193.out⟩, ⟨by repeat (first | (with_reducible first | exact HB.out | apply below_alloc | apply pw_below_drewN | apply below_drew1) | exact HB.out)⟩⟩
          · rw [if_neg c5] at H
            exact absurd H (by simp)
        · replace c4 := Bool.eq_false_iff.mpr c4
          subst c4
          have H1 : (parallaxref4_List.l0 k1 a0 x3_1 (wrap64 (x4_1 + 1))) = some r := by rw [if_neg (show ¬ (false = true) by decide)] at H; exact H
          clear H
          have H := H1
          clear H1
          have H' := Aside0.mk H
          clear H
          go_wp2_with (first | ((with_reducible refine gate_callee (f := 10) rfl ?_); refine goesL_ (some 11) rfl rfl Tryd.func10 (by kernel_rfl) rfl #[.int .u32 a0, .int .i64 x4_1] rfl (by (try simp only [List.map_toArray, List.map_cons, List.map_nil]); first | done | rfl | (simp only [List.length_drop, List.length_take]; rfl)) ?_; (with_reducible refine (parallaxref4_Has.calls a0 x4_1 false _ A3.out).mono ?_); rintro e w' ⟨rfl, ⟨nd, rfl⟩⟩; refine ⟨_, rfl, ?_⟩))
          go_roundg k1
          case measure => have := HK1.out; omega
          case rel => exact ⟨(x3_1), (wrap64 (x4_1 + 1)), (by first | rfl | (simp; done) | (simp [*]; done)), H', ⟨by have := HK1.out; omega⟩, ⟨by (with_reducible repeat (first | apply Kd.R_alloc | apply Kd.R_drewN | apply Kd.R_drew)); exact HO_3.out⟩, ⟨by repeat (first | (with_reducible first | exact HB.out | apply below_alloc | apply pw_below_drewN | apply below_drew1) | exact HB.out)⟩⟩
      · rw [if_neg c2] at H
        have c2b0 : decide (x4_1 < 30) = false := decide_eq_false c2
        clear c2
        obtain rfl := Option.some.inj H
        go_wp2
        go_ret
        exact ⟨_, by first | rfl | (simp [errW_none, errW_some] <;> rfl) | (simp [*, errW_none, errW_some] <;> rfl), by (with_reducible repeat (first | apply Kd.R_alloc | apply Kd.R_drewN | apply Kd.R_drew)); exact HO_3.out, by repeat (first | (with_reducible first | exact HB.out | apply below_alloc | apply pw_below_drewN | apply below_drew1) | exact HB.out)⟩

end Go.Proofs.YtjnphebgbdjohaaDoor.PQuirksTell
