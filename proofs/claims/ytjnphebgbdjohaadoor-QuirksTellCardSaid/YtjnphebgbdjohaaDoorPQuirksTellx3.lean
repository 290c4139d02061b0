-- Written by a program of this session (wip/tools/myprint.sh)
import Derived.Test.YtjnphebgbdjohaaDoorPQuirksTellx0
import Derived.Test.YtjnphebgbdjohaaDoorPQuirksTellx2
namespace Go.Proofs.YtjnphebgbdjohaaDoor.PQuirksTell
open Go.RowKit Go.Proofs.YtjnphebgbdjohaaDoorW.PrintWords Go.Proofs.YtjnphebgbdjohaaDoorW.PrintLast Go.Proofs.YtjnphebgbdjohaaDoorW.PrintMore
attribute [local go_sem] max2_int min2_int max_two min_two max_three min_three max_four min_four   -- for this text's walks alone
set_option linter.unusedVariables false
set_option linter.unusedSimpArgs false

/-! ### parallaxref4_Needs: function 14 -/
def parallaxref4_Needs.j0 : Nat → Int → Int → Int → Bool → Int → Int → Int → Int → Int → Int → Int → Int → Bool → Bool → Option (Bool)
  | 0, _, _, _, _, _, _, _, _, _, _, _, _, _, _ => none
  | k + 1, x0, x1, x7, x16, x165000, x165001, x165002, x165003, x165004, x165005, x165006, x165007, x165008, x165009 => if x16 = true then (some x165008) else (if x7 = 20 then (if x165009 = true then (if x165008 = true then (some true) else ((parallaxref4_Has.f x1 19).bind fun t166 => (if t166 = true then (some true) else ((parallaxref4_Has.f x1 22).bind fun t167 => (if t167 = true then ((parallaxref4_Has.f x1 21).bind fun t168 => (some (!t168))) else (some false)))))) else (some false)) else (if x7 = 22 then ((parallaxref4_Has.f x1 21).bind fun t169 => (some (!t169))) else (if x7 = 26 then ((parallaxref4_Has.f x1 25).bind fun t170 => (some (!t170))) else (if x0 ≥ 0 then (some (decide (x0 < 30))) else (some false)))))
def parallaxref4_Needs.f (k : Nat) (a0 : Int) (a1 : Int) (a2_0 : Int) (a2_1 : Int) (a2_2 : Int) (a2_3 : Int) (a2_4 : Int) (a2_5 : Int) (a2_6 : Int) (a2_7 : Int) (a2_8 : Bool) (a2_9 : Bool) : Option (Bool) := if a0 = 6 then (some a2_9) else (if a0 = 17 then ((parallaxref4_Has.f a1 14).bind fun t165 => (some t165)) else (if a0 = 18 then (parallaxref4_Needs.j0 k a0 a1 a0 (a0 == 18) a2_0 a2_1 a2_2 a2_3 a2_4 a2_5 a2_6 a2_7 a2_8 a2_9) else (if a0 = 21 then (parallaxref4_Needs.j0 k a0 a1 a0 (a0 == 21) a2_0 a2_1 a2_2 a2_3 a2_4 a2_5 a2_6 a2_7 a2_8 a2_9) else (if a0 = 27 then (parallaxref4_Needs.j0 k a0 a1 a0 (a0 == 27) a2_0 a2_1 a2_2 a2_3 a2_4 a2_5 a2_6 a2_7 a2_8 a2_9) else (if a0 = 28 then (parallaxref4_Needs.j0 k a0 a1 a0 (a0 == 28) a2_0 a2_1 a2_2 a2_3 a2_4 a2_5 a2_6 a2_7 a2_8 a2_9) else (parallaxref4_Needs.j0 k a0 a1 a0 (a0 == 29) a2_0 a2_1 a2_2 a2_3 a2_4 a2_5 a2_6 a2_7 a2_8 a2_9))))))
theorem parallaxref4_Needs.mono_l : ∀ k, (∀ y0 y1 y2 y3 y4 y5 y6 y7 y8 y9 y10 y11 y12 y13, LeO (parallaxref4_Needs.j0 k y0 y1 y2 y3 y4 y5 y6 y7 y8 y9 y10 y11 y12 y13) (parallaxref4_Needs.j0 (k + 1) y0 y1 y2 y3 y4 y5 y6 y7 y8 y9 y10 y11 y12 y13))
  | 0 => fun _ _ _ _ _ _ _ _ _ _ _ _ _ _ r h => by simp [parallaxref4_Needs.j0] at h
  | k + 1 => by
    have ih0 := parallaxref4_Needs.mono_l k
    · intro y0 y1 y2 y3 y4 y5 y6 y7 y8 y9 y10 y11 y12 y13
      unfold parallaxref4_Needs.j0
      repeat' first
      | (with_reducible exact ih0 _ _ _ _ _ _ _ _ _ _ _ _ _ _)
      | (with_reducible exact LeO.refl _)
      | (with_reducible exact LeO.none _)
      | (with_reducible refine LeO.ite ?_ ?_)
      | (with_reducible refine LeO.bind ?_ (fun _ => ?_))
      | exact ih0 _ _ _ _ _ _ _ _ _ _ _ _ _ _
      | exact LeO.none _
      | refine LeO.ite ?_ ?_
      | refine LeO.bind ?_ (fun _ => ?_)
theorem parallaxref4_Needs.mono : ∀ a0 a1 a2 a3 a4 a5 a6 a7 a8 a9 a10 a11 k, LeO (parallaxref4_Needs.f k a0 a1 a2 a3 a4 a5 a6 a7 a8 a9 a10 a11) (parallaxref4_Needs.f (k + 1) a0 a1 a2 a3 a4 a5 a6 a7 a8 a9 a10 a11) := by
  intro a0 a1 a2 a3 a4 a5 a6 a7 a8 a9 a10 a11 k
  have ih0 := parallaxref4_Needs.mono_l k
  unfold parallaxref4_Needs.f
  repeat' first
      | (with_reducible exact ih0 _ _ _ _ _ _ _ _ _ _ _ _ _ _)
      | (with_reducible exact LeO.refl _)
      | (with_reducible exact LeO.none _)
      | (with_reducible refine LeO.ite ?_ ?_)
      | (with_reducible refine LeO.bind ?_ (fun _ => ?_))
      | exact ih0 _ _ _ _ _ _ _ _ _ _ _ _ _ _
      | exact LeO.none _
      | refine LeO.ite ?_ ?_
      | refine LeO.bind ?_ (fun _ => ?_)
set_option maxHeartbeats 8000000 in
set_option maxRecDepth 100000 in
theorem parallaxref4_Needs.calls (k : Nat) (a0 : Int) (a1 : Int) (a2_0 : Int) (a2_1 : Int) (a2_2 : Int) (a2_3 : Int) (a2_4 : Int) (a2_5 : Int) (a2_6 : Int) (a2_7 : Int) (a2_8 : Bool) (a2_9 : Bool) (r : Bool) (w : World) (h : parallaxref4_Needs.f k a0 a1 a2_0 a2_1 a2_2 a2_3 a2_4 a2_5 a2_6 a2_7 a2_8 a2_9 = some r) :
    Calls Tryd.prog 14 #[.int .i64 a0, .int .u32 a1, .agg #[.int .i64 a2_0, .int .i64 a2_1, .int .i64 a2_2, .int .i64 a2_3, .int .i64 a2_4, .int .i64 a2_5, .int .i64 a2_6, .int .i64 a2_7, .bool a2_8, .bool a2_9]] w fun e w' => e = .returned (.bool r) ∧ Below w.heap.size w w' := by
  have hu25 := Tryd.underlying25
  have HB := Aside0.mk (Below.refl w.heap.size w)
  have H : (if a0 = 6 then (some a2_9) else (if a0 = 17 then ((parallaxref4_Has.f a1 14).bind fun t165 => (some t165)) else (if a0 = 18 then (parallaxref4_Needs.j0 k a0 a1 a0 (a0 == 18) a2_0 a2_1 a2_2 a2_3 a2_4 a2_5 a2_6 a2_7 a2_8 a2_9) else (if a0 = 21 then (parallaxref4_Needs.j0 k a0 a1 a0 (a0 == 21) a2_0 a2_1 a2_2 a2_3 a2_4 a2_5 a2_6 a2_7 a2_8 a2_9) else (if a0 = 27 then (parallaxref4_Needs.j0 k a0 a1 a0 (a0 == 27) a2_0 a2_1 a2_2 a2_3 a2_4 a2_5 a2_6 a2_7 a2_8 a2_9) else (if a0 = 28 then (parallaxref4_Needs.j0 k a0 a1 a0 (a0 == 28) a2_0 a2_1 a2_2 a2_3 a2_4 a2_5 a2_6 a2_7 a2_8 a2_9) else (parallaxref4_Needs.j0 k a0 a1 a0 (a0 == 29) a2_0 a2_1 a2_2 a2_3 a2_4 a2_5 a2_6 a2_7 a2_8 a2_9))))))) = some r := h
  clear h
  by_cases c4 : a0 = 6
  · rw [if_pos c4] at H
    have c4b0 : (a0 == 6) = true := beq_iff_eq.mpr c4
    have c4b1 : (a0 != 6) = false := bne_eq_false_iff_eq.mpr c4
    clear c4
    obtain rfl := Option.some.inj H
    go_enter Tryd.func14, Tryd.ntmps14
    go_wp2_with (first | ((with_reducible refine gate_dst (N := 5) rfl ?_); refine box_event ?hg (N := 5) ?hd (cs := #[.int .i64 a2_0, .int .i64 a2_1, .int .i64 a2_2, .int .i64 a2_3, .int .i64 a2_4, .int .i64 a2_5, .int .i64 a2_6, .int .i64 a2_7, .bool a2_8, .bool a2_9]) (t := 25) ?hr ?_; (case hd => rfl); (case hg => rfl); (case hr => first | (go_simp; done) | (go_simp; rfl)); intro gb164 hg w5 hbox hb; have n0_ := Aside0.mk (below_step (by repeat (first | (with_reducible first | exact HB.out | apply below_alloc | apply pw_below_drewN | apply below_drew1) | exact HB.out)) hb); have n1_ := Aside0.mk (hbox); have n2_ := Aside0.mk ((by rw [hg]; exact (below_size (by repeat (first | (with_reducible first | exact HB.out | apply below_alloc | apply pw_below_drewN | apply below_drew1) | exact HB.out))) : w.heap.size ≤ gb164)); have n3_ := Aside0.mk ((by rw [hg]; exact (below_size (by repeat (first | (with_reducible first | exact HB.out | apply below_alloc | apply pw_below_drewN | apply below_drew1) | exact HB.out))) : w.heap.size ≤ gb164)); clear HB; have HB := n0_; have BK164 := n1_; have GW164 := n2_; have GE164 := n3_; clear n0_ n1_ n2_ n3_; clear hb hbox hg; have hcz6_0 : w5.cell? ⟨gb164, 0, none⟩ = some (.int .i64 a2_0) := (blk_cell BK164.out 0).trans rfl; have hcz6_1 : w5.cell? ⟨gb164, 1, none⟩ = some (.int .i64 a2_1) := (blk_cell BK164.out 1).trans rfl; have hcz6_2 : w5.cell? ⟨gb164, 2, none⟩ = some (.int .i64 a2_2) := (blk_cell BK164.out 2).trans rfl; have hcz6_3 : w5.cell? ⟨gb164, 3, none⟩ = some (.int .i64 a2_3) := (blk_cell BK164.out 3).trans rfl; have hcz6_4 : w5.cell? ⟨gb164, 4, none⟩ = some (.int .i64 a2_4) := (blk_cell BK164.out 4).trans rfl; have hcz6_5 : w5.cell? ⟨gb164, 5, none⟩ = some (.int .i64 a2_5) := (blk_cell BK164.out 5).trans rfl; have hcz6_6 : w5.cell? ⟨gb164, 6, none⟩ = some (.int .i64 a2_6) := (blk_cell BK164.out 6).trans rfl; have hcz6_7 : w5.cell? ⟨gb164, 7, none⟩ = some (.int .i64 a2_7) := (blk_cell BK164.out 7).trans rfl; have hcz6_8 : w5.cell? ⟨gb164, 8, none⟩ = some (.bool a2_8) := (blk_cell BK164.out 8).trans rfl; have hcz6_9 : w5.cell? ⟨gb164, 9, none⟩ = some (.bool a2_9) := (blk_cell BK164.out 9).trans rfl; have hfz6_0 := blk_frozen BK164.out 0; have hfz6_1 := blk_frozen BK164.out 1; have hfz6_2 := blk_frozen BK164.out 2; have hfz6_3 := blk_frozen BK164.out 3; have hfz6_4 := blk_frozen BK164.out 4; have hfz6_5 := blk_frozen BK164.out 5; have hfz6_6 := blk_frozen BK164.out 6; have hfz6_7 := blk_frozen BK164.out 7; have hfz6_8 := blk_frozen BK164.out 8; have hfz6_9 := blk_frozen BK164.out 9))
    go_ret
    exact ⟨by first | rfl | (simp [errW_none, errW_some] <;> rfl) | (simp [*, errW_none, errW_some] <;> rfl), by repeat (first | (with_reducible first | exact HB.out | apply below_alloc | apply pw_below_drewN | apply below_drew1 | refine below_set ?_ GE164.out) | exact HB.out)⟩
  · rw [if_neg c4] at H
    have c4b0 : (a0 == 6) = false := beq_eq_false_iff_ne.mpr c4
    have c4b1 : (a0 != 6) = true := bne_iff_ne.mpr c4
    by_cases c7 : a0 = 17
    · rw [if_pos c7] at H
      have c7b0 : (a0 == 17) = true := beq_iff_eq.mpr c7
      have c7b1 : (a0 != 17) = false := bne_eq_false_iff_eq.mpr c7
      clear c7
      replace H := Option.bind_eq_some_iff.mp H
      obtain ⟨t165, A80, H⟩ := H
      replace H : (some t165) = some r := H
      have A8 := Aside0.mk A80
      clear A80
      obtain rfl := Option.some.inj H
      go_enter Tryd.func14, Tryd.ntmps14
      go_wp2_with (first | ((with_reducible refine gate_dst (N := 5) rfl ?_); refine box_event ?hg (N := 5) ?hd (cs := #[.int .i64 a2_0, .int .i64 a2_1, .int .i64 a2_2, .int .i64 a2_3, .int .i64 a2_4, .int .i64 a2_5, .int .i64 a2_6, .int .i64 a2_7, .bool a2_8, .bool a2_9]) (t := 25) ?hr ?_; (case hd => rfl); (case hg => rfl); (case hr => first | (go_simp; done) | (go_simp; rfl)); intro gb164 hg w9 hbox hb; have n0_ := Aside0.mk (below_step (by repeat (first | (with_reducible first | exact HB.out | apply below_alloc | apply pw_below_drewN | apply below_drew1) | exact HB.out)) hb); have n1_ := Aside0.mk (hbox); have n2_ := Aside0.mk ((by rw [hg]; exact (below_size (by repeat (first | (with_reducible first | exact HB.out | apply below_alloc | apply pw_below_drewN | apply below_drew1) | exact HB.out))) : w.heap.size ≤ gb164)); have n3_ := Aside0.mk ((by rw [hg]; exact (below_size (by repeat (first | (with_reducible first | exact HB.out | apply below_alloc | apply pw_below_drewN | apply below_drew1) | exact HB.out))) : w.heap.size ≤ gb164)); clear HB; have HB := n0_; have BK164 := n1_; have GW164 := n2_; have GE164 := n3_; clear n0_ n1_ n2_ n3_; clear hb hbox hg) | ((with_reducible refine gate_callee (f := 10) rfl ?_); refine goesL_ (some 15) rfl rfl Tryd.func10 (by kernel_rfl) rfl #[.int .u32 a1, .int .i64 14] rfl (by (try simp only [List.map_toArray, List.map_cons, List.map_nil]); first | done | rfl | (simp only [List.length_drop, List.length_take]; rfl)) ?_; (with_reducible refine (parallaxref4_Has.calls a1 14 t165 _ A8.out).mono ?_); rintro e w' ⟨rfl, ⟨nd, rfl⟩⟩; refine ⟨_, rfl, ?_⟩))
      go_ret
      exact ⟨by first | rfl | (simp [errW_none, errW_some] <;> rfl) | (simp [*, errW_none, errW_some] <;> rfl), by repeat (first | (with_reducible first | exact HB.out | apply below_alloc | apply pw_below_drewN | apply below_drew1 | refine below_set ?_ GE164.out) | exact HB.out)⟩
    · rw [if_neg c7] at H
      have c7b0 : (a0 == 17) = false := beq_eq_false_iff_ne.mpr c7
      have c7b1 : (a0 != 17) = true := bne_iff_ne.mpr c7
      have HC10 := Aside0.mk H
      clear H
      go_enter Tryd.func14, Tryd.ntmps14
      go_upto_if 16 with (first | ((with_reducible refine gate_dst (N := 5) rfl ?_); refine box_event ?hg (N := 5) ?hd (cs := #[.int .i64 a2_0, .int .i64 a2_1, .int .i64 a2_2, .int .i64 a2_3, .int .i64 a2_4, .int .i64 a2_5, .int .i64 a2_6, .int .i64 a2_7, .bool a2_8, .bool a2_9]) (t := 25) ?hr ?_; (case hd => rfl); (case hg => rfl); (case hr => first | (go_simp; done) | (go_simp; rfl)); intro gb164 hg w11 hbox hb; have n0_ := Aside0.mk (below_step (by repeat (first | (with_reducible first | exact HB.out | apply below_alloc | apply pw_below_drewN | apply below_drew1) | exact HB.out)) hb); have n1_ := Aside0.mk (hbox); have n2_ := Aside0.mk ((by rw [hg]; exact (below_size (by repeat (first | (with_reducible first | exact HB.out | apply below_alloc | apply pw_below_drewN | apply below_drew1) | exact HB.out))) : w.heap.size ≤ gb164)); have n3_ := Aside0.mk ((by rw [hg]; exact (below_size (by repeat (first | (with_reducible first | exact HB.out | apply below_alloc | apply pw_below_drewN | apply below_drew1) | exact HB.out))) : w.heap.size ≤ gb164)); clear HB; have HB := n0_; have BK164 := n1_; have GW164 := n2_; have GE164 := n3_; clear n0_ n1_ n2_ n3_; clear hb hbox hg))
      (try simp only [Act.put, List.setIfInBounds_toArray, List.set_cons_zero, List.set_cons_succ])
      go_cut [16] (fun v16 wc => ∃ (kq : Nat) (x16_9 : Bool), v16 = .bool x16_9 ∧ Aside0 (parallaxref4_Needs.j0 kq a0 a1 a0 x16_9 a2_0 a2_1 a2_2 a2_3 a2_4 a2_5 a2_6 a2_7 a2_8 a2_9 = some r) ∧ Aside0 (kq ≤ k) ∧ Aside0 (wc.heap[gb164]? = some (.cells #[.int .i64 a2_0, .int .i64 a2_1, .int .i64 a2_2, .int .i64 a2_3, .int .i64 a2_4, .int .i64 a2_5, .int .i64 a2_6, .int .i64 a2_7, .bool a2_8, .bool a2_9] 25 (0, 0))) ∧ Aside0 (Below w.heap.size w wc))
      case first =>
        have H := HC10.out
        clear HC10
        by_cases c12 : a0 = 18
        · rw [if_pos c12] at H
          have c12b0 : (a0 == 18) = true := beq_iff_eq.mpr c12
          have c12b1 : (a0 != 18) = false := bne_eq_false_iff_eq.mpr c12
          clear c12
          (first | rw [c12b0] | (simp only [i64_w, i32_w]; rw [c12b0]) | skip)
          have H' := Aside0.mk H
          clear H
          go_wp2
          go_meet
          case rel => exact ⟨_, ((a0 == 18)), (by first | rfl | (simp; done) | (simp [*]; done)), H', ⟨by first | omega | exact Nat.le_refl _⟩, ⟨by (with_reducible repeat (first | refine blk_drewN ?_ _ | refine blk_drew ?_ | refine blk_alloc ?_ _)); exact BK164.out⟩, ⟨by repeat (first | (with_reducible first | exact HB.out | apply below_alloc | apply pw_below_drewN | apply below_drew1 | refine below_set ?_ GE164.out) | exact HB.out)⟩⟩
        · rw [if_neg c12] at H
          have c12b0 : (a0 == 18) = false := beq_eq_false_iff_ne.mpr c12
          have c12b1 : (a0 != 18) = true := bne_iff_ne.mpr c12
          (first | rw [c12b0] | (simp only [i64_w, i32_w]; rw [c12b0]) | skip)
          by_cases c13 : a0 = 21
          · rw [if_pos c13] at H
            have c13b0 : (a0 == 21) = true := beq_iff_eq.mpr c13
            have c13b1 : (a0 != 21) = false := bne_eq_false_iff_eq.mpr c13
            clear c13
            have H' := Aside0.mk H
            clear H
            go_wp2
            go_meet
            case rel => exact ⟨_, ((a0 == 21)), (by first | rfl | (simp; done) | (simp [*]; done)), H', ⟨by first | omega | exact Nat.le_refl _⟩, ⟨by (with_reducible repeat (first | refine blk_drewN ?_ _ | refine blk_drew ?_ | refine blk_alloc ?_ _)); exact BK164.out⟩, ⟨by repeat (first | (with_reducible first | exact HB.out | apply below_alloc | apply pw_below_drewN | apply below_drew1 | refine below_set ?_ GE164.out) | exact HB.out)⟩⟩
          · rw [if_neg c13] at H
            have c13b0 : (a0 == 21) = false := beq_eq_false_iff_ne.mpr c13
            have c13b1 : (a0 != 21) = true := bne_iff_ne.mpr c13
            by_cases c14 : a0 = 27
            · rw [if_pos c14] at H
              have c14b0 : (a0 == 27) = true := beq_iff_eq.mpr c14
              have c14b1 : (a0 != 27) = false := bne_eq_false_iff_eq.mpr c14
              clear c14
              have H' := Aside0.mk H
              clear H
              go_wp2
              go_meet
              case rel => exact ⟨_, ((a0 == 27)), (by first | rfl | (simp; done) | (simp [*]; done)), H', ⟨by first | omega | exact Nat.le_refl _⟩, ⟨by (with_reducible repeat (first | refine blk_drewN ?_ _ | refine blk_drew ?_ | refine blk_alloc ?_ _)); exact BK164.out⟩, ⟨by repeat (first | (with_reducible first | exact HB.out | apply below_alloc | apply pw_below_drewN | apply below_drew1 | refine below_set ?_ GE164.out) | exact HB.out)⟩⟩
            · rw [if_neg c14] at H
              have c14b0 : (a0 == 27) = false := beq_eq_false_iff_ne.mpr c14
              have c14b1 : (a0 != 27) = true := bne_iff_ne.mpr c14
              by_cases c15 : a0 = 28
              · rw [if_pos c15] at H
                have c15b0 : (a0 == 28) = true := beq_iff_eq.mpr c15
                have c15b1 : (a0 != 28) = false := bne_eq_false_iff_eq.mpr c15
                clear c15
                have H' := Aside0.mk H
                clear H
                go_wp2
                go_meet
                case rel => exact ⟨_, ((a0 == 28)), (by first | rfl | (simp; done) | (simp [*]; done)), H', ⟨by first | omega | exact Nat.le_refl _⟩, ⟨by (with_reducible repeat (first | refine blk_drewN ?_ _ | refine blk_drew ?_ | refine blk_alloc ?_ _)); exact BK164.out⟩, ⟨by repeat (first | (with_reducible first | exact HB.out | apply below_alloc | apply pw_below_drewN | apply below_drew1 | refine below_set ?_ GE164.out) | exact HB.out)⟩⟩
              · rw [if_neg c15] at H
                have c15b0 : (a0 == 28) = false := beq_eq_false_iff_ne.mpr c15
                have c15b1 : (a0 != 28) = true := bne_iff_ne.mpr c15
                have H' := Aside0.mk H
                clear H
                go_wp2
                go_meet
                case rel => exact ⟨_, ((a0 == 29)), (by first | rfl | (simp; done) | (simp [*]; done)), H', ⟨by first | omega | exact Nat.le_refl _⟩, ⟨by (with_reducible repeat (first | refine blk_drewN ?_ _ | refine blk_drew ?_ | refine blk_alloc ?_ _)); exact BK164.out⟩, ⟨by repeat (first | (with_reducible first | exact HB.out | apply below_alloc | apply pw_below_drewN | apply below_drew1 | refine below_set ?_ GE164.out) | exact HB.out)⟩⟩
      case rest =>
        clear HC10
        try clear c1
        try clear p2
        try clear c4
        try clear c4b0
        try clear c4b1
        try clear c7
        try clear c7b0
        try clear c7b1
        try clear c10
        try clear c12
        try clear c12b0
        try clear c12b1
        try clear c13
        try clear c13b0
        try clear c13b1
        try clear c14
        try clear c14b0
        try clear c14b1
        try clear c15
        try clear c15b0
        try clear c15b1
        try clear hcz6_0
        try clear hcz6_1
        try clear hcz6_2
        try clear hcz6_3
        try clear hcz6_4
        try clear hcz6_5
        try clear hcz6_6
        try clear hcz6_7
        try clear hcz6_8
        try clear hcz6_9
        try clear hfz6_0
        try clear hfz6_1
        try clear hfz6_2
        try clear hfz6_3
        try clear hfz6_4
        try clear hfz6_5
        try clear hfz6_6
        try clear hfz6_7
        try clear hfz6_8
        try clear hfz6_9
        obtain ⟨kq, x16_9, rfl, HA, HJ9, BK164, HB⟩ := hcut
        cases kq with
        | zero => exact absurd HA.out (by simp [parallaxref4_Needs.j0])
        | succ kj9 =>
          have H := HA.out
          clear HA
          simp only [parallaxref4_Needs.j0] at H
          by_cases c16 : x16_9 = true
          · subst c16
            have H1 : (some a2_8) = some r := by rw [if_pos rfl] at H; exact H
            clear H
            have H := H1
            clear H1
            obtain rfl := Option.some.inj H
            have hcz17_0 : wc.cell? ⟨gb164, 0, none⟩ = some (.int .i64 a2_0) := (blk_cell BK164.out 0).trans rfl
            have hcz17_1 : wc.cell? ⟨gb164, 1, none⟩ = some (.int .i64 a2_1) := (blk_cell BK164.out 1).trans rfl
            have hcz17_2 : wc.cell? ⟨gb164, 2, none⟩ = some (.int .i64 a2_2) := (blk_cell BK164.out 2).trans rfl
            have hcz17_3 : wc.cell? ⟨gb164, 3, none⟩ = some (.int .i64 a2_3) := (blk_cell BK164.out 3).trans rfl
            have hcz17_4 : wc.cell? ⟨gb164, 4, none⟩ = some (.int .i64 a2_4) := (blk_cell BK164.out 4).trans rfl
            have hcz17_5 : wc.cell? ⟨gb164, 5, none⟩ = some (.int .i64 a2_5) := (blk_cell BK164.out 5).trans rfl
            have hcz17_6 : wc.cell? ⟨gb164, 6, none⟩ = some (.int .i64 a2_6) := (blk_cell BK164.out 6).trans rfl
            have hcz17_7 : wc.cell? ⟨gb164, 7, none⟩ = some (.int .i64 a2_7) := (blk_cell BK164.out 7).trans rfl
            have hcz17_8 : wc.cell? ⟨gb164, 8, none⟩ = some (.bool a2_8) := (blk_cell BK164.out 8).trans rfl
            have hcz17_9 : wc.cell? ⟨gb164, 9, none⟩ = some (.bool a2_9) := (blk_cell BK164.out 9).trans rfl
            have hfz17_0 := blk_frozen BK164.out 0
            have hfz17_1 := blk_frozen BK164.out 1
            have hfz17_2 := blk_frozen BK164.out 2
            have hfz17_3 := blk_frozen BK164.out 3
            have hfz17_4 := blk_frozen BK164.out 4
            have hfz17_5 := blk_frozen BK164.out 5
            have hfz17_6 := blk_frozen BK164.out 6
            have hfz17_7 := blk_frozen BK164.out 7
            have hfz17_8 := blk_frozen BK164.out 8
            have hfz17_9 := blk_frozen BK164.out 9
            go_wp2
            go_ret
            exact ⟨by first | rfl | (simp [errW_none, errW_some] <;> rfl) | (simp [*, errW_none, errW_some] <;> rfl), by repeat (first | (with_reducible first | exact HB.out | apply below_alloc | apply pw_below_drewN | apply below_drew1 | refine below_set ?_ GE164.out) | exact HB.out)⟩
          · replace c16 := Bool.eq_false_iff.mpr c16
            subst c16
            have H1 : (if a0 = 20 then (if a2_9 = true then (if a2_8 = true then (some true) else ((parallaxref4_Has.f a1 19).bind fun t166 => (if t166 = true then (some true) else ((parallaxref4_Has.f a1 22).bind fun t167 => (if t167 = true then ((parallaxref4_Has.f a1 21).bind fun t168 => (some (!t168))) else (some false)))))) else (some false)) else (if a0 = 22 then ((parallaxref4_Has.f a1 21).bind fun t169 => (some (!t169))) else (if a0 = 26 then ((parallaxref4_Has.f a1 25).bind fun t170 => (some (!t170))) else (if a0 ≥ 0 then (some (decide (a0 < 30))) else (some false))))) = some r := by rw [if_neg (show ¬ (false = true) by decide)] at H; exact H
            clear H
            have H := H1
            clear H1
            by_cases c18 : a0 = 20
            · rw [if_pos c18] at H
              have c18b0 : (a0 == 20) = true := beq_iff_eq.mpr c18
              have c18b1 : (a0 != 20) = false := bne_eq_false_iff_eq.mpr c18
              clear c18
              by_cases c19 : a2_9 = true
              · subst c19
                have H1 : (if a2_8 = true then (some true) else ((parallaxref4_Has.f a1 19).bind fun t166 => (if t166 = true then (some true) else ((parallaxref4_Has.f a1 22).bind fun t167 => (if t167 = true then ((parallaxref4_Has.f a1 21).bind fun t168 => (some (!t168))) else (some false)))))) = some r := by rw [if_pos rfl] at H; exact H
                clear H
                have H := H1
                clear H1
                by_cases c20 : a2_8 = true
                · subst c20
                  have H1 : (some true) = some r := by rw [if_pos rfl] at H; exact H
                  clear H
                  have H := H1
                  clear H1
                  obtain rfl := Option.some.inj H
                  have hcz21_0 : wc.cell? ⟨gb164, 0, none⟩ = some (.int .i64 a2_0) := (blk_cell BK164.out 0).trans rfl
                  have hcz21_1 : wc.cell? ⟨gb164, 1, none⟩ = some (.int .i64 a2_1) := (blk_cell BK164.out 1).trans rfl
                  have hcz21_2 : wc.cell? ⟨gb164, 2, none⟩ = some (.int .i64 a2_2) := (blk_cell BK164.out 2).trans rfl
                  have hcz21_3 : wc.cell? ⟨gb164, 3, none⟩ = some (.int .i64 a2_3) := (blk_cell BK164.out 3).trans rfl
                  have hcz21_4 : wc.cell? ⟨gb164, 4, none⟩ = some (.int .i64 a2_4) := (blk_cell BK164.out 4).trans rfl
                  have hcz21_5 : wc.cell? ⟨gb164, 5, none⟩ = some (.int .i64 a2_5) := (blk_cell BK164.out 5).trans rfl
                  have hcz21_6 : wc.cell? ⟨gb164, 6, none⟩ = some (.int .i64 a2_6) := (blk_cell BK164.out 6).trans rfl
                  have hcz21_7 : wc.cell? ⟨gb164, 7, none⟩ = some (.int .i64 a2_7) := (blk_cell BK164.out 7).trans rfl
                  have hcz21_8 : wc.cell? ⟨gb164, 8, none⟩ = some (.bool true) := (blk_cell BK164.out 8).trans rfl
                  have hcz21_9 : wc.cell? ⟨gb164, 9, none⟩ = some (.bool true) := (blk_cell BK164.out 9).trans rfl
                  have hfz21_0 := blk_frozen BK164.out 0
                  have hfz21_1 := blk_frozen BK164.out 1
                  have hfz21_2 := blk_frozen BK164.out 2
                  have hfz21_3 := blk_frozen BK164.out 3
                  have hfz21_4 := blk_frozen BK164.out 4
                  have hfz21_5 := blk_frozen BK164.out 5
                  have hfz21_6 := blk_frozen BK164.out 6
                  have hfz21_7 := blk_frozen BK164.out 7
                  have hfz21_8 := blk_frozen BK164.out 8
                  have hfz21_9 := blk_frozen BK164.out 9
                  go_wp2
                  go_ret
                  exact ⟨by first | rfl | (simp [errW_none, errW_some] <;> rfl) | (simp [*, errW_none, errW_some] <;> rfl), by repeat (first | (with_reducible first | exact HB.out | apply below_alloc | apply pw_below_drewN | apply below_drew1 | refine below_set ?_ GE164.out) | exact HB.out)⟩
                · replace c20 := Bool.eq_false_iff.mpr c20
                  subst c20
                  have H1 : ((parallaxref4_Has.f a1 19).bind fun t166 => (if t166 = true then (some true) else ((parallaxref4_Has.f a1 22).bind fun t167 => (if t167 = true then ((parallaxref4_Has.f a1 21).bind fun t168 => (some (!t168))) else (some false))))) = some r := by rw [if_neg (show ¬ (false = true) by decide)] at H; exact H
                  clear H
                  have H := H1
                  clear H1
                  replace H := Option.bind_eq_some_iff.mp H
                  obtain ⟨t166, A220, H⟩ := H
                  replace H : (if t166 = true then (some true) else ((parallaxref4_Has.f a1 22).bind fun t167 => (if t167 = true then ((parallaxref4_Has.f a1 21).bind fun t168 => (some (!t168))) else (some false)))) = some r := H
                  have A22 := Aside0.mk A220
                  clear A220
                  by_cases c23 : t166 = true
                  · subst c23
                    have H1 : (some true) = some r := by rw [if_pos rfl] at H; exact H
                    clear H
                    have H := H1
                    clear H1
                    obtain rfl := Option.some.inj H
                    have hcz24_0 : wc.cell? ⟨gb164, 0, none⟩ = some (.int .i64 a2_0) := (blk_cell BK164.out 0).trans rfl
                    have hcz24_1 : wc.cell? ⟨gb164, 1, none⟩ = some (.int .i64 a2_1) := (blk_cell BK164.out 1).trans rfl
                    have hcz24_2 : wc.cell? ⟨gb164, 2, none⟩ = some (.int .i64 a2_2) := (blk_cell BK164.out 2).trans rfl
                    have hcz24_3 : wc.cell? ⟨gb164, 3, none⟩ = some (.int .i64 a2_3) := (blk_cell BK164.out 3).trans rfl
                    have hcz24_4 : wc.cell? ⟨gb164, 4, none⟩ = some (.int .i64 a2_4) := (blk_cell BK164.out 4).trans rfl
                    have hcz24_5 : wc.cell? ⟨gb164, 5, none⟩ = some (.int .i64 a2_5) := (blk_cell BK164.out 5).trans rfl
                    have hcz24_6 : wc.cell? ⟨gb164, 6, none⟩ = some (.int .i64 a2_6) := (blk_cell BK164.out 6).trans rfl
                    have hcz24_7 : wc.cell? ⟨gb164, 7, none⟩ = some (.int .i64 a2_7) := (blk_cell BK164.out 7).trans rfl
                    have hcz24_8 : wc.cell? ⟨gb164, 8, none⟩ = some (.bool false) := (blk_cell BK164.out 8).trans rfl
                    have hcz24_9 : wc.cell? ⟨gb164, 9, none⟩ = some (.bool true) := (blk_cell BK164.out 9).trans rfl
                    have hfz24_0 := blk_frozen BK164.out 0
                    have hfz24_1 := blk_frozen BK164.out 1
                    have hfz24_2 := blk_frozen BK164.out 2
                    have hfz24_3 := blk_frozen BK164.out 3
                    have hfz24_4 := blk_frozen BK164.out 4
                    have hfz24_5 := blk_frozen BK164.out 5
                    have hfz24_6 := blk_frozen BK164.out 6
                    have hfz24_7 := blk_frozen BK164.out 7
                    have hfz24_8 := blk_frozen BK164.out 8
                    have hfz24_9 := blk_frozen BK164.out 9
                    go_wp2_with (first | (go_at_call 10; (with_reducible refine (parallaxref4_Has.calls a1 19 true _ A22.out).mono ?_); rintro e w' ⟨rfl, ⟨nd, rfl⟩⟩))
                    go_ret
                    exact ⟨by first | rfl | (simp [errW_none, errW_some] <;> rfl) | (simp [*, errW_none, errW_some] <;> rfl), by repeat (first | (with_reducible first | exact HB.out | apply below_alloc | apply pw_below_drewN | apply below_drew1 | refine below_set ?_ GE164.out) | exact HB.out)⟩
                  · replace c23 := Bool.eq_false_iff.mpr c23
                    subst c23
                    have H1 : ((parallaxref4_Has.f a1 22).bind fun t167 => (if t167 = true then ((parallaxref4_Has.f a1 21).bind fun t168 => (some (!t168))) else (some false))) = some r := by rw [if_neg (show ¬ (false = true) by decide)] at H; exact H
                    clear H
                    have H := H1
                    clear H1
                    replace H := Option.bind_eq_some_iff.mp H
                    obtain ⟨t167, A250, H⟩ := H
                    replace H : (if t167 = true then ((parallaxref4_Has.f a1 21).bind fun t168 => (some (!t168))) else (some false)) = some r := H
                    have A25 := Aside0.mk A250
                    clear A250
                    by_cases c26 : t167 = true
                    · subst c26
                      have H1 : ((parallaxref4_Has.f a1 21).bind fun t168 => (some (!t168))) = some r := by rw [if_pos rfl] at H; exact H
                      clear H
                      have H := H1
                      clear H1
                      replace H := Option.bind_eq_some_iff.mp H
                      obtain ⟨t168, A270, H⟩ := H
                      replace H : (some (!t168)) = some r := H
                      have A27 := Aside0.mk A270
                      clear A270
                      obtain rfl := Option.some.inj H
                      have hcz28_0 : wc.cell? ⟨gb164, 0, none⟩ = some (.int .i64 a2_0) := (blk_cell BK164.out 0).trans rfl
                      have hcz28_1 : wc.cell? ⟨gb164, 1, none⟩ = some (.int .i64 a2_1) := (blk_cell BK164.out 1).trans rfl
                      have hcz28_2 : wc.cell? ⟨gb164, 2, none⟩ = some (.int .i64 a2_2) := (blk_cell BK164.out 2).trans rfl
                      have hcz28_3 : wc.cell? ⟨gb164, 3, none⟩ = some (.int .i64 a2_3) := (blk_cell BK164.out 3).trans rfl
                      have hcz28_4 : wc.cell? ⟨gb164, 4, none⟩ = some (.int .i64 a2_4) := (blk_cell BK164.out 4).trans rfl
                      have hcz28_5 : wc.cell? ⟨gb164, 5, none⟩ = some (.int .i64 a2_5) := (blk_cell BK164.out 5).trans rfl
                      have hcz28_6 : wc.cell? ⟨gb164, 6, none⟩ = some (.int .i64 a2_6) := (blk_cell BK164.out 6).trans rfl
                      have hcz28_7 : wc.cell? ⟨gb164, 7, none⟩ = some (.int .i64 a2_7) := (blk_cell BK164.out 7).trans rfl
                      have hcz28_8 : wc.cell? ⟨gb164, 8, none⟩ = some (.bool false) := (blk_cell BK164.out 8).trans rfl
                      have hcz28_9 : wc.cell? ⟨gb164, 9, none⟩ = some (.bool true) := (blk_cell BK164.out 9).trans rfl
                      have hfz28_0 := blk_frozen BK164.out 0
                      have hfz28_1 := blk_frozen BK164.out 1
                      have hfz28_2 := blk_frozen BK164.out 2
                      have hfz28_3 := blk_frozen BK164.out 3
                      have hfz28_4 := blk_frozen BK164.out 4
                      have hfz28_5 := blk_frozen BK164.out 5
                      have hfz28_6 := blk_frozen BK164.out 6
                      have hfz28_7 := blk_frozen BK164.out 7
                      have hfz28_8 := blk_frozen BK164.out 8
                      have hfz28_9 := blk_frozen BK164.out 9
                      go_wp2_with (first | (go_at_call 10; (with_reducible refine (parallaxref4_Has.calls a1 19 false _ A22.out).mono ?_); rintro e w' ⟨rfl, ⟨nd, rfl⟩⟩) | (go_at_call 10; (with_reducible refine (parallaxref4_Has.calls a1 22 true _ A25.out).mono ?_); rintro e w' ⟨rfl, ⟨nd, rfl⟩⟩) | (go_at_call 10; (with_reducible refine (parallaxref4_Has.calls a1 21 t168 _ A27.out).mono ?_); rintro e w' ⟨rfl, ⟨nd, rfl⟩⟩))
                      go_ret
                      exact ⟨by first | rfl | (simp [errW_none, errW_some] <;> rfl) | (simp [*, errW_none, errW_some] <;> rfl), by repeat (first | (with_reducible first | exact HB.out | apply below_alloc | apply pw_below_drewN | apply below_drew1 | refine below_set ?_ GE164.out) | exact HB.out)⟩
                    · replace c26 := Bool.eq_false_iff.mpr c26
                      subst c26
                      have H1 : (some false) = some r := by rw [if_neg (show ¬ (false = true) by decide)] at H; exact H
                      clear H
                      have H := H1
                      clear H1
                      obtain rfl := Option.some.inj H
                      have hcz29_0 : wc.cell? ⟨gb164, 0, none⟩ = some (.int .i64 a2_0) := (blk_cell BK164.out 0).trans rfl
                      have hcz29_1 : wc.cell? ⟨gb164, 1, none⟩ = some (.int .i64 a2_1) := (blk_cell BK164.out 1).trans rfl
                      have hcz29_2 : wc.cell? ⟨gb164, 2, none⟩ = some (.int .i64 a2_2) := (blk_cell BK164.out 2).trans rfl
                      have hcz29_3 : wc.cell? ⟨gb164, 3, none⟩ = some (.int .i64 a2_3) := (blk_cell BK164.out 3).trans rfl
                      have hcz29_4 : wc.cell? ⟨gb164, 4, none⟩ = some (.int .i64 a2_4) := (blk_cell BK164.out 4).trans rfl
                      have hcz29_5 : wc.cell? ⟨gb164, 5, none⟩ = some (.int .i64 a2_5) := (blk_cell BK164.out 5).trans rfl
                      have hcz29_6 : wc.cell? ⟨gb164, 6, none⟩ = some (.int .i64 a2_6) := (blk_cell BK164.out 6).trans rfl
                      have hcz29_7 : wc.cell? ⟨gb164, 7, none⟩ = some (.int .i64 a2_7) := (blk_cell BK164.out 7).trans rfl
                      have hcz29_8 : wc.cell? ⟨gb164, 8, none⟩ = some (.bool false) := (blk_cell BK164.out 8).trans rfl
                      have hcz29_9 : wc.cell? ⟨gb164, 9, none⟩ = some (.bool true) := (blk_cell BK164.out 9).trans rfl
                      have hfz29_0 := blk_frozen BK164.out 0
                      have hfz29_1 := blk_frozen BK164.out 1
                      have hfz29_2 := blk_frozen BK164.out 2
                      have hfz29_3 := blk_frozen BK164.out 3
                      have hfz29_4 := blk_frozen BK164.out 4
                      have hfz29_5 := blk_frozen BK164.out 5
                      have hfz29_6 := blk_frozen BK164.out 6
                      have hfz29_7 := blk_frozen BK164.out 7
                      have hfz29_8 := blk_frozen BK164.out 8
                      have hfz29_9 := blk_frozen BK164.out 9
                      go_wp2_with (first | (go_at_call 10; (with_reducible refine (parallaxref4_Has.calls a1 19 false _ A22.out).mono ?_); rintro e w' ⟨rfl, ⟨nd, rfl⟩⟩) | (go_at_call 10; (with_reducible refine (parallaxref4_Has.calls a1 22 false _ A25.out).mono ?_); rintro e w' ⟨rfl, ⟨nd, rfl⟩⟩))
                      go_ret
                      exact ⟨by first | rfl | (simp [errW_none, errW_some] <;> rfl) | (simp [*, errW_none, errW_some] <;> rfl), by repeat (first | (with_reducible first | exact HB.out | apply below_alloc | apply pw_below_drewN | apply below_drew1 | refine below_set ?_ GE164.out) | exact HB.out)⟩
              · replace c19 := Bool.eq_false_iff.mpr c19
                subst c19
                have H1 : (some false) = some r := by rw [if_neg (show ¬ (false = true) by decide)] at H; exact H
                clear H
                have H := H1
                clear H1
                obtain rfl := Option.some.inj H
                have hcz30_0 : wc.cell? ⟨gb164, 0, none⟩ = some (.int .i64 a2_0) := (blk_cell BK164.out 0).trans rfl
                have hcz30_1 : wc.cell? ⟨gb164, 1, none⟩ = some (.int .i64 a2_1) := (blk_cell BK164.out 1).trans rfl
                have hcz30_2 : wc.cell? ⟨gb164, 2, none⟩ = some (.int .i64 a2_2) := (blk_cell BK164.out 2).trans rfl
                have hcz30_3 : wc.cell? ⟨gb164, 3, none⟩ = some (.int .i64 a2_3) := (blk_cell BK164.out 3).trans rfl
                have hcz30_4 : wc.cell? ⟨gb164, 4, none⟩ = some (.int .i64 a2_4) := (blk_cell BK164.out 4).trans rfl
                have hcz30_5 : wc.cell? ⟨gb164, 5, none⟩ = some (.int .i64 a2_5) := (blk_cell BK164.out 5).trans rfl
                have hcz30_6 : wc.cell? ⟨gb164, 6, none⟩ = some (.int .i64 a2_6) := (blk_cell BK164.out 6).trans rfl
                have hcz30_7 : wc.cell? ⟨gb164, 7, none⟩ = some (.int .i64 a2_7) := (blk_cell BK164.out 7).trans rfl
                have hcz30_8 : wc.cell? ⟨gb164, 8, none⟩ = some (.bool a2_8) := (blk_cell BK164.out 8).trans rfl
                have hcz30_9 : wc.cell? ⟨gb164, 9, none⟩ = some (.bool false) := (blk_cell BK164.out 9).trans rfl
                have hfz30_0 := blk_frozen BK164.out 0
                have hfz30_1 := blk_frozen BK164.out 1
                have hfz30_2 := blk_frozen BK164.out 2
                have hfz30_3 := blk_frozen BK164.out 3
                have hfz30_4 := blk_frozen BK164.out 4
                have hfz30_5 := blk_frozen BK164.out 5
                have hfz30_6 := blk_frozen BK164.out 6
                have hfz30_7 := blk_frozen BK164.out 7
                have hfz30_8 := blk_frozen BK164.out 8
                have hfz30_9 := blk_frozen BK164.out 9
                go_wp2
                go_ret
                exact ⟨by first | rfl | (simp [errW_none, errW_some] <;> rfl) | (simp [*, errW_none, errW_some] <;> rfl), by repeat (first | (with_reducible first | exact HB.out | apply below_alloc | apply pw_below_drewN | apply below_drew1 | refine below_set ?_ GE164.out) | exact HB.out)⟩
            · rw [if_neg c18] at H
              have c18b0 : (a0 == 20) = false := beq_eq_false_iff_ne.mpr c18
              have c18b1 : (a0 != 20) = true := bne_iff_ne.mpr c18
              by_cases c31 : a0 = 22
              · rw [if_pos c31] at H
                have c31b0 : (a0 == 22) = true := beq_iff_eq.mpr c31
                have c31b1 : (a0 != 22) = false := bne_eq_false_iff_eq.mpr c31
                clear c31
                replace H := Option.bind_eq_some_iff.mp H
                obtain ⟨t169, A320, H⟩ := H
                replace H : (some (!t169)) = some r := H
                have A32 := Aside0.mk A320
                clear A320
                obtain rfl := Option.some.inj H
                go_wp2_with (first | ((with_reducible refine gate_callee (f := 10) rfl ?_); refine goesL_ (some 48) rfl rfl Tryd.func10 (by kernel_rfl) rfl #[.int .u32 a1, .int .i64 21] rfl (by (try simp only [List.map_toArray, List.map_cons, List.map_nil]); first | done | rfl | (simp only [List.length_drop, List.length_take]; rfl)) ?_; (with_reducible refine (parallaxref4_Has.calls a1 21 t169 _ A32.out).mono ?_); rintro e w' ⟨rfl, ⟨nd, rfl⟩⟩; refine ⟨_, rfl, ?_⟩))
                go_ret
                exact ⟨by first | rfl | (simp [errW_none, errW_some] <;> rfl) | (simp [*, errW_none, errW_some] <;> rfl), by repeat (first | (with_reducible first | exact HB.out | apply below_alloc | apply pw_below_drewN | apply below_drew1 | refine below_set ?_ GE164.out) | exact HB.out)⟩
              · rw [if_neg c31] at H
                have c31b0 : (a0 == 22) = false := beq_eq_false_iff_ne.mpr c31
                have c31b1 : (a0 != 22) = true := bne_iff_ne.mpr c31
                by_cases c33 : a0 = 26
                · rw [if_pos c33] at H
                  have c33b0 : (a0 == 26) = true := beq_iff_eq.mpr c33
                  have c33b1 : (a0 != 26) = false := bne_eq_false_iff_eq.mpr c33
                  clear c33
                  replace H := Option.bind_eq_some_iff.mp H
                  obtain ⟨t170, A340, H⟩ := H
                  replace H : (some (!t170)) = some r := H
                  have A34 := Aside0.mk A340
                  clear A340
                  obtain rfl := Option.some.inj H
                  go_wp2_with (first | ((with_reducible refine gate_callee (f := 10) rfl ?_); refine goesL_ (some 53) rfl rfl Tryd.func10 (by kernel_rfl) rfl #[.int .u32 a1, .int .i64 25] rfl (by (try simp only [List.map_toArray, List.map_cons, List.map_nil]); first | done | rfl | (simp only [List.length_drop, List.length_take]; rfl)) ?_; (with_reducible refine (parallaxref4_Has.calls a1 25 t170 _ A34.out).mono ?_); rintro e w' ⟨rfl, ⟨nd, rfl⟩⟩; refine ⟨_, rfl, ?_⟩))
                  go_ret
                  exact ⟨by first | rfl | (simp [errW_none, errW_some] <;> rfl) | (simp [*, errW_none, errW_some] <;> rfl), by repeat (first | (with_reducible first | exact HB.out | apply below_alloc | apply pw_below_drewN | apply below_drew1 | refine below_set ?_ GE164.out) | exact HB.out)⟩
                · rw [if_neg c33] at H
                  have c33b0 : (a0 == 26) = false := beq_eq_false_iff_ne.mpr c33
                  have c33b1 : (a0 != 26) = true := bne_iff_ne.mpr c33
                  by_cases c35 : a0 ≥ 0
                  · rw [if_pos c35] at H
                    have c35b0 : decide (0 ≤ a0) = true := decide_eq_true c35
                    clear c35
                    obtain rfl := Option.some.inj H
                    go_wp2
                    go_ret
                    exact ⟨by first | rfl | (simp [errW_none, errW_some] <;> rfl) | (simp [*, errW_none, errW_some] <;> rfl), by repeat (first | (with_reducible first | exact HB.out | apply below_alloc | apply pw_below_drewN | apply below_drew1 | refine below_set ?_ GE164.out) | exact HB.out)⟩
                  · rw [if_neg c35] at H
                    have c35b0 : decide (0 ≤ a0) = false := decide_eq_false c35
                    clear c35
                    obtain rfl := Option.some.inj H
                    go_wp2
                    go_ret
                    exact ⟨by first | rfl | (simp [errW_none, errW_some] <;> rfl) | (simp [*, errW_none, errW_some] <;> rfl), by repeat (first | (with_reducible first | exact HB.out | apply below_alloc | apply pw_below_drewN | apply below_drew1 | refine below_set ?_ GE164.out) | exact HB.out)⟩

/-! ### parallaxref4_Usual: function 28 -/
def parallaxref4_Usual.f  : Option (Int × Int × Int × Int × Int × Int × Int × Int × Bool × Bool) := some (1024, 32, 8192, 65536, 32, 8, 4, 20, true, true)
set_option maxHeartbeats 8000000 in
set_option maxRecDepth 100000 in
theorem parallaxref4_Usual.calls  (r1 : Int) (r2 : Int) (r3 : Int) (r4 : Int) (r5 : Int) (r6 : Int) (r7 : Int) (r8 : Int) (r9 : Bool) (r10 : Bool) (w : World) (h : parallaxref4_Usual.f  = some (r1, r2, r3, r4, r5, r6, r7, r8, r9, r10)) :
    Calls Tryd.prog 28 #[] w fun e w' => e = .returned (.agg #[.int .i64 r1, .int .i64 r2, .int .i64 r3, .int .i64 r4, .int .i64 r5, .int .i64 r6, .int .i64 r7, .int .i64 r8, .bool r9, .bool r10]) ∧ Below w.heap.size w w' := by
  have hu25 := Tryd.underlying25
  have HB := Aside0.mk (Below.refl w.heap.size w)
  have H : (some (1024, 32, 8192, 65536, 32, 8, 4, 20, true, true)) = some (r1, r2, r3, r4, r5, r6, r7, r8, r9, r10) := h
  clear h
  simp only [Option.some.injEq, Prod.mk.injEq] at H
  obtain ⟨rfl, rfl, rfl, rfl, rfl, rfl, rfl, rfl, rfl, rfl⟩ := H
  go_enter Tryd.func28, Tryd.ntmps28
  go_wp2_with (first | ((with_reducible refine gate_dst (N := 0) rfl ?_); refine box_event ?hg (N := 0) ?hd (cs := #[.int .i64 0, .int .i64 0, .int .i64 0, .int .i64 0, .int .i64 0, .int .i64 0, .int .i64 0, .int .i64 0, .bool false, .bool false]) (t := 25) ?hr ?_; (case hd => rfl); (case hg => rfl); (case hr => first | (go_simp; done) | (go_simp; rfl)); intro gb171 hg w1 hbox hb; have n0_ := Aside0.mk (below_step (by repeat (first | (with_reducible first | exact HB.out | apply below_alloc | apply pw_below_drewN | apply below_drew1) | exact HB.out)) hb); have n1_ := Aside0.mk (hbox); have n2_ := Aside0.mk ((by rw [hg]; exact (below_size (by repeat (first | (with_reducible first | exact HB.out | apply below_alloc | apply pw_below_drewN | apply below_drew1) | exact HB.out))) : w.heap.size ≤ gb171)); have n3_ := Aside0.mk ((by rw [hg]; exact (below_size (by repeat (first | (with_reducible first | exact HB.out | apply below_alloc | apply pw_below_drewN | apply below_drew1) | exact HB.out))) : w.heap.size ≤ gb171)); clear HB; have HB := n0_; have BK171 := n1_; have GW171 := n2_; have GE171 := n3_; clear n0_ n1_ n2_ n3_; clear hb hbox hg; have hcz2_0 : w1.cell? ⟨gb171, 0, none⟩ = some (.int .i64 0) := (blk_cell BK171.out 0).trans rfl; have hcz2_1 : w1.cell? ⟨gb171, 1, none⟩ = some (.int .i64 0) := (blk_cell BK171.out 1).trans rfl; have hcz2_2 : w1.cell? ⟨gb171, 2, none⟩ = some (.int .i64 0) := (blk_cell BK171.out 2).trans rfl; have hcz2_3 : w1.cell? ⟨gb171, 3, none⟩ = some (.int .i64 0) := (blk_cell BK171.out 3).trans rfl; have hcz2_4 : w1.cell? ⟨gb171, 4, none⟩ = some (.int .i64 0) := (blk_cell BK171.out 4).trans rfl; have hcz2_5 : w1.cell? ⟨gb171, 5, none⟩ = some (.int .i64 0) := (blk_cell BK171.out 5).trans rfl; have hcz2_6 : w1.cell? ⟨gb171, 6, none⟩ = some (.int .i64 0) := (blk_cell BK171.out 6).trans rfl; have hcz2_7 : w1.cell? ⟨gb171, 7, none⟩ = some (.int .i64 0) := (blk_cell BK171.out 7).trans rfl; have hcz2_8 : w1.cell? ⟨gb171, 8, none⟩ = some (.bool false) := (blk_cell BK171.out 8).trans rfl; have hcz2_9 : w1.cell? ⟨gb171, 9, none⟩ = some (.bool false) := (blk_cell BK171.out 9).trans rfl; have hfz2_0 := blk_frozen BK171.out 0; have hfz2_1 := blk_frozen BK171.out 1; have hfz2_2 := blk_frozen BK171.out 2; have hfz2_3 := blk_frozen BK171.out 3; have hfz2_4 := blk_frozen BK171.out 4; have hfz2_5 := blk_frozen BK171.out 5; have hfz2_6 := blk_frozen BK171.out 6; have hfz2_7 := blk_frozen BK171.out 7; have hfz2_8 := blk_frozen BK171.out 8; have hfz2_9 := blk_frozen BK171.out 9))
  refine bodyPost_ret (results_cell_row rfl _ _ gb171 25 #[.int .i64 1024, .int .i64 32, .int .i64 8192, .int .i64 65536, .int .i64 32, .int .i64 8, .int .i64 4, .int .i64 20, .bool true, .bool true] (0, 0) _ rfl (by (with_reducible repeat (first | refine blk_drewN ?_ _ | refine blk_drew ?_ | refine blk_alloc ?_ _)); refine blk_put (cs := #[.int .i64 1024, .int .i64 32, .int .i64 8192, .int .i64 65536, .int .i64 32, .int .i64 8, .int .i64 4, .int .i64 20, .bool true, .bool false]) ?_ 9 _ rfl; (with_reducible repeat (first | refine blk_drewN ?_ _ | refine blk_drew ?_ | refine blk_alloc ?_ _)); refine blk_put (cs := #[.int .i64 1024, .int .i64 32, .int .i64 8192, .int .i64 65536, .int .i64 32, .int .i64 8, .int .i64 4, .int .i64 20, .bool false, .bool false]) ?_ 8 _ rfl; (with_reducible repeat (first | refine blk_drewN ?_ _ | refine blk_drew ?_ | refine blk_alloc ?_ _)); refine blk_put (cs := #[.int .i64 1024, .int .i64 32, .int .i64 8192, .int .i64 65536, .int .i64 32, .int .i64 8, .int .i64 4, .int .i64 0, .bool false, .bool false]) ?_ 7 _ rfl; (with_reducible repeat (first | refine blk_drewN ?_ _ | refine blk_drew ?_ | refine blk_alloc ?_ _)); refine blk_put (cs := #[.int .i64 1024, .int .i64 32, .int .i64 8192, .int .i64 65536, .int .i64 32, .int .i64 8, .int .i64 0, .int .i64 0, .bool false, .bool false]) ?_ 6 _ rfl; (with_reducible repeat (first | refine blk_drewN ?_ _ | refine blk_drew ?_ | refine blk_alloc ?_ _)); refine blk_put (cs := #[.int .i64 1024, .int .i64 32, .int .i64 8192, .int .i64 65536, .int .i64 32, .int .i64 0, .int .i64 0, .int .i64 0, .bool false, .bool false]) ?_ 5 _ rfl; (with_reducible repeat (first | refine blk_drewN ?_ _ | refine blk_drew ?_ | refine blk_alloc ?_ _)); refine blk_put (cs := #[.int .i64 1024, .int .i64 32, .int .i64 8192, .int .i64 65536, .int .i64 0, .int .i64 0, .int .i64 0, .int .i64 0, .bool false, .bool false]) ?_ 4 _ rfl; (with_reducible repeat (first | refine blk_drewN ?_ _ | refine blk_drew ?_ | refine blk_alloc ?_ _)); refine blk_put (cs := #[.int .i64 1024, .int .i64 32, .int .i64 8192, .int .i64 0, .int .i64 0, .int .i64 0, .int .i64 0, .int .i64 0, .bool false, .bool false]) ?_ 3 _ rfl; (with_reducible repeat (first | refine blk_drewN ?_ _ | refine blk_drew ?_ | refine blk_alloc ?_ _)); refine blk_put (cs := #[.int .i64 1024, .int .i64 32, .int .i64 0, .int .i64 0, .int .i64 0, .int .i64 0, .int .i64 0, .int .i64 0, .bool false, .bool false]) ?_ 2 _ rfl; (with_reducible repeat (first | refine blk_drewN ?_ _ | refine blk_drew ?_ | refine blk_alloc ?_ _)); refine blk_put (cs := #[.int .i64 1024, .int .i64 0, .int .i64 0, .int .i64 0, .int .i64 0, .int .i64 0, .int .i64 0, .int .i64 0, .bool false, .bool false]) ?_ 1 _ rfl; (with_reducible repeat (first | refine blk_drewN ?_ _ | refine blk_drew ?_ | refine blk_alloc ?_ _)); refine blk_put (cs := #[.int .i64 0, .int .i64 0, .int .i64 0, .int .i64 0, .int .i64 0, .int .i64 0, .int .i64 0, .int .i64 0, .bool false, .bool false]) ?_ 0 _ rfl; (with_reducible repeat (first | refine blk_drewN ?_ _ | refine blk_drew ?_ | refine blk_alloc ?_ _)); exact BK171.out) Tryd.underlying25 rfl (by kernel_rfl)) rfl ?_
  exact ⟨by first | rfl | (simp [errW_none, errW_some] <;> rfl) | (simp [*, errW_none, errW_some] <;> rfl), by repeat (first | (with_reducible first | exact HB.out | apply below_alloc | apply pw_below_drewN | apply below_drew1 | refine below_set ?_ GE171.out) | exact HB.out)⟩

end Go.Proofs.YtjnphebgbdjohaaDoor.PQuirksTell
