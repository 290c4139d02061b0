-- Written by a program of this session (wip/tools/myprint.sh)
import Derived.Test.YtjnphebgbdjohaaDoorPQuirksNeedx0
import Derived.Test.YtjnphebgbdjohaaDoorPQuirksNeedx1
import Derived.Test.YtjnphebgbdjohaaDoorPQuirksNeedx2
namespace Go.Proofs.YtjnphebgbdjohaaDoor.PQuirksNeed
open Go.RowKit Go.Proofs.YtjnphebgbdjohaaDoorW.PrintWords Go.Proofs.YtjnphebgbdjohaaDoorW.PrintLast Go.Proofs.YtjnphebgbdjohaaDoorW.PrintMore
attribute [local go_sem] max2_int min2_int max_two min_two max_three min_three max_four min_four   -- for this text's walks alone
set_option linter.unusedVariables false
set_option linter.unusedSimpArgs false

/-! ### parallaxlaw5_QuirksNeed: function 6 -/
def parallaxlaw5_QuirksNeed.j0 : Nat → Bool → Bool → Int → Int → Bool → Int → Bool → Int → Int → Int → Int → Int → Int → Int → Int → Bool → Bool → Option (Bool)
  | 0, _, _, _, _, _, _, _, _, _, _, _, _, _, _, _, _, _ => none
  | k + 1, x2, x3, x9, x10, x12, x23, x33, x148000, x148001, x148002, x148003, x148004, x148005, x148006, x148007, x148008, x148009 => if x33 = true then ((quirks_Needs.f k x9 x10 x148000 x148001 x148002 x148003 x148004 x148005 x148006 x148007 x148008 x148009).bind fun t154 => (if (t154 == x2) = true then ((quirks_Needs.f k (-1) x10 x148000 x148001 x148002 x148003 x148004 x148005 x148006 x148007 x148008 x148009).bind fun t155 => (if t155 = true then (some false) else ((quirks_Needs.f k 30 x10 x148000 x148001 x148002 x148003 x148004 x148005 x148006 x148007 x148008 x148009).bind fun t156 => (some (!t156))))) else (some false))) else (if x23 = 20 then (if x3 = true then (if x2 = true then ((quirks_Needs.f k x9 x10 x148000 x148001 x148002 x148003 x148004 x148005 x148006 x148007 x148008 x148009).bind fun t157 => (if (t157 == true) = true then ((quirks_Needs.f k (-1) x10 x148000 x148001 x148002 x148003 x148004 x148005 x148006 x148007 x148008 x148009).bind fun t158 => (if t158 = true then (some false) else ((quirks_Needs.f k 30 x10 x148000 x148001 x148002 x148003 x148004 x148005 x148006 x148007 x148008 x148009).bind fun t159 => (some (!t159))))) else (some false))) else (if (Go.bits .and .u32 (x10 / 524288) 1) = 1 then ((quirks_Needs.f k x9 x10 x148000 x148001 x148002 x148003 x148004 x148005 x148006 x148007 x148008 x148009).bind fun t160 => (if (t160 == true) = true then ((quirks_Needs.f k (-1) x10 x148000 x148001 x148002 x148003 x148004 x148005 x148006 x148007 x148008 x148009).bind fun t161 => (if t161 = true then (some false) else ((quirks_Needs.f k 30 x10 x148000 x148001 x148002 x148003 x148004 x148005 x148006 x148007 x148008 x148009).bind fun t162 => (some (!t162))))) else (some false))) else (if (Go.bits .and .u32 (x10 / 4194304) 1) = 1 then ((quirks_Needs.f k x9 x10 x148000 x148001 x148002 x148003 x148004 x148005 x148006 x148007 x148008 x148009).bind fun t163 => (if (t163 == ((Go.bits .and .u32 (x10 / 2097152) 1) == 0)) = true then ((quirks_Needs.f k (-1) x10 x148000 x148001 x148002 x148003 x148004 x148005 x148006 x148007 x148008 x148009).bind fun t164 => (if t164 = true then (some false) else ((quirks_Needs.f k 30 x10 x148000 x148001 x148002 x148003 x148004 x148005 x148006 x148007 x148008 x148009).bind fun t165 => (some (!t165))))) else (some false))) else ((quirks_Needs.f k x9 x10 x148000 x148001 x148002 x148003 x148004 x148005 x148006 x148007 x148008 x148009).bind fun t166 => (if (t166 == false) = true then ((quirks_Needs.f k (-1) x10 x148000 x148001 x148002 x148003 x148004 x148005 x148006 x148007 x148008 x148009).bind fun t167 => (if t167 = true then (some false) else ((quirks_Needs.f k 30 x10 x148000 x148001 x148002 x148003 x148004 x148005 x148006 x148007 x148008 x148009).bind fun t168 => (some (!t168))))) else (some false)))))) else ((quirks_Needs.f k x9 x10 x148000 x148001 x148002 x148003 x148004 x148005 x148006 x148007 x148008 x148009).bind fun t169 => (if (t169 == false) = true then ((quirks_Needs.f k (-1) x10 x148000 x148001 x148002 x148003 x148004 x148005 x148006 x148007 x148008 x148009).bind fun t170 => (if t170 = true then (some false) else ((quirks_Needs.f k 30 x10 x148000 x148001 x148002 x148003 x148004 x148005 x148006 x148007 x148008 x148009).bind fun t171 => (some (!t171))))) else (some false)))) else (if x23 = 22 then ((quirks_Needs.f k x9 x10 x148000 x148001 x148002 x148003 x148004 x148005 x148006 x148007 x148008 x148009).bind fun t172 => (if (t172 == ((Go.bits .and .u32 (x10 / 2097152) 1) == 0)) = true then ((quirks_Needs.f k (-1) x10 x148000 x148001 x148002 x148003 x148004 x148005 x148006 x148007 x148008 x148009).bind fun t173 => (if t173 = true then (some false) else ((quirks_Needs.f k 30 x10 x148000 x148001 x148002 x148003 x148004 x148005 x148006 x148007 x148008 x148009).bind fun t174 => (some (!t174))))) else (some false))) else (if x23 = 26 then ((quirks_Needs.f k x9 x10 x148000 x148001 x148002 x148003 x148004 x148005 x148006 x148007 x148008 x148009).bind fun t175 => (if (t175 == ((Go.bits .and .u32 (x10 / 33554432) 1) == 0)) = true then ((quirks_Needs.f k (-1) x10 x148000 x148001 x148002 x148003 x148004 x148005 x148006 x148007 x148008 x148009).bind fun t176 => (if t176 = true then (some false) else ((quirks_Needs.f k 30 x10 x148000 x148001 x148002 x148003 x148004 x148005 x148006 x148007 x148008 x148009).bind fun t177 => (some (!t177))))) else (some false))) else ((quirks_Needs.f k x9 x10 x148000 x148001 x148002 x148003 x148004 x148005 x148006 x148007 x148008 x148009).bind fun t178 => (if (t178 == x12) = true then ((quirks_Needs.f k (-1) x10 x148000 x148001 x148002 x148003 x148004 x148005 x148006 x148007 x148008 x148009).bind fun t179 => (if t179 = true then (some false) else ((quirks_Needs.f k 30 x10 x148000 x148001 x148002 x148003 x148004 x148005 x148006 x148007 x148008 x148009).bind fun t180 => (some (!t180))))) else (some false))))))
def parallaxlaw5_QuirksNeed.f (k : Nat) (a0 : Int) (a1 : Int) (a2 : Bool) (a3 : Bool) : Option (Bool) := (parallaxlaw5_known.f k).bind fun t146 => (if t146 = true then (if (wrap64 (Int.tmod a0 30)) = 6 then ((quirks_Needs.f k (wrap64 (Int.tmod a0 30)) (Go.bits .and .u32 a1 1073741823) 0 0 0 0 0 0 0 0 a2 a3).bind fun t148 => (if (t148 == a3) = true then ((quirks_Needs.f k (-1) (Go.bits .and .u32 a1 1073741823) 0 0 0 0 0 0 0 0 a2 a3).bind fun t149 => (if t149 = true then (some false) else ((quirks_Needs.f k 30 (Go.bits .and .u32 a1 1073741823) 0 0 0 0 0 0 0 0 a2 a3).bind fun t150 => (some (!t150))))) else (some false))) else (if (wrap64 (Int.tmod a0 30)) = 17 then ((quirks_Needs.f k (wrap64 (Int.tmod a0 30)) (Go.bits .and .u32 a1 1073741823) 0 0 0 0 0 0 0 0 a2 a3).bind fun t151 => (if (t151 == ((Go.bits .and .u32 ((Go.bits .and .u32 a1 1073741823) / 16384) 1) == 1)) = true then ((quirks_Needs.f k (-1) (Go.bits .and .u32 a1 1073741823) 0 0 0 0 0 0 0 0 a2 a3).bind fun t152 => (if t152 = true then (some false) else ((quirks_Needs.f k 30 (Go.bits .and .u32 a1 1073741823) 0 0 0 0 0 0 0 0 a2 a3).bind fun t153 => (some (!t153))))) else (some false))) else (if (wrap64 (Int.tmod a0 30)) = 18 then (parallaxlaw5_QuirksNeed.j0 k a2 a3 (wrap64 (Int.tmod a0 30)) (Go.bits .and .u32 a1 1073741823) true (wrap64 (Int.tmod a0 30)) ((wrap64 (Int.tmod a0 30)) == 18) 0 0 0 0 0 0 0 0 a2 a3) else (if (wrap64 (Int.tmod a0 30)) = 21 then (parallaxlaw5_QuirksNeed.j0 k a2 a3 (wrap64 (Int.tmod a0 30)) (Go.bits .and .u32 a1 1073741823) true (wrap64 (Int.tmod a0 30)) ((wrap64 (Int.tmod a0 30)) == 21) 0 0 0 0 0 0 0 0 a2 a3) else (if (wrap64 (Int.tmod a0 30)) = 27 then (parallaxlaw5_QuirksNeed.j0 k a2 a3 (wrap64 (Int.tmod a0 30)) (Go.bits .and .u32 a1 1073741823) true (wrap64 (Int.tmod a0 30)) ((wrap64 (Int.tmod a0 30)) == 27) 0 0 0 0 0 0 0 0 a2 a3) else (if (wrap64 (Int.tmod a0 30)) = 28 then (parallaxlaw5_QuirksNeed.j0 k a2 a3 (wrap64 (Int.tmod a0 30)) (Go.bits .and .u32 a1 1073741823) true (wrap64 (Int.tmod a0 30)) ((wrap64 (Int.tmod a0 30)) == 28) 0 0 0 0 0 0 0 0 a2 a3) else (parallaxlaw5_QuirksNeed.j0 k a2 a3 (wrap64 (Int.tmod a0 30)) (Go.bits .and .u32 a1 1073741823) true (wrap64 (Int.tmod a0 30)) ((wrap64 (Int.tmod a0 30)) == 29) 0 0 0 0 0 0 0 0 a2 a3))))))) else (some false))
theorem parallaxlaw5_QuirksNeed.mono_l : ∀ k, (∀ y0 y1 y2 y3 y4 y5 y6 y7 y8 y9 y10 y11 y12 y13 y14 y15 y16, LeO (parallaxlaw5_QuirksNeed.j0 k y0 y1 y2 y3 y4 y5 y6 y7 y8 y9 y10 y11 y12 y13 y14 y15 y16) (parallaxlaw5_QuirksNeed.j0 (k + 1) y0 y1 y2 y3 y4 y5 y6 y7 y8 y9 y10 y11 y12 y13 y14 y15 y16))
  | 0 => fun _ _ _ _ _ _ _ _ _ _ _ _ _ _ _ _ _ r h => by simp [parallaxlaw5_QuirksNeed.j0] at h
  | k + 1 => by
    have ih0 := parallaxlaw5_QuirksNeed.mono_l k
    · intro y0 y1 y2 y3 y4 y5 y6 y7 y8 y9 y10 y11 y12 y13 y14 y15 y16
      unfold parallaxlaw5_QuirksNeed.j0
      repeat' first
      | (with_reducible exact ih0 _ _ _ _ _ _ _ _ _ _ _ _ _ _ _ _ _)
      | (with_reducible exact parallaxlaw5_known.mono _)
      | (with_reducible exact quirks_Needs.mono _ _ _ _ _ _ _ _ _ _ _ _ _)
      | (with_reducible exact LeO.refl _)
      | (with_reducible exact LeO.none _)
      | (with_reducible refine LeO.ite ?_ ?_)
      | (with_reducible refine LeO.bind ?_ (fun _ => ?_))
      | exact ih0 _ _ _ _ _ _ _ _ _ _ _ _ _ _ _ _ _
      | exact parallaxlaw5_known.mono _
      | exact quirks_Needs.mono _ _ _ _ _ _ _ _ _ _ _ _ _
      | exact LeO.none _
      | refine LeO.ite ?_ ?_
      | refine LeO.bind ?_ (fun _ => ?_)
theorem parallaxlaw5_QuirksNeed.mono : ∀ a0 a1 a2 a3 k, LeO (parallaxlaw5_QuirksNeed.f k a0 a1 a2 a3) (parallaxlaw5_QuirksNeed.f (k + 1) a0 a1 a2 a3) := by
  intro a0 a1 a2 a3 k
  have ih0 := parallaxlaw5_QuirksNeed.mono_l k
  unfold parallaxlaw5_QuirksNeed.f
  repeat' first
      | (with_reducible exact ih0 _ _ _ _ _ _ _ _ _ _ _ _ _ _ _ _ _)
      | (with_reducible exact parallaxlaw5_known.mono _)
      | (with_reducible exact quirks_Needs.mono _ _ _ _ _ _ _ _ _ _ _ _ _)
      | (with_reducible exact LeO.refl _)
      | (with_reducible exact LeO.none _)
      | (with_reducible refine LeO.ite ?_ ?_)
      | (with_reducible refine LeO.bind ?_ (fun _ => ?_))
      | exact ih0 _ _ _ _ _ _ _ _ _ _ _ _ _ _ _ _ _
      | exact parallaxlaw5_known.mono _
      | exact quirks_Needs.mono _ _ _ _ _ _ _ _ _ _ _ _ _
      | exact LeO.none _
      | refine LeO.ite ?_ ?_
      | refine LeO.bind ?_ (fun _ => ?_)
set_option maxHeartbeats 8000000 in
set_option maxRecDepth 100000 in
theorem parallaxlaw5_QuirksNeed.calls (k : Nat) (a0 : Int) (a1 : Int) (a2 : Bool) (a3 : Bool) (r : Bool) (w : World) (hq0 : (Lit.int .u8 a0).wf = true) (hq1 : (Lit.int .u32 a1).wf = true) (hT : r = true) (hL : Laid.LaidX w) (h : parallaxlaw5_QuirksNeed.f k a0 a1 a2 a3 = some r) :
    Calls Tryd.prog 6 #[.int .u8 a0, .int .u32 a1, .bool a2, .bool a3] w fun e w' => e = .returned (.bool r) ∧ Below w.heap.size w w' := by
  have hu25 := Tryd.underlying25
  have HQ0 := Aside0.mk hq0
  clear hq0
  have HQ1 := Aside0.mk hq1
  clear hq1
  have HT := Aside0.mk hT
  clear hT
  have HB := Aside0.mk (Below.refl w.heap.size w)
  have HLX := Aside0.mk hL
  clear hL
  have H : ((parallaxlaw5_known.f k).bind fun t146 => (if t146 = true then (if (wrap64 (Int.tmod a0 30)) = 6 then ((quirks_Needs.f k (wrap64 (Int.tmod a0 30)) (Go.bits .and .u32 a1 1073741823) 0 0 0 0 0 0 0 0 a2 a3).bind fun t148 => (if (t148 == a3) = true then ((quirks_Needs.f k (-1) (Go.bits .and .u32 a1 1073741823) 0 0 0 0 0 0 0 0 a2 a3).bind fun t149 => (if t149 = true then (some false) else ((quirks_Needs.f k 30 (Go.bits .and .u32 a1 1073741823) 0 0 0 0 0 0 0 0 a2 a3).bind fun t150 => (some (!t150))))) else (some false))) else (if (wrap64 (Int.tmod a0 30)) = 17 then ((quirks_Needs.f k (wrap64 (Int.tmod a0 30)) (Go.bits .and .u32 a1 1073741823) 0 0 0 0 0 0 0 0 a2 a3).bind fun t151 => (if (t151 == ((Go.bits .and .u32 ((Go.bits .and .u32 a1 1073741823) / 16384) 1) == 1)) = true then ((quirks_Needs.f k (-1) (Go.bits .and .u32 a1 1073741823) 0 0 0 0 0 0 0 0 a2 a3).bind fun t152 => (if t152 = true then (some false) else ((quirks_Needs.f k 30 (Go.bits .and .u32 a1 1073741823) 0 0 0 0 0 0 0 0 a2 a3).bind fun t153 => (some (!t153))))) else (some false))) else (if (wrap64 (Int.tmod a0 30)) = 18 then (parallaxlaw5_QuirksNeed.j0 k a2 a3 (wrap64 (Int.tmod a0 30)) (Go.bits .and .u32 a1 1073741823) true (wrap64 (Int.tmod a0 30)) ((wrap64 (Int.tmod a0 30)) == 18) 0 0 0 0 0 0 0 0 a2 a3) else (if (wrap64 (Int.tmod a0 30)) = 21 then (parallaxlaw5_QuirksNeed.j0 k a2 a3 (wrap64 (Int.tmod a0 30)) (Go.bits .and .u32 a1 1073741823) true (wrap64 (Int.tmod a0 30)) ((wrap64 (Int.tmod a0 30)) == 21) 0 0 0 0 0 0 0 0 a2 a3) else (if (wrap64 (Int.tmod a0 30)) = 27 then (parallaxlaw5_QuirksNeed.j0 k a2 a3 (wrap64 (Int.tmod a0 30)) (Go.bits .and .u32 a1 1073741823) true (wrap64 (Int.tmod a0 30)) ((wrap64 (Int.tmod a0 30)) == 27) 0 0 0 0 0 0 0 0 a2 a3) else (if (wrap64 (Int.tmod a0 30)) = 28 then (parallaxlaw5_QuirksNeed.j0 k a2 a3 (wrap64 (Int.tmod a0 30)) (Go.bits .and .u32 a1 1073741823) true (wrap64 (Int.tmod a0 30)) ((wrap64 (Int.tmod a0 30)) == 28) 0 0 0 0 0 0 0 0 a2 a3) else (parallaxlaw5_QuirksNeed.j0 k a2 a3 (wrap64 (Int.tmod a0 30)) (Go.bits .and .u32 a1 1073741823) true (wrap64 (Int.tmod a0 30)) ((wrap64 (Int.tmod a0 30)) == 29) 0 0 0 0 0 0 0 0 a2 a3))))))) else (some false))) = some r := h
  clear h
  replace H := Option.bind_eq_some_iff.mp H
  obtain ⟨t146, A50, H⟩ := H
  (try dsimp only at H)
  have A5 := Aside0.mk A50
  clear A50
  by_cases c6 : t146 = true
  · subst c6
    rw [if_pos rfl] at H
    by_cases c7 : (wrap64 (Int.tmod a0 30)) = 6
    · rw [if_pos c7] at H
      have c7b0 : ((wrap64 (Int.tmod a0 30)) == 6) = true := beq_iff_eq.mpr c7
      have c7b1 : ((wrap64 (Int.tmod a0 30)) != 6) = false := bne_eq_false_iff_eq.mpr c7
      clear c7
      replace H := Option.bind_eq_some_iff.mp H
      obtain ⟨t148, A80, H⟩ := H
      (try dsimp only at H)
      have A8 := Aside0.mk A80
      clear A80
      by_cases c9 : (t148 == a3) = true
      · rw [if_pos c9] at H
        have c9b0 : (t148 == a3) = true := c9
        (try (have c9b1 : decide (t148 = a3) = true := by simpa using c9))
        (try (have c9b2 : (t148 == a3) = true := by simpa using c9))
        clear c9
        replace H := Option.bind_eq_some_iff.mp H
        obtain ⟨t149, A100, H⟩ := H
        (try dsimp only at H)
        have A10 := Aside0.mk A100
        clear A100
        by_cases c11 : t149 = true
        · subst c11
          rw [if_pos rfl] at H
          exact absurd ((Option.some.inj H).trans HT.out) (by decide)
        · replace c11 := Bool.eq_false_iff.mpr c11
          subst c11
          rw [if_neg (show ¬ (false = true) by decide)] at H
          replace H := Option.bind_eq_some_iff.mp H
          obtain ⟨t150, A120, H⟩ := H
          (try dsimp only at H)
          have A12 := Aside0.mk A120
          clear A120
          obtain rfl := Option.some.inj H
          go_enter Tryd.func6, Tryd.ntmps6
          go_wp2_with (first | ((with_reducible refine gate_callee (f := 7) rfl ?_); refine goesL_ (some 13) rfl rfl Tryd.func7 (by kernel_rfl) rfl #[] rfl (by (try simp only [List.map_toArray, List.map_cons, List.map_nil]); first | done | rfl | (simp only [List.length_drop, List.length_take]; rfl)) ?_; (with_reducible refine (parallaxlaw5_known.calls k  true _ ?side1 A5.out).mono ?_); (case side1 => exact Laid.below HLX.out (by repeat (first | (with_reducible first | exact HB.out | apply below_alloc | apply pw_below_drewN | apply below_drew1) | exact HB.out))); rintro e w13 ⟨rfl, hb⟩; refine ⟨_, rfl, ?_⟩; have n0_ := Aside0.mk (below_step (by repeat (first | (with_reducible first | exact HB.out | apply below_alloc | apply pw_below_drewN | apply below_drew1) | exact HB.out)) hb); clear HB; have HB := n0_; clear n0_; (try clear hb); (try clear hb2); (try clear hk); (try clear hi)) | ((with_reducible refine gate_dst (N := 11) rfl ?_); refine box_event ?hg (N := 11) ?hd (cs := #[.int .i64 0, .int .i64 0, .int .i64 0, .int .i64 0, .int .i64 0, .int .i64 0, .int .i64 0, .int .i64 0, .bool false, .bool false]) (t := 25) ?hr ?_; (case hd => rfl); (case hg => rfl); (case hr => first | (go_simp; done) | (go_simp; rfl)); intro gb147 hg w14 hbox hb; have n0_ := Aside0.mk (below_step (by repeat (first | (with_reducible first | exact HB.out | apply below_alloc | apply pw_below_drewN | apply below_drew1) | exact HB.out)) hb); have n1_ := Aside0.mk (hbox); have n2_ := Aside0.mk ((by rw [hg]; exact (below_size (by repeat (first | (with_reducible first | exact HB.out | apply below_alloc | apply pw_below_drewN | apply below_drew1) | exact HB.out))) : w.heap.size ≤ gb147)); have n3_ := Aside0.mk ((by rw [hg]; exact (below_size (by repeat (first | (with_reducible first | exact HB.out | apply below_alloc | apply pw_below_drewN | apply below_drew1) | exact HB.out))) : w.heap.size ≤ gb147)); clear HB; have HB := n0_; have BK147 := n1_; have GW147 := n2_; have GE147 := n3_; clear n0_ n1_ n2_ n3_; clear hb hbox hg; have hcz15_0 : w14.cell? ⟨gb147, 0, none⟩ = some (.int .i64 0) := (blk_cell BK147.out 0).trans rfl; have hcz15_1 : w14.cell? ⟨gb147, 1, none⟩ = some (.int .i64 0) := (blk_cell BK147.out 1).trans rfl; have hcz15_2 : w14.cell? ⟨gb147, 2, none⟩ = some (.int .i64 0) := (blk_cell BK147.out 2).trans rfl; have hcz15_3 : w14.cell? ⟨gb147, 3, none⟩ = some (.int .i64 0) := (blk_cell BK147.out 3).trans rfl; have hcz15_4 : w14.cell? ⟨gb147, 4, none⟩ = some (.int .i64 0) := (blk_cell BK147.out 4).trans rfl; have hcz15_5 : w14.cell? ⟨gb147, 5, none⟩ = some (.int .i64 0) := (blk_cell BK147.out 5).trans rfl; have hcz15_6 : w14.cell? ⟨gb147, 6, none⟩ = some (.int .i64 0) := (blk_cell BK147.out 6).trans rfl; have hcz15_7 : w14.cell? ⟨gb147, 7, none⟩ = some (.int .i64 0) := (blk_cell BK147.out 7).trans rfl; have hcz15_8 : w14.cell? ⟨gb147, 8, none⟩ = some (.bool false) := (blk_cell BK147.out 8).trans rfl; have hcz15_9 : w14.cell? ⟨gb147, 9, none⟩ = some (.bool false) := (blk_cell BK147.out 9).trans rfl; have hfz15_0 := blk_frozen BK147.out 0; have hfz15_1 := blk_frozen BK147.out 1; have hfz15_2 := blk_frozen BK147.out 2; have hfz15_3 := blk_frozen BK147.out 3; have hfz15_4 := blk_frozen BK147.out 4; have hfz15_5 := blk_frozen BK147.out 5; have hfz15_6 := blk_frozen BK147.out 6; have hfz15_7 := blk_frozen BK147.out 7; have hfz15_8 := blk_frozen BK147.out 8; have hfz15_9 := blk_frozen BK147.out 9) | ((with_reducible refine gate_callee (f := 13) rfl ?_); refine goesL_ (some 79) rfl rfl Tryd.func13 (by kernel_rfl) rfl #[.int .i64 (wrap64 (Int.tmod a0 30)), .int .u32 (Go.bits .and .u32 a1 1073741823), .agg #[.int .i64 0, .int .i64 0, .int .i64 0, .int .i64 0, .int .i64 0, .int .i64 0, .int .i64 0, .int .i64 0, .bool a2, .bool a3]] rfl (by (try simp only [List.map_toArray, List.map_cons, List.map_nil]); first | done | rfl | (simp only [List.length_drop, List.length_take]; rfl)) ?_; (with_reducible refine (quirks_Needs.calls k (wrap64 (Int.tmod a0 30)) (Go.bits .and .u32 a1 1073741823) 0 0 0 0 0 0 0 0 a2 a3 t148 _ A8.out).mono ?_); rintro e w16 ⟨rfl, hb⟩; refine ⟨_, rfl, ?_⟩; have n0_ := Aside0.mk (blk_below (g := gb147) (o := .cells #[.int .i64 0, .int .i64 0, .int .i64 0, .int .i64 0, .int .i64 0, .int .i64 0, .int .i64 0, .int .i64 0, .bool a2, .bool a3] 25 (0, 0)) (by (with_reducible repeat (first | refine blk_drewN ?_ _ | refine blk_drew ?_ | refine blk_alloc ?_ _)); refine blk_put (cs := #[.int .i64 0, .int .i64 0, .int .i64 0, .int .i64 0, .int .i64 0, .int .i64 0, .int .i64 0, .int .i64 0, .bool a2, .bool false]) ?_ 9 _ rfl; (with_reducible repeat (first | refine blk_drewN ?_ _ | refine blk_drew ?_ | refine blk_alloc ?_ _)); refine blk_put (cs := #[.int .i64 0, .int .i64 0, .int .i64 0, .int .i64 0, .int .i64 0, .int .i64 0, .int .i64 0, .int .i64 0, .bool false, .bool false]) ?_ 8 _ rfl; (with_reducible repeat (first | refine blk_drewN ?_ _ | refine blk_drew ?_ | refine blk_alloc ?_ _)); refine blk_put (cs := #[.int .i64 0, .int .i64 0, .int .i64 0, .int .i64 0, .int .i64 0, .int .i64 0, .int .i64 0, .int .i64 0, .bool false, .bool false]) ?_ 7 _ rfl; (with_reducible repeat (first | refine blk_drewN ?_ _ | refine blk_drew ?_ | refine blk_alloc ?_ _)); refine blk_put (cs := #[.int .i64 0, .int .i64 0, .int .i64 0, .int .i64 0, .int .i64 0, .int .i64 0, .int .i64 0, .int .i64 0, .bool false, .bool false]) ?_ 6 _ rfl; (with_reducible repeat (first | refine blk_drewN ?_ _ | refine blk_drew ?_ | refine blk_alloc ?_ _)); refine blk_put (cs := #[.int .i64 0, .int .i64 0, .int .i64 0, .int .i64 0, .int .i64 0, .int .i64 0, .int .i64 0, .int .i64 0, .bool false, .bool false]) ?_ 5 _ rfl; (with_reducible repeat (first | refine blk_drewN ?_ _ | refine blk_drew ?_ | refine blk_alloc ?_ _)); refine blk_put (cs := #[.int .i64 0, .int .i64 0, .int .i64 0, .int .i64 0, .int .i64 0, .int .i64 0, .int .i64 0, .int .i64 0, .bool false, .bool false]) ?_ 4 _ rfl; (with_reducible repeat (first | refine blk_drewN ?_ _ | refine blk_drew ?_ | refine blk_alloc ?_ _)); refine blk_put (cs := #[.int .i64 0, .int .i64 0, .int .i64 0, .int .i64 0, .int .i64 0, .int .i64 0, .int .i64 0, .int .i64 0, .bool false, .bool false]) ?_ 3 _ rfl; (with_reducible repeat (first | refine blk_drewN ?_ _ | refine blk_drew ?_ | refine blk_alloc ?_ _)); refine blk_put (cs := #[.int .i64 0, .int .i64 0, .int .i64 0, .int .i64 0, .int .i64 0, .int .i64 0, .int .i64 0, .int .i64 0, .bool false, .bool false]) ?_ 2 _ rfl; (with_reducible repeat (first | refine blk_drewN ?_ _ | refine blk_drew ?_ | refine blk_alloc ?_ _)); refine blk_put (cs := #[.int .i64 0, .int .i64 0, .int .i64 0, .int .i64 0, .int .i64 0, .int .i64 0, .int .i64 0, .int .i64 0, .bool false, .bool false]) ?_ 1 _ rfl; (with_reducible repeat (first | refine blk_drewN ?_ _ | refine blk_drew ?_ | refine blk_alloc ?_ _)); refine blk_put (cs := #[.int .i64 0, .int .i64 0, .int .i64 0, .int .i64 0, .int .i64 0, .int .i64 0, .int .i64 0, .int .i64 0, .bool false, .bool false]) ?_ 0 _ rfl; (with_reducible repeat (first | refine blk_drewN ?_ _ | refine blk_drew ?_ | refine blk_alloc ?_ _)); exact BK147.out) hb); have n1_ := Aside0.mk (below_step (by repeat (first | (with_reducible first | exact HB.out | apply below_alloc | apply pw_below_drewN | apply below_drew1 | refine below_set ?_ GE147.out) | exact HB.out)) hb); clear BK147; clear HB; have BK147 := n0_; have HB := n1_; clear n0_ n1_; (try clear hb); (try clear hb2); (try clear hk); (try clear hi); have hcz17_0 : w16.cell? ⟨gb147, 0, none⟩ = some (.int .i64 0) := (blk_cell BK147.out 0).trans rfl; have hcz17_1 : w16.cell? ⟨gb147, 1, none⟩ = some (.int .i64 0) := (blk_cell BK147.out 1).trans rfl; have hcz17_2 : w16.cell? ⟨gb147, 2, none⟩ = some (.int .i64 0) := (blk_cell BK147.out 2).trans rfl; have hcz17_3 : w16.cell? ⟨gb147, 3, none⟩ = some (.int .i64 0) := (blk_cell BK147.out 3).trans rfl; have hcz17_4 : w16.cell? ⟨gb147, 4, none⟩ = some (.int .i64 0) := (blk_cell BK147.out 4).trans rfl; have hcz17_5 : w16.cell? ⟨gb147, 5, none⟩ = some (.int .i64 0) := (blk_cell BK147.out 5).trans rfl; have hcz17_6 : w16.cell? ⟨gb147, 6, none⟩ = some (.int .i64 0) := (blk_cell BK147.out 6).trans rfl; have hcz17_7 : w16.cell? ⟨gb147, 7, none⟩ = some (.int .i64 0) := (blk_cell BK147.out 7).trans rfl; have hcz17_8 : w16.cell? ⟨gb147, 8, none⟩ = some (.bool a2) := (blk_cell BK147.out 8).trans rfl; have hcz17_9 : w16.cell? ⟨gb147, 9, none⟩ = some (.bool a3) := (blk_cell BK147.out 9).trans rfl; have hfz17_0 := blk_frozen BK147.out 0; have hfz17_1 := blk_frozen BK147.out 1; have hfz17_2 := blk_frozen BK147.out 2; have hfz17_3 := blk_frozen BK147.out 3; have hfz17_4 := blk_frozen BK147.out 4; have hfz17_5 := blk_frozen BK147.out 5; have hfz17_6 := blk_frozen BK147.out 6; have hfz17_7 := blk_frozen BK147.out 7; have hfz17_8 := blk_frozen BK147.out 8; have hfz17_9 := blk_frozen BK147.out 9) | (go_at_call 13; (with_reducible refine (quirks_Needs.calls k (-1) (Go.bits .and .u32 a1 1073741823) 0 0 0 0 0 0 0 0 a2 a3 false _ A10.out).mono ?_); rintro e w18 ⟨rfl, hb⟩; have n0_ := Aside0.mk (blk_below (g := gb147) (o := .cells #[.int .i64 0, .int .i64 0, .int .i64 0, .int .i64 0, .int .i64 0, .int .i64 0, .int .i64 0, .int .i64 0, .bool a2, .bool a3] 25 (0, 0)) (by (with_reducible repeat (first | refine blk_drewN ?_ _ | refine blk_drew ?_ | refine blk_alloc ?_ _)); exact BK147.out) hb); have n1_ := Aside0.mk (below_step (by repeat (first | (with_reducible first | exact HB.out | apply below_alloc | apply pw_below_drewN | apply below_drew1 | refine below_set ?_ GE147.out) | exact HB.out)) hb); clear BK147; clear HB; have BK147 := n0_; have HB := n1_; clear n0_ n1_; (try clear hb); (try clear hb2); (try clear hk); (try clear hi); have hcz19_0 : w18.cell? ⟨gb147, 0, none⟩ = some (.int .i64 0) := (blk_cell BK147.out 0).trans rfl; have hcz19_1 : w18.cell? ⟨gb147, 1, none⟩ = some (.int .i64 0) := (blk_cell BK147.out 1).trans rfl; have hcz19_2 : w18.cell? ⟨gb147, 2, none⟩ = some (.int .i64 0) := (blk_cell BK147.out 2).trans rfl; have hcz19_3 : w18.cell? ⟨gb147, 3, none⟩ = some (.int .i64 0) := (blk_cell BK147.out 3).trans rfl; have hcz19_4 : w18.cell? ⟨gb147, 4, none⟩ = some (.int .i64 0) := (blk_cell BK147.out 4).trans rfl; have hcz19_5 : w18.cell? ⟨gb147, 5, none⟩ = some (.int .i64 0) := (blk_cell BK147.out 5).trans rfl; have hcz19_6 : w18.cell? ⟨gb147, 6, none⟩ = some (.int .i64 0) := (blk_cell BK147.out 6).trans rfl; have hcz19_7 : w18.cell? ⟨gb147, 7, none⟩ = some (.int .i64 0) := (blk_cell BK147.out 7).trans rfl; have hcz19_8 : w18.cell? ⟨gb147, 8, none⟩ = some (.bool a2) := (blk_cell BK147.out 8).trans rfl; have hcz19_9 : w18.cell? ⟨gb147, 9, none⟩ = some (.bool a3) := (blk_cell BK147.out 9).trans rfl; have hfz19_0 := blk_frozen BK147.out 0; have hfz19_1 := blk_frozen BK147.out 1; have hfz19_2 := blk_frozen BK147.out 2; have hfz19_3 := blk_frozen BK147.out 3; have hfz19_4 := blk_frozen BK147.out 4; have hfz19_5 := blk_frozen BK147.out 5; have hfz19_6 := blk_frozen BK147.out 6; have hfz19_7 := blk_frozen BK147.out 7; have hfz19_8 := blk_frozen BK147.out 8; have hfz19_9 := blk_frozen BK147.out 9) | (go_at_call 13; (with_reducible refine (quirks_Needs.calls k 30 (Go.bits .and .u32 a1 1073741823) 0 0 0 0 0 0 0 0 a2 a3 t150 _ A12.out).mono ?_); rintro e w20 ⟨rfl, hb⟩; have n0_ := Aside0.mk (blk_below (g := gb147) (o := .cells #[.int .i64 0, .int .i64 0, .int .i64 0, .int .i64 0, .int .i64 0, .int .i64 0, .int .i64 0, .int .i64 0, .bool a2, .bool a3] 25 (0, 0)) (by (with_reducible repeat (first | refine blk_drewN ?_ _ | refine blk_drew ?_ | refine blk_alloc ?_ _)); exact BK147.out) hb); have n1_ := Aside0.mk (below_step (by repeat (first | (with_reducible first | exact HB.out | apply below_alloc | apply pw_below_drewN | apply below_drew1 | refine below_set ?_ GE147.out) | exact HB.out)) hb); clear BK147; clear HB; have BK147 := n0_; have HB := n1_; clear n0_ n1_; (try clear hb); (try clear hb2); (try clear hk); (try clear hi)) | (go_at_call 7; (with_reducible refine (parallaxlaw5_known.calls k  true _ ?side1 A5.out).mono ?_); (case side1 => exact Laid.below HLX.out (by repeat (first | (with_reducible first | exact HB.out | apply below_alloc | apply pw_below_drewN | apply below_drew1) | exact HB.out))); rintro e w13 ⟨rfl, hb⟩; have n0_ := Aside0.mk (below_step (by repeat (first | (with_reducible first | exact HB.out | apply below_alloc | apply pw_below_drewN | apply below_drew1) | exact HB.out)) hb); clear HB; have HB := n0_; clear n0_; (try clear hb); (try clear hb2); (try clear hk); (try clear hi)) | (go_at_call 13; (with_reducible refine (quirks_Needs.calls k (wrap64 (Int.tmod a0 30)) (Go.bits .and .u32 a1 1073741823) 0 0 0 0 0 0 0 0 a2 a3 t148 _ A8.out).mono ?_); rintro e w16 ⟨rfl, hb⟩; have n0_ := Aside0.mk (blk_below (g := gb147) (o := .cells #[.int .i64 0, .int .i64 0, .int .i64 0, .int .i64 0, .int .i64 0, .int .i64 0, .int .i64 0, .int .i64 0, .bool a2, .bool a3] 25 (0, 0)) (by (with_reducible repeat (first | refine blk_drewN ?_ _ | refine blk_drew ?_ | refine blk_alloc ?_ _)); refine blk_put (cs := #[.int .i64 0, .int .i64 0, .int .i64 0, .int .i64 0, .int .i64 0, .int .i64 0, .int .i64 0, .int .i64 0, .bool a2, .bool false]) ?_ 9 _ rfl; (with_reducible repeat (first | refine blk_drewN ?_ _ | refine blk_drew ?_ | refine blk_alloc ?_ _)); refine blk_put (cs := #[.int .i64 0, .int .i64 0, .int .i64 0, .int .i64 0, .int .i64 0, .int .i64 0, .int .i64 0, .int .i64 0, .bool false, .bool false]) ?_ 8 _ rfl; (with_reducible repeat (first | refine blk_drewN ?_ _ | refine blk_drew ?_ | refine blk_alloc ?_ _)); refine blk_put (cs := #[.int .i64 0, .int .i64 0, .int .i64 0, .int .i64 0, .int .i64 0, .int .i64 0, .int .i64 0, .int .i64 0, .bool false, .bool false]) ?_ 7 _ rfl; (with_reducible repeat (first | refine blk_drewN ?_ _ | refine blk_drew ?_ | refine blk_alloc ?_ _)); refine blk_put (cs := #[.int .i64 0, .int .i64 0, .int .i64 0, .int .i64 0, .int .i64 0, .int .i64 0, .int .i64 0, .int .i64 0, .bool false, .bool false]) ?_ 6 _ rfl; (with_reducible repeat (first | refine blk_drewN ?_ _ | refine blk_drew ?_ | refine blk_alloc ?_ _)); refine blk_put (cs := #[.int .i64 0, .int .i64 0, .int .i64 0, .int .i64 0, .int .i64 0, .int .i64 0, .int .i64 0, .int .i64 0, .bool false, .bool false]) ?_ 5 _ rfl; (with_reducible repeat (first | refine blk_drewN ?_ _ | refine blk_drew ?_ | refine blk_alloc ?_ _)); refine blk_put (cs := #[.int .i64 0, .int .i64 0, .int .i64 0, .int .i64 0, .int .i64 0, .int .i64 0, .int .i64 0, .int .i64 0, .bool false, .bool false]) ?_ 4 _ rfl; (with_reducible repeat (first | refine blk_drewN ?_ _ | refine blk_drew ?_ | refine blk_alloc ?_ _)); refine blk_put (cs := #[.int .i64 0, .int .i64 0, .int .i64 0, .int .i64 0, .int .i64 0, .int .i64 0, .int .i64 0, .int .i64 0, .bool false, .bool false]) ?_ 3 _ rfl; (with_reducible repeat (first | refine blk_drewN ?_ _ | refine blk_drew ?_ | refine blk_alloc ?_ _)); refine blk_put (cs := #[.int .i64 0, .int .i64 0, .int .i64 0, .int .i64 0, .int .i64 0, .int .i64 0, .int .i64 0, .int .i64 0, .bool false, .bool false]) ?_ 2 _ rfl; (with_reducible repeat (first | refine blk_drewN ?_ _ | refine blk_drew ?_ | refine blk_alloc ?_ _)); refine blk_put (cs := #[.int .i64 0, .int .i64 0, .int .i64 0, .int .i64 0, .int .i64 0, .int .i64 0, .int .i64 0, .int .i64 0, .bool false, .bool false]) ?_ 1 _ rfl; (with_reducible repeat (first | refine blk_drewN ?_ _ | refine blk_drew ?_ | refine blk_alloc ?_ _)); refine blk_put (cs := #[.int .i64 0, .int .i64 0, .int .i64 0, .int .i64 0, .int .i64 0, .int .i64 0, .int .i64 0, .int .i64 0, .bool false, .bool false]) ?_ 0 _ rfl; (with_reducible repeat (first | refine blk_drewN ?_ _ | refine blk_drew ?_ | refine blk_alloc ?_ _)); exact BK147.out) hb); have n1_ := Aside0.mk (below_step (by repeat (first | (with_reducible first | exact HB.out | apply below_alloc | apply pw_below_drewN | apply below_drew1 | refine below_set ?_ GE147.out) | exact HB.out)) hb); clear BK147; clear HB; have BK147 := n0_; have HB := n1_; clear n0_ n1_; (try clear hb); (try clear hb2); (try clear hk); (try clear hi); have hcz17_0 : w16.cell? ⟨gb147, 0, none⟩ = some (.int .i64 0) := (blk_cell BK147.out 0).trans rfl; have hcz17_1 : w16.cell? ⟨gb147, 1, none⟩ = some (.int .i64 0) := (blk_cell BK147.out 1).trans rfl; have hcz17_2 : w16.cell? ⟨gb147, 2, none⟩ = some (.int .i64 0) := (blk_cell BK147.out 2).trans rfl; have hcz17_3 : w16.cell? ⟨gb147, 3, none⟩ = some (.int .i64 0) := (blk_cell BK147.out 3).trans rfl; have hcz17_4 : w16.cell? ⟨gb147, 4, none⟩ = some (.int .i64 0) := (blk_cell BK147.out 4).trans rfl; have hcz17_5 : w16.cell? ⟨gb147, 5, none⟩ = some (.int .i64 0) := (blk_cell BK147.out 5).trans rfl; have hcz17_6 : w16.cell? ⟨gb147, 6, none⟩ = some (.int .i64 0) := (blk_cell BK147.out 6).trans rfl; have hcz17_7 : w16.cell? ⟨gb147, 7, none⟩ = some (.int .i64 0) := (blk_cell BK147.out 7).trans rfl; have hcz17_8 : w16.cell? ⟨gb147, 8, none⟩ = some (.bool a2) := (blk_cell BK147.out 8).trans rfl; have hcz17_9 : w16.cell? ⟨gb147, 9, none⟩ = some (.bool a3) := (blk_cell BK147.out 9).trans rfl; have hfz17_0 := blk_frozen BK147.out 0; have hfz17_1 := blk_frozen BK147.out 1; have hfz17_2 := blk_frozen BK147.out 2; have hfz17_3 := blk_frozen BK147.out 3; have hfz17_4 := blk_frozen BK147.out 4; have hfz17_5 := blk_frozen BK147.out 5; have hfz17_6 := blk_frozen BK147.out 6; have hfz17_7 := blk_frozen BK147.out 7; have hfz17_8 := blk_frozen BK147.out 8; have hfz17_9 := blk_frozen BK147.out 9))
          (try any_goals (exfalso; have h_ := ‹some undef = some (Value.bool _)›; revert h_; simp [undef]; done))
          go_ret
          exact ⟨by first | rfl | (simp [errW_none, errW_some] <;> rfl) | (simp [*, errW_none, errW_some] <;> rfl), by repeat (first | (with_reducible first | exact HB.out | apply below_alloc | apply pw_below_drewN | apply below_drew1 | refine below_set ?_ GE147.out) | exact HB.out)⟩
      · rw [if_neg c9] at H
        have c9b0 : (t148 == a3) = false := by simpa using c9
        (try (have c9b1 : decide (t148 = a3) = false := by simpa using c9))
        (try (have c9b2 : (t148 == a3) = false := by simpa using c9))
        (try (have c9b3 : ¬ (t148 = a3) := by simpa using c9))
        clear c9
        exact absurd ((Option.some.inj H).trans HT.out) (by decide)
    · rw [if_neg c7] at H
      have c7b0 : ((wrap64 (Int.tmod a0 30)) == 6) = false := beq_eq_false_iff_ne.mpr c7
      have c7b1 : ((wrap64 (Int.tmod a0 30)) != 6) = true := bne_iff_ne.mpr c7
      by_cases c21 : (wrap64 (Int.tmod a0 30)) = 17
      · rw [if_pos c21] at H
        have c21b0 : ((wrap64 (Int.tmod a0 30)) == 17) = true := beq_iff_eq.mpr c21
        have c21b1 : ((wrap64 (Int.tmod a0 30)) != 17) = false := bne_eq_false_iff_eq.mpr c21
        clear c21
        replace H := Option.bind_eq_some_iff.mp H
        obtain ⟨t151, A220, H⟩ := H
        (try dsimp only at H)
        have A22 := Aside0.mk A220
        clear A220
        by_cases c23 : (t151 == ((Go.bits .and .u32 ((Go.bits .and .u32 a1 1073741823) / 16384) 1) == 1)) = true
        · rw [if_pos c23] at H
          have c23b0 : (t151 == ((Go.bits .and .u32 ((Go.bits .and .u32 a1 1073741823) / 16384) 1) == 1)) = true := c23
          (try (have c23b1 : decide (t151 = ((Go.bits .and .u32 ((Go.bits .and .u32 a1 1073741823) / 16384) 1) == 1)) = true := by simpa using c23))
          (try (have c23b2 : (t151 == ((Go.bits .and .u32 ((Go.bits .and .u32 a1 1073741823) / 16384) 1) == 1)) = true := by simpa using c23))
          clear c23
          replace H := Option.bind_eq_some_iff.mp H
          obtain ⟨t152, A240, H⟩ := H
          (try dsimp only at H)
          have A24 := Aside0.mk A240
          clear A240
          by_cases c25 : t152 = true
          · subst c25
            rw [if_pos rfl] at H
            exact absurd ((Option.some.inj H).trans HT.out) (by decide)
          · replace c25 := Bool.eq_false_iff.mpr c25
            subst c25
            rw [if_neg (show ¬ (false = true) by decide)] at H
            replace H := Option.bind_eq_some_iff.mp H
            obtain ⟨t153, A260, H⟩ := H
            (try dsimp only at H)
            have A26 := Aside0.mk A260
            clear A260
            obtain rfl := Option.some.inj H
            go_enter Tryd.func6, Tryd.ntmps6
            go_wp2_with (first | ((with_reducible refine gate_callee (f := 7) rfl ?_); refine goesL_ (some 13) rfl rfl Tryd.func7 (by kernel_rfl) rfl #[] rfl (by (try simp only [List.map_toArray, List.map_cons, List.map_nil]); first | done | rfl | (simp only [List.length_drop, List.length_take]; rfl)) ?_; (with_reducible refine (parallaxlaw5_known.calls k  true _ ?side1 A5.out).mono ?_); (case side1 => exact Laid.below HLX.out (by repeat (first | (with_reducible first | exact HB.out | apply below_alloc | apply pw_below_drewN | apply below_drew1) | exact HB.out))); rintro e w27 ⟨rfl, hb⟩; refine ⟨_, rfl, ?_⟩; have n0_ := Aside0.mk (below_step (by repeat (first | (with_reducible first | exact HB.out | apply below_alloc | apply pw_below_drewN | apply below_drew1) | exact HB.out)) hb); clear HB; have HB := n0_; clear n0_; (try clear hb); (try clear hb2); (try clear hk); (try clear hi)) | ((with_reducible refine gate_dst (N := 11) rfl ?_); refine box_event ?hg (N := 11) ?hd (cs := #[.int .i64 0, .int .i64 0, .int .i64 0, .int .i64 0, .int .i64 0, .int .i64 0, .int .i64 0, .int .i64 0, .bool false, .bool false]) (t := 25) ?hr ?_; (case hd => rfl); (case hg => rfl); (case hr => first | (go_simp; done) | (go_simp; rfl)); intro gb147 hg w28 hbox hb; have n0_ := Aside0.mk (below_step (by repeat (first | (with_reducible first | exact HB.out | apply below_alloc | apply pw_below_drewN | apply below_drew1) | exact HB.out)) hb); have n1_ := Aside0.mk (hbox); have n2_ := Aside0.mk ((by rw [hg]; exact (below_size (by repeat (first | (with_reducible first | exact HB.out | apply below_alloc | apply pw_below_drewN | apply below_drew1) | exact HB.out))) : w.heap.size ≤ gb147)); have n3_ := Aside0.mk ((by rw [hg]; exact (below_size (by repeat (first | (with_reducible first | exact HB.out | apply below_alloc | apply pw_below_drewN | apply below_drew1) | exact HB.out))) : w.heap.size ≤ gb147)); clear HB; have HB := n0_; have BK147 := n1_; have GW147 := n2_; have GE147 := n3_; clear n0_ n1_ n2_ n3_; clear hb hbox hg; have hcz29_0 : w28.cell? ⟨gb147, 0, none⟩ = some (.int .i64 0) := (blk_cell BK147.out 0).trans rfl; have hcz29_1 : w28.cell? ⟨gb147, 1, none⟩ = some (.int .i64 0) := (blk_cell BK147.out 1).trans rfl; have hcz29_2 : w28.cell? ⟨gb147, 2, none⟩ = some (.int .i64 0) := (blk_cell BK147.out 2).trans rfl; have hcz29_3 : w28.cell? ⟨gb147, 3, none⟩ = some (.int .i64 0) := (blk_cell BK147.out 3).trans rfl; have hcz29_4 : w28.cell? ⟨gb147, 4, none⟩ = some (.int .i64 0) := (blk_cell BK147.out 4).trans rfl; have hcz29_5 : w28.cell? ⟨gb147, 5, none⟩ = some (.int .i64 0) := (blk_cell BK147.out 5).trans rfl; have hcz29_6 : w28.cell? ⟨gb147, 6, none⟩ = some (.int .i64 0) := (blk_cell BK147.out 6).trans rfl; have hcz29_7 : w28.cell? ⟨gb147, 7, none⟩ = some (.int .i64 0) := (blk_cell BK147.out 7).trans rfl; have hcz29_8 : w28.cell? ⟨gb147, 8, none⟩ = some (.bool false) := (blk_cell BK147.out 8).trans rfl; have hcz29_9 : w28.cell? ⟨gb147, 9, none⟩ = some (.bool false) := (blk_cell BK147.out 9).trans rfl; have hfz29_0 := blk_frozen BK147.out 0; have hfz29_1 := blk_frozen BK147.out 1; have hfz29_2 := blk_frozen BK147.out 2; have hfz29_3 := blk_frozen BK147.out 3; have hfz29_4 := blk_frozen BK147.out 4; have hfz29_5 := blk_frozen BK147.out 5; have hfz29_6 := blk_frozen BK147.out 6; have hfz29_7 := blk_frozen BK147.out 7; have hfz29_8 := blk_frozen BK147.out 8; have hfz29_9 := blk_frozen BK147.out 9) | ((with_reducible refine gate_callee (f := 13) rfl ?_); refine goesL_ (some 79) rfl rfl Tryd.func13 (by kernel_rfl) rfl #[.int .i64 (wrap64 (Int.tmod a0 30)), .int .u32 (Go.bits .and .u32 a1 1073741823), .agg #[.int .i64 0, .int .i64 0, .int .i64 0, .int .i64 0, .int .i64 0, .int .i64 0, .int .i64 0, .int .i64 0, .bool a2, .bool a3]] rfl (by (try simp only [List.map_toArray, List.map_cons, List.map_nil]); first | done | rfl | (simp only [List.length_drop, List.length_take]; rfl)) ?_; (with_reducible refine (quirks_Needs.calls k (wrap64 (Int.tmod a0 30)) (Go.bits .and .u32 a1 1073741823) 0 0 0 0 0 0 0 0 a2 a3 t151 _ A22.out).mono ?_); rintro e w30 ⟨rfl, hb⟩; refine ⟨_, rfl, ?_⟩; have n0_ := Aside0.mk (blk_below (g := gb147) (o := .cells #[.int .i64 0, .int .i64 0, .int .i64 0, .int .i64 0, .int .i64 0, .int .i64 0, .int .i64 0, .int .i64 0, .bool a2, .bool a3] 25 (0, 0)) (by (with_reducible repeat (first | refine blk_drewN ?_ _ | refine blk_drew ?_ | refine blk_alloc ?_ _)); refine blk_put (cs := #[.int .i64 0, .int .i64 0, .int .i64 0, .int .i64 0, .int .i64 0, .int .i64 0, .int .i64 0, .int .i64 0, .bool a2, .bool false]) ?_ 9 _ rfl; (with_reducible repeat (first | refine blk_drewN ?_ _ | refine blk_drew ?_ | refine blk_alloc ?_ _)); refine blk_put (cs := #[.int .i64 0, .int .i64 0, .int .i64 0, .int .i64 0, .int .i64 0, .int .i64 0, .int .i64 0, .int .i64 0, .bool false, .bool false]) ?_ 8 _ rfl; (with_reducible repeat (first | refine blk_drewN ?_ _ | refine blk_drew ?_ | refine blk_alloc ?_ _)); refine blk_put (cs := #[.int .i64 0, .int .i64 0, .int .i64 0, .int .i64 0, .int .i64 0, .int .i64 0, .int .i64 0, .int .i64 0, .bool false, .bool false]) ?_ 7 _ rfl; (with_reducible repeat (first | refine blk_drewN ?_ _ | refine blk_drew ?_ | refine blk_alloc ?_ _)); refine blk_put (cs := #[.int .i64 0, .int .i64 0, .int .i64 0, .int .i64 0, .int .i64 0, .int .i64 0, .int .i64 0, .int .i64 0, .bool false, .bool false]) ?_ 6 _ rfl; (with_reducible repeat (first | refine blk_drewN ?_ _ | refine blk_drew ?_ | refine blk_alloc ?_ _)); refine blk_put (cs := #[.int .i64 0, .int .i64 0, .int .i64 0, .int .i64 0, .int .i64 0, .int .i64 0, .int .i64 0, .int .i64 0, .bool false, .bool false]) ?_ 5 _ rfl; (with_reducible repeat (first | refine blk_drewN ?_ _ | refine blk_drew ?_ | refine blk_alloc ?_ _)); refine blk_put (cs := #[.int .i64 0, .int .i64 0, .int .i64 0, .int .i64 0, .int .i64 0, .int .i64 0, .int .i64 0, .int .i64 0, .bool false, .bool false]) ?_ 4 _ rfl; (with_reducible repeat (first | refine blk_drewN ?_ _ | refine blk_drew ?_ | refine blk_alloc ?_ _)); refine blk_put (cs := #[.int .i64 0, .int .i64 0, .int .i64 0, .int .i64 0, .int .i64 0, .int .i64 0, .int .i64 0, .int .i64 0, .bool false, .bool false]) ?_ 3 _ rfl; (with_reducible repeat (first | refine blk_drewN ?_ _ | refine blk_drew ?_ | refine blk_alloc ?_ _)); refine blk_put (cs := #[.int .i64 0, .int .i64 0, .int .i64 0, .int .i64 0, .int .i64 0, .int .i64 0, .int .i64 0, .int .i64 0, .bool false, .bool false]) ?_ 2 _ rfl; (with_reducible repeat (first | refine blk_drewN ?_ _ | refine blk_drew ?_ | refine blk_alloc ?_ _)); refine blk_put (cs := #[.int .i64 0, .int .i64 0, .int .i64 0, .int .i64 0, .int .i64 0, .int .i64 0, .int .i64 0, .int .i64 0, .bool false, .bool false]) ?_ 1 _ rfl; (with_reducible repeat (first | refine blk_drewN ?_ _ | refine blk_drew ?_ | refine blk_alloc ?_ _)); refine blk_put (cs := #[.int .i64 0, .int .i64 0, .int .i64 0, .int .i64 0, .int .i64 0, .int .i64 0, .int .i64 0, .int .i64 0, .bool false, .bool false]) ?_ 0 _ rfl; (with_reducible repeat (first | refine blk_drewN ?_ _ | refine blk_drew ?_ | refine blk_alloc ?_ _)); exact BK147.out) hb); have n1_ := Aside0.mk (below_step (by repeat (first | (with_reducible first | exact HB.out | apply below_alloc | apply pw_below_drewN | apply below_drew1 | refine below_set ?_ GE147.out) | exact HB.out)) hb); clear BK147; clear HB; have BK147 := n0_; have HB := n1_; clear n0_ n1_; (try clear hb); (try clear hb2); (try clear hk); (try clear hi); have hcz31_0 : w30.cell? ⟨gb147, 0, none⟩ = some (.int .i64 0) := (blk_cell BK147.out 0).trans rfl; have hcz31_1 : w30.cell? ⟨gb147, 1, none⟩ = some (.int .i64 0) := (blk_cell BK147.out 1).trans rfl; have hcz31_2 : w30.cell? ⟨gb147, 2, none⟩ = some (.int .i64 0) := (blk_cell BK147.out 2).trans rfl; have hcz31_3 : w30.cell? ⟨gb147, 3, none⟩ = some (.int .i64 0) := (blk_cell BK147.out 3).trans rfl; have hcz31_4 : w30.cell? ⟨gb147, 4, none⟩ = some (.int .i64 0) := (blk_cell BK147.out 4).trans rfl; have hcz31_5 : w30.cell? ⟨gb147, 5, none⟩ = some (.int .i64 0) := (blk_cell BK147.out 5).trans rfl; have hcz31_6 : w30.cell? ⟨gb147, 6, none⟩ = some (.int .i64 0) := (blk_cell BK147.out 6).trans rfl; have hcz31_7 : w30.cell? ⟨gb147, 7, none⟩ = some (.int .i64 0) := (blk_cell BK147.out 7).trans rfl; have hcz31_8 : w30.cell? ⟨gb147, 8, none⟩ = some (.bool a2) := (blk_cell BK147.out 8).trans rfl; have hcz31_9 : w30.cell? ⟨gb147, 9, none⟩ = some (.bool a3) := (blk_cell BK147.out 9).trans rfl; have hfz31_0 := blk_frozen BK147.out 0; have hfz31_1 := blk_frozen BK147.out 1; have hfz31_2 := blk_frozen BK147.out 2; have hfz31_3 := blk_frozen BK147.out 3; have hfz31_4 := blk_frozen BK147.out 4; have hfz31_5 := blk_frozen BK147.out 5; have hfz31_6 := blk_frozen BK147.out 6; have hfz31_7 := blk_frozen BK147.out 7; have hfz31_8 := blk_frozen BK147.out 8; have hfz31_9 := blk_frozen BK147.out 9) | (go_at_call 13; (with_reducible refine (quirks_Needs.calls k (-1) (Go.bits .and .u32 a1 1073741823) 0 0 0 0 0 0 0 0 a2 a3 false _ A24.out).mono ?_); rintro e w32 ⟨rfl, hb⟩; have n0_ := Aside0.mk (blk_below (g := gb147) (o := .cells #[.int .i64 0, .int .i64 0, .int .i64 0, .int .i64 0, .int .i64 0, .int .i64 0, .int .i64 0, .int .i64 0, .bool a2, .bool a3] 25 (0, 0)) (by (with_reducible repeat (first | refine blk_drewN ?_ _ | refine blk_drew ?_ | refine blk_alloc ?_ _)); exact BK147.out) hb); have n1_ := Aside0.mk (below_step (by repeat (first | (with_reducible first | exact HB.out | apply below_alloc | apply pw_below_drewN | apply below_drew1 | refine below_set ?_ GE147.out) | exact HB.out)) hb); clear BK147; clear HB; have BK147 := n0_; have HB := n1_; clear n0_ n1_; (try clear hb); (try clear hb2); (try clear hk); (try clear hi); have hcz33_0 : w32.cell? ⟨gb147, 0, none⟩ = some (.int .i64 0) := (blk_cell BK147.out 0).trans rfl; have hcz33_1 : w32.cell? ⟨gb147, 1, none⟩ = some (.int .i64 0) := (blk_cell BK147.out 1).trans rfl; have hcz33_2 : w32.cell? ⟨gb147, 2, none⟩ = some (.int .i64 0) := (blk_cell BK147.out 2).trans rfl; have hcz33_3 : w32.cell? ⟨gb147, 3, none⟩ = some (.int .i64 0) := (blk_cell BK147.out 3).trans rfl; have hcz33_4 : w32.cell? ⟨gb147, 4, none⟩ = some (.int .i64 0) := (blk_cell BK147.out 4).trans rfl; have hcz33_5 : w32.cell? ⟨gb147, 5, none⟩ = some (.int .i64 0) := (blk_cell BK147.out 5).trans rfl; have hcz33_6 : w32.cell? ⟨gb147, 6, none⟩ = some (.int .i64 0) := (blk_cell BK147.out 6).trans rfl; have hcz33_7 : w32.cell? ⟨gb147, 7, none⟩ = some (.int .i64 0) := (blk_cell BK147.out 7).trans rfl; have hcz33_8 : w32.cell? ⟨gb147, 8, none⟩ = some (.bool a2) := (blk_cell BK147.out 8).trans rfl; have hcz33_9 : w32.cell? ⟨gb147, 9, none⟩ = some (.bool a3) := (blk_cell BK147.out 9).trans rfl; have hfz33_0 := blk_frozen BK147.out 0; have hfz33_1 := blk_frozen BK147.out 1; have hfz33_2 := blk_frozen BK147.out 2; have hfz33_3 := blk_frozen BK147.out 3; have hfz33_4 := blk_frozen BK147.out 4; have hfz33_5 := blk_frozen BK147.out 5; have hfz33_6 := blk_frozen BK147.out 6; have hfz33_7 := blk_frozen BK147.out 7; have hfz33_8 := blk_frozen BK147.out 8; have hfz33_9 := blk_frozen BK147.out 9) | (go_at_call 13; (with_reducible refine (quirks_Needs.calls k 30 (Go.bits .and .u32 a1 1073741823) 0 0 0 0 0 0 0 0 a2 a3 t153 _ A26.out).mono ?_); rintro e w34 ⟨rfl, hb⟩; have n0_ := Aside0.mk (blk_below (g := gb147) (o := .cells #[.int .i64 0, .int .i64 0, .int .i64 0, .int .i64 0, .int .i64 0, .int .i64 0, .int .i64 0, .int .i64 0, .bool a2, .bool a3] 25 (0, 0)) (by (with_reducible repeat (first | refine blk_drewN ?_ _ | refine blk_drew ?_ | refine blk_alloc ?_ _)); exact BK147.out) hb); have n1_ := Aside0.mk (below_step (by repeat (first | (with_reducible first | exact HB.out | apply below_alloc | apply pw_below_drewN | apply below_drew1 | refine below_set ?_ GE147.out) | exact HB.out)) hb); clear BK147; clear HB; have BK147 := n0_; have HB := n1_; clear n0_ n1_; (try clear hb); (try clear hb2); (try clear hk); (try clear hi)) | (go_at_call 7; (with_reducible refine (parallaxlaw5_known.calls k  true _ ?side1 A5.out).mono ?_); (case side1 => exact Laid.below HLX.out (by repeat (first | (with_reducible first | exact HB.out | apply below_alloc | apply pw_below_drewN | apply below_drew1) | exact HB.out))); rintro e w27 ⟨rfl, hb⟩; have n0_ := Aside0.mk (below_step (by repeat (first | (with_reducible first | exact HB.out | apply below_alloc | apply pw_below_drewN | apply below_drew1) | exact HB.out)) hb); clear HB; have HB := n0_; clear n0_; (try clear hb); (try clear hb2); (try clear hk); (try clear hi)) | (go_at_call 13; (with_reducible refine (quirks_Needs.calls k (wrap64 (Int.tmod a0 30)) (Go.bits .and .u32 a1 1073741823) 0 0 0 0 0 0 0 0 a2 a3 t151 _ A22.out).mono ?_); rintro e w30 ⟨rfl, hb⟩; have n0_ := Aside0.mk (blk_below (g := gb147) (o := .cells #[.int .i64 0, .int .i64 0, .int .i64 0, .int .i64 0, .int .i64 0, .int .i64 0, .int .i64 0, .int .i64 0, .bool a2, .bool a3] 25 (0, 0)) (by (with_reducible repeat (first | refine blk_drewN ?_ _ | refine blk_drew ?_ | refine blk_alloc ?_ _)); refine blk_put (cs := #[.int .i64 0, .int .i64 0, .int .i64 0, .int .i64 0, .int .i64 0, .int .i64 0, .int .i64 0, .int .i64 0, .bool a2, .bool false]) ?_ 9 _ rfl; (with_reducible repeat (first | refine blk_drewN ?_ _ | refine blk_drew ?_ | refine blk_alloc ?_ _)); refine blk_put (cs := #[.int .i64 0, .int .i64 0, .int .i64 0, .int .i64 0, .int .i64 0, .int .i64 0, .int .i64 0, .int .i64 0, .bool false, .bool false]) ?_ 8 _ rfl; (with_reducible repeat (first | refine blk_drewN ?_ _ | refine blk_drew ?_ | refine blk_alloc ?_ _)); refine blk_put (cs := #[.int .i64 0, .int .i64 0, .int .i64 0, .int .i64 0, .int .i64 0, .int .i64 0, .int .i64 0, .int .i64 0, .bool false, .bool false]) ?_ 7 _ rfl; (with_reducible repeat (first | refine blk_drewN ?_ _ | refine blk_drew ?_ | refine blk_alloc ?_ _)); refine blk_put (cs := #[.int .i64 0, .int .i64 0, .int .i64 0, .int .i64 0, .int .i64 0, .int .i64 0, .int .i64 0, .int .i64 0, .bool false, .bool false]) ?_ 6 _ rfl; (with_reducible repeat (first | refine blk_drewN ?_ _ | refine blk_drew ?_ | refine blk_alloc ?_ _)); refine blk_put (cs := #[.int .i64 0, .int .i64 0, .int .i64 0, .int .i64 0, .int .i64 0, .int .i64 0, .int .i64 0, .int .i64 0, .bool false, .bool false]) ?_ 5 _ rfl; (with_reducible repeat (first | refine blk_drewN ?_ _ | refine blk_drew ?_ | refine blk_alloc ?_ _)); refine blk_put (cs := #[.int .i64 0, .int .i64 0, .int .i64 0, .int .i64 0, .int .i64 0, .int .i64 0, .int .i64 0, .int .i64 0, .bool false, .bool false]) ?_ 4 _ rfl; (with_reducible repeat (first | refine blk_drewN ?_ _ | refine blk_drew ?_ | refine blk_alloc ?_ _)); refine blk_put (cs := #[.int .i64 0, .int .i64 0, .int .i64 0, .int .i64 0, .int .i64 0, .int .i64 0, .int .i64 0, .int .i64 0, .bool false, .bool false]) ?_ 3 _ rfl; (with_reducible repeat (first | refine blk_drewN ?_ _ | refine blk_drew ?_ | refine blk_alloc ?_ _)); refine blk_put (cs := #[.int .i64 0, .int .i64 0, .int .i64 0, .int .i64 0, .int .i64 0, .int .i64 0, .int .i64 0, .int .i64 0, .bool false, .bool false]) ?_ 2 _ rfl; (with_reducible repeat (first | refine blk_drewN ?_ _ | refine blk_drew ?_ | refine blk_alloc ?_ _)); refine blk_put (cs := #[.int .i64 0, .int .i64 0, .int .i64 0, .int .i64 0, .int .i64 0, .int .i64 0, .int .i64 0, .int .i64 0, .bool false, .bool false]) ?_ 1 _ rfl; (with_reducible repeat (first | refine blk_drewN ?_ _ | refine blk_drew ?_ | refine blk_alloc ?_ _)); refine blk_put (cs := #[.int .i64 0, .int .i64 0, .int .i64 0, .int .i64 0, .int .i64 0, .int .i64 0, .int .i64 0, .int .i64 0, .bool false, .bool false]) ?_ 0 _ rfl; (with_reducible repeat (first | refine blk_drewN ?_ _ | refine blk_drew ?_ | refine blk_alloc ?_ _)); exact BK147.out) hb); have n1_ := Aside0.mk (below_step (by repeat (first | (with_reducible first | exact HB.out | apply below_alloc | apply pw_below_drewN | apply below_drew1 | refine below_set ?_ GE147.out) | exact HB.out)) hb); clear BK147; clear HB; have BK147 := n0_; have HB := n1_; clear n0_ n1_; (try clear hb); (try clear hb2); (try clear hk); (try clear hi); have hcz31_0 : w30.cell? ⟨gb147, 0, none⟩ = some (.int .i64 0) := (blk_cell BK147.out 0).trans rfl; have hcz31_1 : w30.cell? ⟨gb147, 1, none⟩ = some (.int .i64 0) := (blk_cell BK147.out 1).trans rfl; have hcz31_2 : w30.cell? ⟨gb147, 2, none⟩ = some (.int .i64 0) := (blk_cell BK147.out 2).trans rfl; have hcz31_3 : w30.cell? ⟨gb147, 3, none⟩ = some (.int .i64 0) := (blk_cell BK147.out 3).trans rfl; have hcz31_4 : w30.cell? ⟨gb147, 4, none⟩ = some (.int .i64 0) := (blk_cell BK147.out 4).trans rfl; have hcz31_5 : w30.cell? ⟨gb147, 5, none⟩ = some (.int .i64 0) := (blk_cell BK147.out 5).trans rfl; have hcz31_6 : w30.cell? ⟨gb147, 6, none⟩ = some (.int .i64 0) := (blk_cell BK147.out 6).trans rfl; have hcz31_7 : w30.cell? ⟨gb147, 7, none⟩ = some (.int .i64 0) := (blk_cell BK147.out 7).trans rfl; have hcz31_8 : w30.cell? ⟨gb147, 8, none⟩ = some (.bool a2) := (blk_cell BK147.out 8).trans rfl; have hcz31_9 : w30.cell? ⟨gb147, 9, none⟩ = some (.bool a3) := (blk_cell BK147.out 9).trans rfl; have hfz31_0 := blk_frozen BK147.out 0; have hfz31_1 := blk_frozen BK147.out 1; have hfz31_2 := blk_frozen BK147.out 2; have hfz31_3 := blk_frozen BK147.out 3; have hfz31_4 := blk_frozen BK147.out 4; have hfz31_5 := blk_frozen BK147.out 5; have hfz31_6 := blk_frozen BK147.out 6; have hfz31_7 := blk_frozen BK147.out 7; have hfz31_8 := blk_frozen BK147.out 8; have hfz31_9 := blk_frozen BK147.out 9))
            (try any_goals (exfalso; have h_ := ‹some undef = some (Value.bool _)›; revert h_; simp [undef]; done))
            go_ret
            exact ⟨by first | rfl | (simp [errW_none, errW_some] <;> rfl) | (simp [*, errW_none, errW_some] <;> rfl), by repeat (first | (with_reducible first | exact HB.out | apply below_alloc | apply pw_below_drewN | apply below_drew1 | refine below_set ?_ GE147.out) | exact HB.out)⟩
        · rw [if_neg c23] at H
          have c23b0 : (t151 == ((Go.bits .and .u32 ((Go.bits .and .u32 a1 1073741823) / 16384) 1) == 1)) = false := by simpa using c23
          (try (have c23b1 : decide (t151 = ((Go.bits .and .u32 ((Go.bits .and .u32 a1 1073741823) / 16384) 1) == 1)) = false := by simpa using c23))
          (try (have c23b2 : (t151 == ((Go.bits .and .u32 ((Go.bits .and .u32 a1 1073741823) / 16384) 1) == 1)) = false := by simpa using c23))
          (try (have c23b3 : ¬ (t151 = ((Go.bits .and .u32 ((Go.bits .and .u32 a1 1073741823) / 16384) 1) == 1)) := by simpa using c23))
          clear c23
          exact absurd ((Option.some.inj H).trans HT.out) (by decide)
      · rw [if_neg c21] at H
        have c21b0 : ((wrap64 (Int.tmod a0 30)) == 17) = false := beq_eq_false_iff_ne.mpr c21
        have c21b1 : ((wrap64 (Int.tmod a0 30)) != 17) = true := bne_iff_ne.mpr c21
        have HC35 := Aside0.mk H
        clear H
        go_enter Tryd.func6, Tryd.ntmps6
        go_upto_if 33 with (first | ((with_reducible refine gate_callee (f := 7) rfl ?_); refine goesL_ (some 13) rfl rfl Tryd.func7 (by kernel_rfl) rfl #[] rfl (by (try simp only [List.map_toArray, List.map_cons, List.map_nil]); first | done | rfl | (simp only [List.length_drop, List.length_take]; rfl)) ?_; (with_reducible refine (parallaxlaw5_known.calls k  true _ ?side1 A5.out).mono ?_); (case side1 => exact Laid.below HLX.out (by repeat (first | (with_reducible first | exact HB.out | apply below_alloc | apply pw_below_drewN | apply below_drew1) | exact HB.out))); rintro e w36 ⟨rfl, hb⟩; refine ⟨_, rfl, ?_⟩; have n0_ := Aside0.mk (below_step (by repeat (first | (with_reducible first | exact HB.out | apply below_alloc | apply pw_below_drewN | apply below_drew1) | exact HB.out)) hb); clear HB; have HB := n0_; clear n0_; (try clear hb); (try clear hb2); (try clear hk); (try clear hi)) | ((with_reducible refine gate_dst (N := 11) rfl ?_); refine box_event ?hg (N := 11) ?hd (cs := #[.int .i64 0, .int .i64 0, .int .i64 0, .int .i64 0, .int .i64 0, .int .i64 0, .int .i64 0, .int .i64 0, .bool false, .bool false]) (t := 25) ?hr ?_; (case hd => rfl); (case hg => rfl); (case hr => first | (go_simp; done) | (go_simp; rfl)); intro gb147 hg w37 hbox hb; have n0_ := Aside0.mk (below_step (by repeat (first | (with_reducible first | exact HB.out | apply below_alloc | apply pw_below_drewN | apply below_drew1) | exact HB.out)) hb); have n1_ := Aside0.mk (hbox); have n2_ := Aside0.mk ((by rw [hg]; exact (below_size (by repeat (first | (with_reducible first | exact HB.out | apply below_alloc | apply pw_below_drewN | apply below_drew1) | exact HB.out))) : w.heap.size ≤ gb147)); have n3_ := Aside0.mk ((by rw [hg]; exact (below_size (by repeat (first | (with_reducible first | exact HB.out | apply below_alloc | apply pw_below_drewN | apply below_drew1) | exact HB.out))) : w.heap.size ≤ gb147)); clear HB; have HB := n0_; have BK147 := n1_; have GW147 := n2_; have GE147 := n3_; clear n0_ n1_ n2_ n3_; clear hb hbox hg; have hcz38_0 : w37.cell? ⟨gb147, 0, none⟩ = some (.int .i64 0) := (blk_cell BK147.out 0).trans rfl; have hcz38_1 : w37.cell? ⟨gb147, 1, none⟩ = some (.int .i64 0) := (blk_cell BK147.out 1).trans rfl; have hcz38_2 : w37.cell? ⟨gb147, 2, none⟩ = some (.int .i64 0) := (blk_cell BK147.out 2).trans rfl; have hcz38_3 : w37.cell? ⟨gb147, 3, none⟩ = some (.int .i64 0) := (blk_cell BK147.out 3).trans rfl; have hcz38_4 : w37.cell? ⟨gb147, 4, none⟩ = some (.int .i64 0) := (blk_cell BK147.out 4).trans rfl; have hcz38_5 : w37.cell? ⟨gb147, 5, none⟩ = some (.int .i64 0) := (blk_cell BK147.out 5).trans rfl; have hcz38_6 : w37.cell? ⟨gb147, 6, none⟩ = some (.int .i64 0) := (blk_cell BK147.out 6).trans rfl; have hcz38_7 : w37.cell? ⟨gb147, 7, none⟩ = some (.int .i64 0) := (blk_cell BK147.out 7).trans rfl; have hcz38_8 : w37.cell? ⟨gb147, 8, none⟩ = some (.bool false) := (blk_cell BK147.out 8).trans rfl; have hcz38_9 : w37.cell? ⟨gb147, 9, none⟩ = some (.bool false) := (blk_cell BK147.out 9).trans rfl; have hfz38_0 := blk_frozen BK147.out 0; have hfz38_1 := blk_frozen BK147.out 1; have hfz38_2 := blk_frozen BK147.out 2; have hfz38_3 := blk_frozen BK147.out 3; have hfz38_4 := blk_frozen BK147.out 4; have hfz38_5 := blk_frozen BK147.out 5; have hfz38_6 := blk_frozen BK147.out 6; have hfz38_7 := blk_frozen BK147.out 7; have hfz38_8 := blk_frozen BK147.out 8; have hfz38_9 := blk_frozen BK147.out 9))
        (try simp only [Act.put, List.setIfInBounds_toArray, List.set_cons_zero, List.set_cons_succ])
        go_cut [33] (fun v33 wc => ∃ (kq : Nat) (x33_34 : Bool), v33 = .bool x33_34 ∧ Aside0 (parallaxlaw5_QuirksNeed.j0 kq a2 a3 (wrap64 (Int.tmod a0 30)) (Go.bits .and .u32 a1 1073741823) true (wrap64 (Int.tmod a0 30)) x33_34 0 0 0 0 0 0 0 0 a2 a3 = some r) ∧ Aside0 (kq ≤ k) ∧ Aside0 (wc.heap[gb147]? = some (.cells #[.int .i64 0, .int .i64 0, .int .i64 0, .int .i64 0, .int .i64 0, .int .i64 0, .int .i64 0, .int .i64 0, .bool a2, .bool a3] 25 (0, 0))) ∧ Aside0 (Below w.heap.size w wc))
        case first =>
          have H := HC35.out
          clear HC35
          by_cases c39 : (wrap64 (Int.tmod a0 30)) = 18
          · rw [if_pos c39] at H
            have c39b0 : ((wrap64 (Int.tmod a0 30)) == 18) = true := beq_iff_eq.mpr c39
            have c39b1 : ((wrap64 (Int.tmod a0 30)) != 18) = false := bne_eq_false_iff_eq.mpr c39
            clear c39
            (first | rw [c39b0] | (simp only [i64_w, i32_w]; rw [c39b0]) | skip)
            have H' := Aside0.mk H
            clear H
            go_wp2
            (try any_goals (exfalso; have h_ := ‹some undef = some (Value.bool _)›; revert h_; simp [undef]; done))
            go_meet
            case rel => exact ⟨_, (((wrap64 (Int.tmod a0 30)) == 18)), (by first | rfl | (simp; done) | (simp [*]; done)), H', ⟨by first | omega | exact Nat.le_refl _⟩, ⟨by (with_reducible repeat (first | refine blk_drewN ?_ _ | refine blk_drew ?_ | refine blk_alloc ?_ _)); refine blk_put (cs := #[.int .i64 0, .int .i64 0, .int .i64 0, .int .i64 0, .int .i64 0, .int .i64 0, .int .i64 0, .int .i64 0, .bool a2, .bool false]) ?_ 9 _ rfl; (with_reducible repeat (first | refine blk_drewN ?_ _ | refine blk_drew ?_ | refine blk_alloc ?_ _)); refine blk_put (cs := #[.int .i64 0, .int .i64 0, .int .i64 0, .int .i64 0, .int .i64 0, .int .i64 0, .int .i64 0, .int .i64 0, .bool false, .bool false]) ?_ 8 _ rfl; (with_reducible repeat (first | refine blk_drewN ?_ _ | refine blk_drew ?_ | refine blk_alloc ?_ _)); refine blk_put (cs := #[.int .i64 0, .int .i64 0, .int .i64 0, .int .i64 0, .int .i64 0, .int .i64 0, .int .i64 0, .int .i64 0, .bool false, .bool false]) ?_ 7 _ rfl; (with_reducible repeat (first | refine blk_drewN ?_ _ | refine blk_drew ?_ | refine blk_alloc ?_ _)); refine blk_put (cs := #[.int .i64 0, .int .i64 0, .int .i64 0, .int .i64 0, .int .i64 0, .int .i64 0, .int .i64 0, .int .i64 0, .bool false, .bool false]) ?_ 6 _ rfl; (with_reducible repeat (first | refine blk_drewN ?_ _ | refine blk_drew ?_ | refine blk_alloc ?_ _)); refine blk_put (cs := #[.int .i64 0, .int .i64 0, .int .i64 0, .int .i64 0, .int .i64 0, .int .i64 0, .int .i64 0, .int .i64 0, .bool false, .bool false]) ?_ 5 _ rfl; (with_reducible repeat (first | refine blk_drewN ?_ _ | refine blk_drew ?_ | refine blk_alloc ?_ _)); refine blk_put (cs := #[.int .i64 0, .int .i64 0, .int .i64 0, .int .i64 0, .int .i64 0, .int .i64 0, .int .i64 0, .int .i64 0, .bool false, .bool false]) ?_ 4 _ rfl; (with_reducible repeat (first | refine blk_drewN ?_ _ | refine blk_drew ?_ | refine blk_alloc ?_ _)); refine blk_put (cs := #[.int .i64 0, .int .i64 0, .int .i64 0, .int .i64 0, .int .i64 0, .int .i64 0, .int .i64 0, .int .i64 0, .bool false, .bool false]) ?_ 3 _ rfl; (with_reducible repeat (first | refine blk_drewN ?_ _ | refine blk_drew ?_ | refine blk_alloc ?_ _)); refine blk_put (cs := #[.int .i64 0, .int .i64 0, .int .i64 0, .int .i64 0, .int .i64 0, .int .i64 0, .int .i64 0, .int .i64 0, .bool false, .bool false]) ?_ 2 _ rfl; (with_reducible repeat (first | refine blk_drewN ?_ _ | refine blk_drew ?_ | refine blk_alloc ?_ _)); refine blk_put (cs := #[.int .i64 0, .int .i64 0, .int .i64 0, .int .i64 0, .int .i64 0, .int .i64 0, .int .i64 0, .int .i64 0, .bool false, .bool false]) ?_ 1 _ rfl; (with_reducible repeat (first | refine blk_drewN ?_ _ | refine blk_drew ?_ | refine blk_alloc ?_ _)); refine blk_put (cs := #[.int .i64 0, .int .i64 0, .int .i64 0, .int .i64 0, .int .i64 0, .int .i64 0, .int .i64 0, .int .i64 0, .bool false, .bool false]) ?_ 0 _ rfl; (with_reducible repeat (first | refine blk_drewN ?_ _ | refine blk_drew ?_ | refine blk_alloc ?_ _)); exact BK147.out⟩, ⟨by repeat (first | (with_reducible first | exact HB.out | apply below_alloc | apply pw_below_drewN | apply below_drew1 | refine below_set ?_ GE147.out) | exact HB.out)⟩⟩
          · rw [if_neg c39] at H
            have c39b0 : ((wrap64 (Int.tmod a0 30)) == 18) = false := beq_eq_false_iff_ne.mpr c39
            have c39b1 : ((wrap64 (Int.tmod a0 30)) != 18) = true := bne_iff_ne.mpr c39
            (first | rw [c39b0] | (simp only [i64_w, i32_w]; rw [c39b0]) | skip)
            by_cases c40 : (wrap64 (Int.tmod a0 30)) = 21
            · rw [if_pos c40] at H
              have c40b0 : ((wrap64 (Int.tmod a0 30)) == 21) = true := beq_iff_eq.mpr c40
              have c40b1 : ((wrap64 (Int.tmod a0 30)) != 21) = false := bne_eq_false_iff_eq.mpr c40
              clear c40
              have H' := Aside0.mk H
              clear H
              go_wp2
              (try any_goals (exfalso; have h_ := ‹some undef = some (Value.bool _)›; revert h_; simp [undef]; done))
              go_meet
              case rel => exact ⟨_, (((wrap64 (Int.tmod a0 30)) == 21)), (by first | rfl | (simp; done) | (simp [*]; done)), H', ⟨by first | omega | exact Nat.le_refl _⟩, ⟨by (with_reducible repeat (first | refine blk_drewN ?_ _ | refine blk_drew ?_ | refine blk_alloc ?_ _)); refine blk_put (cs := #[.int .i64 0, .int .i64 0, .int .i64 0, .int .i64 0, .int .i64 0, .int .i64 0, .int .i64 0, .int .i64 0, .bool a2, .bool false]) ?_ 9 _ rfl; (with_reducible repeat (first | refine blk_drewN ?_ _ | refine blk_drew ?_ | refine blk_alloc ?_ _)); refine blk_put (cs := #[.int .i64 0, .int .i64 0, .int .i64 0, .int .i64 0, .int .i64 0, .int .i64 0, .int .i64 0, .int .i64 0, .bool false, .bool false]) ?_ 8 _ rfl; (with_reducible repeat (first | refine blk_drewN ?_ _ | refine blk_drew ?_ | refine blk_alloc ?_ _)); refine blk_put (cs := #[.int .i64 0, .int .i64 0, .int .i64 0, .int .i64 0, .int .i64 0, .int .i64 0, .int .i64 0, .int .i64 0, .bool false, .bool false]) ?_ 7 _ rfl; (with_reducible repeat (first | refine blk_drewN ?_ _ | refine blk_drew ?_ | refine blk_alloc ?_ _)); refine blk_put (cs := #[.int .i64 0, .int .i64 0, .int .i64 0, .int .i64 0, .int .i64 0, .int .i64 0, .int .i64 0, .int .i64 0, .bool false, .bool false]) ?_ 6 _ rfl; (with_reducible repeat (first | refine blk_drewN ?_ _ | refine blk_drew ?_ | refine blk_alloc ?_ _)); refine blk_put (cs := #[.int .i64 0, .int .i64 0, .int .i64 0, .int .i64 0, .int .i64 0, .int .i64 0, .int .i64 0, .int .i64 0, .bool false, .bool false]) ?_ 5 _ rfl; (with_reducible repeat (first | refine blk_drewN ?_ _ | refine blk_drew ?_ | refine blk_alloc ?_ _)); refine blk_put (cs := #[.int .i64 0, .int .i64 0, .int .i64 0, .int .i64 0, .int .i64 0, .int .i64 0, .int .i64 0, .int .i64 0, .bool false, .bool false]) ?_ 4 _ rfl; (with_reducible repeat (first | refine blk_drewN ?_ _ | refine blk_drew ?_ | refine blk_alloc ?_ _)); refine blk_put (cs := #[.int .i64 0, .int .i64 0, .int .i64 0, .int .i64 0, .int .i64 0, .int .i64 0, .int .i64 0, .int .i64 0, .bool false, .bool false]) ?_ 3 _ rfl; (with_reducible repeat (first | refine blk_drewN ?_ _ | refine blk_drew ?_ | refine blk_alloc ?_ _)); refine blk_put (cs := #[.int .i64 0, .int .i64 0, .int .i64 0, .int .i64 0, .int .i64 0, .int .i64 0, .int .i64 0, .int .i64 0, .bool false, .bool false]) ?_ 2 _ rfl; (with_reducible repeat (first | refine blk_drewN ?_ _ | refine blk_drew ?_ | refine blk_alloc ?_ _)); refine blk_put (cs := #[.int .i64 0, .int .i64 0, .int .i64 0, .int .i64 0, .int .i64 0, .int .i64 0, .int .i64 0, .int .i64 0, .bool false, .bool false]) ?_ 1 _ rfl; (with_reducible repeat (first | refine blk_drewN ?_ _ | refine blk_drew ?_ | refine blk_alloc ?_ _)); refine blk_put (cs := #[.int .i64 0, .int .i64 0, .int .i64 0, .int .i64 0, .int .i64 0, .int .i64 0, .int .i64 0, .int .i64 0, .bool false, .bool false]) ?_ 0 _ rfl; (with_reducible repeat (first | refine blk_drewN ?_ _ | refine blk_drew ?_ | refine blk_alloc ?_ _)); exact BK147.out⟩, ⟨by repeat (first | (with_reducible first | exact HB.out | apply below_alloc | apply pw_below_drewN | apply below_drew1 | refine below_set ?_ GE147.out) | exact HB.out)⟩⟩
            · rw [if_neg c40] at H
              have c40b0 : ((wrap64 (Int.tmod a0 30)) == 21) = false := beq_eq_false_iff_ne.mpr c40
              have c40b1 : ((wrap64 (Int.tmod a0 30)) != 21) = true := bne_iff_ne.mpr c40
              by_cases c41 : (wrap64 (Int.tmod a0 30)) = 27
              · rw [if_pos c41] at H
                have c41b0 : ((wrap64 (Int.tmod a0 30)) == 27) = true := beq_iff_eq.mpr c41
                have c41b1 : ((wrap64 (Int.tmod a0 30)) != 27) = false := bne_eq_false_iff_eq.mpr c41
                clear c41
                have H' := Aside0.mk H
                clear H
                go_wp2
                (try any_goals (exfalso; have h_ := ‹some undef = some (Value.bool _)›; revert h_; simp [undef]; done))
                go_meet
                case rel => exact ⟨_, (((wrap64 (Int.tmod a0 30)) == 27)), (by first | rfl | (simp; done) | (simp [*]; done)), H', ⟨by first | omega | exact Nat.le_refl _⟩, ⟨by (with_reducible repeat (first | refine blk_drewN ?_ _ | refine blk_drew ?_ | refine blk_alloc ?_ _)); refine blk_put (cs := #[.int .i64 0, .int .i64 0, .int .i64 0, .int .i64 0, .int .i64 0, .int .i64 0, .int .i64 0, .int .i64 0, .bool a2, .bool false]) ?_ 9 _ rfl; (with_reducible repeat (first | refine blk_drewN ?_ _ | refine blk_drew ?_ | refine blk_alloc ?_ _)); refine blk_put (cs := #[.int .i64 0, .int .i64 0, .int .i64 0, .int .i64 0, .int .i64 0, .int .i64 0, .int .i64 0, .int .i64 0, .bool false, .bool false]) ?_ 8 _ rfl; (with_reducible repeat (first | refine blk_drewN ?_ _ | refine blk_drew ?_ | refine blk_alloc ?_ _)); refine blk_put (cs := #[.int .i64 0, .int .i64 0, .int .i64 0, .int .i64 0, .int .i64 0, .int .i64 0, .int .i64 0, .int .i64 0, .bool false, .bool false]) ?_ 7 _ rfl; (with_reducible repeat (first | refine blk_drewN ?_ _ | refine blk_drew ?_ | refine blk_alloc ?_ _)); refine blk_put (cs := #[.int .i64 0, .int .i64 0, .int .i64 0, .int .i64 0, .int .i64 0, .int .i64 0, .int .i64 0, .int .i64 0, .bool false, .bool false]) ?_ 6 _ rfl; (with_reducible repeat (first | refine blk_drewN ?_ _ | refine blk_drew ?_ | refine blk_alloc ?_ _)); refine blk_put (cs := #[.int .i64 0, .int .i64 0, .int .i64 0, .int .i64 0, .int .i64 0, .int .i64 0, .int .i64 0, .int .i64 0, .bool false, .bool false]) ?_ 5 _ rfl; (with_reducible repeat (first | refine blk_drewN ?_ _ | refine blk_drew ?_ | refine blk_alloc ?_ _)); refine blk_put (cs := #[.int .i64 0, .int .i64 0, .int .i64 0, .int .i64 0, .int .i64 0, .int .i64 0, .int .i64 0, .int .i64 0, .bool false, .bool false]) ?_ 4 _ rfl; (with_reducible repeat (first | refine blk_drewN ?_ _ | refine blk_drew ?_ | refine blk_alloc ?_ _)); refine blk_put (cs := #[.int .i64 0, .int .i64 0, .int .i64 0, .int .i64 0, .int .i64 0, .int .i64 0, .int .i64 0, .int .i64 0, .bool false, .bool false]) ?_ 3 _ rfl; (with_reducible repeat (first | refine blk_drewN ?_ _ | refine blk_drew ?_ | refine blk_alloc ?_ _)); refine blk_put (cs := #[.int .i64 0, .int .i64 0, .int .i64 0, .int .i64 0, .int .i64 0, .int .i64 0, .int .i64 0, .int .i64 0, .bool false, .bool false]) ?_ 2 _ rfl; (with_reducible repeat (first | refine blk_drewN ?_ _ | refine blk_drew ?_ | refine blk_alloc ?_ _)); refine blk_put (cs := #[.int .i64 0, .int .i64 0, .int .i64 0, .int .i64 0, .int .i64 0, .int .i64 0, .int .i64 0, .int .i64 0, .bool false, .bool false]) ?_ 1 _ rfl; (with_reducible repeat (first | refine blk_drewN ?_ _ | refine blk_drew ?_ | refine blk_alloc ?_ _)); refine blk_put (cs := #[.int .i64 0, .int .i64 0, .int .i64 0, .int .i64 0, .int .i64 0, .int .i64 0, .int .i64 0, .int .i64 0, .bool false, .bool false]) ?_ 0 _ rfl; (with_reducible repeat (first | refine blk_drewN ?_ _ | refine blk_drew ?_ | refine blk_alloc ?_ _)); exact BK147.out⟩, ⟨by repeat (first | (with_reducible first | exact HB.out | apply below_alloc | apply pw_below_drewN | apply below_drew1 | refine below_set ?_ GE147.out) | exact HB.out)⟩⟩
              · rw [if_neg c41] at H
                have c41b0 : ((wrap64 (Int.tmod a0 30)) == 27) = false := beq_eq_false_iff_ne.mpr c41
                have c41b1 : ((wrap64 (Int.tmod a0 30)) != 27) = true := bne_iff_ne.mpr c41
                by_cases c42 : (wrap64 (Int.tmod a0 30)) = 28
                · rw [if_pos c42] at H
                  have c42b0 : ((wrap64 (Int.tmod a0 30)) == 28) = true := beq_iff_eq.mpr c42
                  have c42b1 : ((wrap64 (Int.tmod a0 30)) != 28) = false := bne_eq_false_iff_eq.mpr c42
                  clear c42
                  have H' := Aside0.mk H
                  clear H
                  go_wp2
                  (try any_goals (exfalso; have h_ := ‹some undef = some (Value.bool _)›; revert h_; simp [undef]; done))
                  go_meet
                  case rel => exact ⟨_, (((wrap64 (Int.tmod a0 30)) == 28)), (by first | rfl | (simp; done) | (simp [*]; done)), H', ⟨by first | omega | exact Nat.le_refl _⟩, ⟨by (with_reducible repeat (first | refine blk_drewN ?_ _ | refine blk_drew ?_ | refine blk_alloc ?_ _)); refine blk_put (cs := #[.int .i64 0, .int .i64 0, .int .i64 0, .int .i64 0, .int .i64 0, .int .i64 0, .int .i64 0, .int .i64 0, .bool a2, .bool false]) ?_ 9 _ rfl; (with_reducible repeat (first | refine blk_drewN ?_ _ | refine blk_drew ?_ | refine blk_alloc ?_ _)); refine blk_put (cs := #[.int .i64 0, .int .i64 0, .int .i64 0, .int .i64 0, .int .i64 0, .int .i64 0, .int .i64 0, .int .i64 0, .bool false, .bool false]) ?_ 8 _ rfl; (with_reducible repeat (first | refine blk_drewN ?_ _ | refine blk_drew ?_ | refine blk_alloc ?_ _)); refine blk_put (cs := #[.int .i64 0, .int .i64 0, .int .i64 0, .int .i64 0, .int .i64 0, .int .i64 0, .int .i64 0, .int .i64 0, .bool false, .bool false]) ?_ 7 _ rfl; (with_reducible repeat (first | refine blk_drewN ?_ _ | refine blk_drew ?_ | refine blk_alloc ?_ _)); refine blk_put (cs := #[.int .i64 0, .int .i64 0, .int .i64 0, .int .i64 0, .int .i64 0, .int .i64 0, .int .i64 0, .int .i64 0, .bool false, .bool false]) ?_ 6 _ rfl; (with_reducible repeat (first | refine blk_drewN ?_ _ | refine blk_drew ?_ | refine blk_alloc ?_ _)); refine blk_put (cs := #[.int .i64 0, .int .i64 0, .int .i64 0, .int .i64 0, .int .i64 0, .int .i64 0, .int .i64 0, .int .i64 0, .bool false, .bool false]) ?_ 5 _ rfl; (with_reducible repeat (first | refine blk_drewN ?_ _ | refine blk_drew ?_ | refine blk_alloc ?_ _)); refine blk_put (cs := #[.int .i64 0, .int .i64 0, .int .i64 0, .int .i64 0, .int .i64 0, .int .i64 0, .int .i64 0, .int .i64 0, .bool false, .bool false]) ?_ 4 _ rfl; (with_reducible repeat (first | refine blk_drewN ?_ _ | refine blk_drew ?_ | refine blk_alloc ?_ _)); refine blk_put (cs := #[.int .i64 0, .int .i64 0, .int .i64 0, .int .i64 0, .int .i64 0, .int .i64 0, .int .i64 0, .int .i64 0, .bool false, .bool false]) ?_ 3 _ rfl; (with_reducible repeat (first | refine blk_drewN ?_ _ | refine blk_drew ?_ | refine blk_alloc ?_ _)); refine blk_put (cs := #[.int .i64 0, .int .i64 0, .int .i64 0, .int .i64 0, .int .i64 0, .int .i64 0, .int .i64 0, .int .i64 0, .bool false, .bool false]) ?_ 2 _ rfl; (with_reducible repeat (first | refine blk_drewN ?_ _ | refine blk_drew ?_ | refine blk_alloc ?_ _)); refine blk_put (cs := #[.int .i64 0, .int .i64 0, .int .i64 0, .int .i64 0, .int .i64 0, .int .i64 0, .int .i64 0, .int .i64 0, .bool false, .bool false]) ?_ 1 _ rfl; (with_reducible repeat (first | refine blk_drewN ?_ _ | refine blk_drew ?_ | refine blk_alloc ?_ _)); refine blk_put (cs := #[.int .i64 0, .int .i64 0, .int .i64 0, .int .i64 0, .int .i64 0, .int .i64 0, .int .i64 0, .int .i64 0, .bool false, .bool false]) ?_ 0 _ rfl; (with_reducible repeat (first | refine blk_drewN ?_ _ | refine blk_drew ?_ | refine blk_alloc ?_ _)); exact BK147.out⟩, ⟨by repeat (first | (with_reducible first | exact HB.out | apply below_alloc | apply pw_below_drewN | apply below_drew1 | refine below_set ?_ GE147.out) | exact HB.out)⟩⟩
                · rw [if_neg c42] at H
                  have c42b0 : ((wrap64 (Int.tmod a0 30)) == 28) = false := beq_eq_false_iff_ne.mpr c42
                  have c42b1 : ((wrap64 (Int.tmod a0 30)) != 28) = true := bne_iff_ne.mpr c42
                  have H' := Aside0.mk H
                  clear H
                  go_wp2
                  (try any_goals (exfalso; have h_ := ‹some undef = some (Value.bool _)›; revert h_; simp [undef]; done))
                  go_meet
                  case rel => exact ⟨_, (((wrap64 (Int.tmod a0 30)) == 29)), (by first | rfl | (simp; done) | (simp [*]; done)), H', ⟨by first | omega | exact Nat.le_refl _⟩, ⟨by (with_reducible repeat (first | refine blk_drewN ?_ _ | refine blk_drew ?_ | refine blk_alloc ?_ _)); refine blk_put (cs := #[.int .i64 0, .int .i64 0, .int .i64 0, .int .i64 0, .int .i64 0, .int .i64 0, .int .i64 0, .int .i64 0, .bool a2, .bool false]) ?_ 9 _ rfl; (with_reducible repeat (first | refine blk_drewN ?_ _ | refine blk_drew ?_ | refine blk_alloc ?_ _)); refine blk_put (cs := #[.int .i64 0, .int .i64 0, .int .i64 0, .int .i64 0, .int .i64 0, .int .i64 0, .int .i64 0, .int .i64 0, .bool false, .bool false]) ?_ 8 _ rfl; (with_reducible repeat (first | refine blk_drewN ?_ _ | refine blk_drew ?_ | refine blk_alloc ?_ _)); refine blk_put (cs := #[.int .i64 0, .int .i64 0, .int .i64 0, .int .i64 0, .int .i64 0, .int .i64 0, .int .i64 0, .int .i64 0, .bool false, .bool false]) ?_ 7 _ rfl; (with_reducible repeat (first | refine blk_drewN ?_ _ | refine blk_drew ?_ | refine blk_alloc ?_ _)); refine blk_put (cs := #[.int .i64 0, .int .i64 0, .int .i64 0, .int .i64 0, .int .i64 0, .int .i64 0, .int .i64 0, .int .i64 0, .bool false, .bool false]) ?_ 6 _ rfl; (with_reducible repeat (first | refine blk_drewN ?_ _ | refine blk_drew ?_ | refine blk_alloc ?_ _)); refine blk_put (cs := #[.int .i64 0, .int .i64 0, .int .i64 0, .int .i64 0, .int .i64 0, .int .i64 0, .int .i64 0, .int .i64 0, .bool false, .bool false]) ?_ 5 _ rfl; (with_reducible repeat (first | refine blk_drewN ?_ _ | refine blk_drew ?_ | refine blk_alloc ?_ _)); refine blk_put (cs := #[.int .i64 0, .int .i64 0, .int .i64 0, .int .i64 0, .int .i64 0, .int .i64 0, .int .i64 0, .int .i64 0, .bool false, .bool false]) ?_ 4 _ rfl; (with_reducible repeat (first | refine blk_drewN ?_ _ | refine blk_drew ?_ | refine blk_alloc ?_ _)); refine blk_put (cs := #[.int .i64 0, .int .i64 0, .int .i64 0, .int .i64 0, .int .i64 0, .int .i64 0, .int .i64 0, .int .i64 0, .bool false, .bool false]) ?_ 3 _ rfl; (with_reducible repeat (first | refine blk_drewN ?_ _ | refine blk_drew ?_ | refine blk_alloc ?_ _)); refine blk_put (cs := #[.int .i64 0, .int .i64 0, .int .i64 0, .int .i64 0, .int .i64 0, .int .i64 0, .int .i64 0, .int .i64 0, .bool false, .bool false]) ?_ 2 _ rfl; (with_reducible repeat (first | refine blk_drewN ?_ _ | refine blk_drew ?_ | refine blk_alloc ?_ _)); refine blk_put (cs := #[.int .i64 0, .int .i64 0, .int .i64 0, .int .i64 0, .int .i64 0, .int .i64 0, .int .i64 0, .int .i64 0, .bool false, .bool false]) ?_ 1 _ rfl; (with_reducible repeat (first | refine blk_drewN ?_ _ | refine blk_drew ?_ | refine blk_alloc ?_ _)); refine blk_put (cs := #[.int .i64 0, .int .i64 0, .int .i64 0, .int .i64 0, .int .i64 0, .int .i64 0, .int .i64 0, .int .i64 0, .bool false, .bool false]) ?_ 0 _ rfl; (with_reducible repeat (first | refine blk_drewN ?_ _ | refine blk_drew ?_ | refine blk_alloc ?_ _)); exact BK147.out⟩, ⟨by repeat (first | (with_reducible first | exact HB.out | apply below_alloc | apply pw_below_drewN | apply below_drew1 | refine below_set ?_ GE147.out) | exact HB.out)⟩⟩
        case rest =>
          clear HC35
          try clear c1
          try clear q1
          try clear c2
          try clear p2
          try clear c3
          try clear c4
          try clear c6
          try clear p6
          try clear c7
          try clear c7b0
          try clear c7b1
          try clear c9
          try clear c9b0
          try clear c9b1
          try clear c9b2
          try clear c11
          try clear c13
          try clear c21
          try clear c21b0
          try clear c21b1
          try clear c23
          try clear c23b0
          try clear c23b1
          try clear c23b2
          try clear c25
          try clear c39
          try clear c39b0
          try clear c39b1
          try clear c40
          try clear c40b0
          try clear c40b1
          try clear c41
          try clear c41b0
          try clear c41b1
          try clear c42
          try clear c42b0
          try clear c42b1
          try clear hcz15_0
          try clear hcz15_1
          try clear hcz15_2
          try clear hcz15_3
          try clear hcz15_4
          try clear hcz15_5
          try clear hcz15_6
          try clear hcz15_7
          try clear hcz15_8
          try clear hcz15_9
          try clear hcz17_0
          try clear hcz17_1
          try clear hcz17_2
          try clear hcz17_3
          try clear hcz17_4
          try clear hcz17_5
          try clear hcz17_6
          try clear hcz17_7
          try clear hcz17_8
          try clear hcz17_9
          try clear hcz19_0
          try clear hcz19_1
          try clear hcz19_2
          try clear hcz19_3
          try clear hcz19_4
          try clear hcz19_5
          try clear hcz19_6
          try clear hcz19_7
          try clear hcz19_8
          try clear hcz19_9
          try clear hcz29_0
          try clear hcz29_1
          try clear hcz29_2
          try clear hcz29_3
          try clear hcz29_4
          try clear hcz29_5
          try clear hcz29_6
          try clear hcz29_7
          try clear hcz29_8
          try clear hcz29_9
          try clear hcz31_0
          try clear hcz31_1
          try clear hcz31_2
          try clear hcz31_3
          try clear hcz31_4
          try clear hcz31_5
          try clear hcz31_6
          try clear hcz31_7
          try clear hcz31_8
          try clear hcz31_9
          try clear hcz33_0
          try clear hcz33_1
          try clear hcz33_2
          try clear hcz33_3
          try clear hcz33_4
          try clear hcz33_5
          try clear hcz33_6
          try clear hcz33_7
          try clear hcz33_8
          try clear hcz33_9
          try clear hcz38_0
          try clear hcz38_1
          try clear hcz38_2
          try clear hcz38_3
          try clear hcz38_4
          try clear hcz38_5
          try clear hcz38_6
          try clear hcz38_7
          try clear hcz38_8
          try clear hcz38_9
          try clear hfz15_0
          try clear hfz15_1
          try clear hfz15_2
          try clear hfz15_3
          try clear hfz15_4
          try clear hfz15_5
          try clear hfz15_6
          try clear hfz15_7
          try clear hfz15_8
          try clear hfz15_9
          try clear hfz17_0
          try clear hfz17_1
          try clear hfz17_2
          try clear hfz17_3
          try clear hfz17_4
          try clear hfz17_5
          try clear hfz17_6
          try clear hfz17_7
          try clear hfz17_8
          try clear hfz17_9
          try clear hfz19_0
          try clear hfz19_1
          try clear hfz19_2
          try clear hfz19_3
          try clear hfz19_4
          try clear hfz19_5
          try clear hfz19_6
          try clear hfz19_7
          try clear hfz19_8
          try clear hfz19_9
          try clear hfz29_0
          try clear hfz29_1
          try clear hfz29_2
          try clear hfz29_3
          try clear hfz29_4
          try clear hfz29_5
          try clear hfz29_6
          try clear hfz29_7
          try clear hfz29_8
          try clear hfz29_9
          try clear hfz31_0
          try clear hfz31_1
          try clear hfz31_2
          try clear hfz31_3
          try clear hfz31_4
          try clear hfz31_5
          try clear hfz31_6
          try clear hfz31_7
          try clear hfz31_8
          try clear hfz31_9
          try clear hfz33_0
          try clear hfz33_1
          try clear hfz33_2
          try clear hfz33_3
          try clear hfz33_4
          try clear hfz33_5
          try clear hfz33_6
          try clear hfz33_7
          try clear hfz33_8
          try clear hfz33_9
          try clear hfz38_0
          try clear hfz38_1
          try clear hfz38_2
          try clear hfz38_3
          try clear hfz38_4
          try clear hfz38_5
          try clear hfz38_6
          try clear hfz38_7
          try clear hfz38_8
          try clear hfz38_9
          obtain ⟨kq, x33_34, rfl, HA, HJ34, BK147, HB⟩ := hcut
          cases kq with
          | zero => exact absurd HA.out (by simp [parallaxlaw5_QuirksNeed.j0])
          | succ kj34 =>
            have H := HA.out
            clear HA
            simp only [parallaxlaw5_QuirksNeed.j0] at H
            by_cases c43 : x33_34 = true
            · subst c43
              rw [if_pos rfl] at H
              replace H := Option.bind_eq_some_iff.mp H
              obtain ⟨t154, A440, H⟩ := H
              (try dsimp only at H)
              have A44 := Aside0.mk A440
              clear A440
              by_cases c45 : (t154 == a2) = true
              · rw [if_pos c45] at H
                have c45b0 : (t154 == a2) = true := c45
                (try (have c45b1 : decide (t154 = a2) = true := by simpa using c45))
                (try (have c45b2 : (t154 == a2) = true := by simpa using c45))
                clear c45
                replace H := Option.bind_eq_some_iff.mp H
                obtain ⟨t155, A460, H⟩ := H
                (try dsimp only at H)
                have A46 := Aside0.mk A460
                clear A460
                by_cases c47 : t155 = true
                · subst c47
                  rw [if_pos rfl] at H
                  exact absurd ((Option.some.inj H).trans HT.out) (by decide)
                · replace c47 := Bool.eq_false_iff.mpr c47
                  subst c47
                  rw [if_neg (show ¬ (false = true) by decide)] at H
                  replace H := Option.bind_eq_some_iff.mp H
                  obtain ⟨t156, A480, H⟩ := H
                  (try dsimp only at H)
                  have A48 := Aside0.mk A480
                  clear A480
                  obtain rfl := Option.some.inj H
                  have hcz49_0 : wc.cell? ⟨gb147, 0, none⟩ = some (.int .i64 0) := (blk_cell BK147.out 0).trans rfl
                  have hcz49_1 : wc.cell? ⟨gb147, 1, none⟩ = some (.int .i64 0) := (blk_cell BK147.out 1).trans rfl
                  have hcz49_2 : wc.cell? ⟨gb147, 2, none⟩ = some (.int .i64 0) := (blk_cell BK147.out 2).trans rfl
                  have hcz49_3 : wc.cell? ⟨gb147, 3, none⟩ = some (.int .i64 0) := (blk_cell BK147.out 3).trans rfl
                  have hcz49_4 : wc.cell? ⟨gb147, 4, none⟩ = some (.int .i64 0) := (blk_cell BK147.out 4).trans rfl
                  have hcz49_5 : wc.cell? ⟨gb147, 5, none⟩ = some (.int .i64 0) := (blk_cell BK147.out 5).trans rfl
                  have hcz49_6 : wc.cell? ⟨gb147, 6, none⟩ = some (.int .i64 0) := (blk_cell BK147.out 6).trans rfl
                  have hcz49_7 : wc.cell? ⟨gb147, 7, none⟩ = some (.int .i64 0) := (blk_cell BK147.out 7).trans rfl
                  have hcz49_8 : wc.cell? ⟨gb147, 8, none⟩ = some (.bool a2) := (blk_cell BK147.out 8).trans rfl
                  have hcz49_9 : wc.cell? ⟨gb147, 9, none⟩ = some (.bool a3) := (blk_cell BK147.out 9).trans rfl
                  have hfz49_0 := blk_frozen BK147.out 0
                  have hfz49_1 := blk_frozen BK147.out 1
                  have hfz49_2 := blk_frozen BK147.out 2
                  have hfz49_3 := blk_frozen BK147.out 3
                  have hfz49_4 := blk_frozen BK147.out 4
                  have hfz49_5 := blk_frozen BK147.out 5
                  have hfz49_6 := blk_frozen BK147.out 6
                  have hfz49_7 := blk_frozen BK147.out 7
                  have hfz49_8 := blk_frozen BK147.out 8
                  have hfz49_9 := blk_frozen BK147.out 9
                  go_wp2_with (first | ((with_reducible refine gate_callee (f := 13) rfl ?_); refine goesL_ (some 79) rfl rfl Tryd.func13 (by kernel_rfl) rfl #[.int .i64 (wrap64 (Int.tmod a0 30)), .int .u32 (Go.bits .and .u32 a1 1073741823), .agg #[.int .i64 0, .int .i64 0, .int .i64 0, .int .i64 0, .int .i64 0, .int .i64 0, .int .i64 0, .int .i64 0, .bool a2, .bool a3]] rfl (by (try simp only [List.map_toArray, List.map_cons, List.map_nil]); first | done | rfl | (simp only [List.length_drop, List.length_take]; rfl)) ?_; (with_reducible refine (quirks_Needs.calls kj34 (wrap64 (Int.tmod a0 30)) (Go.bits .and .u32 a1 1073741823) 0 0 0 0 0 0 0 0 a2 a3 t154 _ A44.out).mono ?_); rintro e w50 ⟨rfl, hb⟩; refine ⟨_, rfl, ?_⟩; have n0_ := Aside0.mk (blk_below (g := gb147) (o := .cells #[.int .i64 0, .int .i64 0, .int .i64 0, .int .i64 0, .int .i64 0, .int .i64 0, .int .i64 0, .int .i64 0, .bool a2, .bool a3] 25 (0, 0)) (by (with_reducible repeat (first | refine blk_drewN ?_ _ | refine blk_drew ?_ | refine blk_alloc ?_ _)); exact BK147.out) hb); have n1_ := Aside0.mk (below_step (by repeat (first | (with_reducible first | exact HB.out | apply below_alloc | apply pw_below_drewN | apply below_drew1 | refine below_set ?_ GE147.out) | exact HB.out)) hb); clear BK147; clear HB; have BK147 := n0_; have HB := n1_; clear n0_ n1_; (try clear hb); (try clear hb2); (try clear hk); (try clear hi); have hcz51_0 : w50.cell? ⟨gb147, 0, none⟩ = some (.int .i64 0) := (blk_cell BK147.out 0).trans rfl; have hcz51_1 : w50.cell? ⟨gb147, 1, none⟩ = some (.int .i64 0) := (blk_cell BK147.out 1).trans rfl; have hcz51_2 : w50.cell? ⟨gb147, 2, none⟩ = some (.int .i64 0) := (blk_cell BK147.out 2).trans rfl; have hcz51_3 : w50.cell? ⟨gb147, 3, none⟩ = some (.int .i64 0) := (blk_cell BK147.out 3).trans rfl; have hcz51_4 : w50.cell? ⟨gb147, 4, none⟩ = some (.int .i64 0) := (blk_cell BK147.out 4).trans rfl; have hcz51_5 : w50.cell? ⟨gb147, 5, none⟩ = some (.int .i64 0) := (blk_cell BK147.out 5).trans rfl; have hcz51_6 : w50.cell? ⟨gb147, 6, none⟩ = some (.int .i64 0) := (blk_cell BK147.out 6).trans rfl; have hcz51_7 : w50.cell? ⟨gb147, 7, none⟩ = some (.int .i64 0) := (blk_cell BK147.out 7).trans rfl; have hcz51_8 : w50.cell? ⟨gb147, 8, none⟩ = some (.bool a2) := (blk_cell BK147.out 8).trans rfl; have hcz51_9 : w50.cell? ⟨gb147, 9, none⟩ = some (.bool a3) := (blk_cell BK147.out 9).trans rfl; have hfz51_0 := blk_frozen BK147.out 0; have hfz51_1 := blk_frozen BK147.out 1; have hfz51_2 := blk_frozen BK147.out 2; have hfz51_3 := blk_frozen BK147.out 3; have hfz51_4 := blk_frozen BK147.out 4; have hfz51_5 := blk_frozen BK147.out 5; have hfz51_6 := blk_frozen BK147.out 6; have hfz51_7 := blk_frozen BK147.out 7; have hfz51_8 := blk_frozen BK147.out 8; have hfz51_9 := blk_frozen BK147.out 9) | (go_at_call 13; (with_reducible refine (quirks_Needs.calls kj34 (-1) (Go.bits .and .u32 a1 1073741823) 0 0 0 0 0 0 0 0 a2 a3 false _ A46.out).mono ?_); rintro e w52 ⟨rfl, hb⟩; have n0_ := Aside0.mk (blk_below (g := gb147) (o := .cells #[.int .i64 0, .int .i64 0, .int .i64 0, .int .i64 0, .int .i64 0, .int .i64 0, .int .i64 0, .int .i64 0, .bool a2, .bool a3] 25 (0, 0)) (by (with_reducible repeat (first | refine blk_drewN ?_ _ | refine blk_drew ?_ | refine blk_alloc ?_ _)); exact BK147.out) hb); have n1_ := Aside0.mk (below_step (by repeat (first | (with_reducible first | exact HB.out | apply below_alloc | apply pw_below_drewN | apply below_drew1 | refine below_set ?_ GE147.out) | exact HB.out)) hb); clear BK147; clear HB; have BK147 := n0_; have HB := n1_; clear n0_ n1_; (try clear hb); (try clear hb2); (try clear hk); (try clear hi); have hcz53_0 : w52.cell? ⟨gb147, 0, none⟩ = some (.int .i64 0) := (blk_cell BK147.out 0).trans rfl; have hcz53_1 : w52.cell? ⟨gb147, 1, none⟩ = some (.int .i64 0) := (blk_cell BK147.out 1).trans rfl; have hcz53_2 : w52.cell? ⟨gb147, 2, none⟩ = some (.int .i64 0) := (blk_cell BK147.out 2).trans rfl; have hcz53_3 : w52.cell? ⟨gb147, 3, none⟩ = some (.int .i64 0) := (blk_cell BK147.out 3).trans rfl; have hcz53_4 : w52.cell? ⟨gb147, 4, none⟩ = some (.int .i64 0) := (blk_cell BK147.out 4).trans rfl; have hcz53_5 : w52.cell? ⟨gb147, 5, none⟩ = some (.int .i64 0) := (blk_cell BK147.out 5).trans rfl; have hcz53_6 : w52.cell? ⟨gb147, 6, none⟩ = some (.int .i64 0) := (blk_cell BK147.out 6).trans rfl; have hcz53_7 : w52.cell? ⟨gb147, 7, none⟩ = some (.int .i64 0) := (blk_cell BK147.out 7).trans rfl; have hcz53_8 : w52.cell? ⟨gb147, 8, none⟩ = some (.bool a2) := (blk_cell BK147.out 8).trans rfl; have hcz53_9 : w52.cell? ⟨gb147, 9, none⟩ = some (.bool a3) := (blk_cell BK147.out 9).trans rfl; have hfz53_0 := blk_frozen BK147.out 0; have hfz53_1 := blk_frozen BK147.out 1; have hfz53_2 := blk_frozen BK147.out 2; have hfz53_3 := blk_frozen BK147.out 3; have hfz53_4 := blk_frozen BK147.out 4; have hfz53_5 := blk_frozen BK147.out 5; have hfz53_6 := blk_frozen BK147.out 6; have hfz53_7 := blk_frozen BK147.out 7; have hfz53_8 := blk_frozen BK147.out 8; have hfz53_9 := blk_frozen BK147.out 9) | (go_at_call 13; (with_reducible refine (quirks_Needs.calls kj34 30 (Go.bits .and .u32 a1 1073741823) 0 0 0 0 0 0 0 0 a2 a3 t156 _ A48.out).mono ?_); rintro e w54 ⟨rfl, hb⟩; have n0_ := Aside0.mk (blk_below (g := gb147) (o := .cells #[.int .i64 0, .int .i64 0, .int .i64 0, .int .i64 0, .int .i64 0, .int .i64 0, .int .i64 0, .int .i64 0, .bool a2, .bool a3] 25 (0, 0)) (by (with_reducible repeat (first | refine blk_drewN ?_ _ | refine blk_drew ?_ | refine blk_alloc ?_ _)); exact BK147.out) hb); have n1_ := Aside0.mk (below_step (by repeat (first | (with_reducible first | exact HB.out | apply below_alloc | apply pw_below_drewN | apply below_drew1 | refine below_set ?_ GE147.out) | exact HB.out)) hb); clear BK147; clear HB; have BK147 := n0_; have HB := n1_; clear n0_ n1_; (try clear hb); (try clear hb2); (try clear hk); (try clear hi)) | (go_at_call 13; (with_reducible refine (quirks_Needs.calls kj34 (wrap64 (Int.tmod a0 30)) (Go.bits .and .u32 a1 1073741823) 0 0 0 0 0 0 0 0 a2 a3 t154 _ A44.out).mono ?_); rintro e w50 ⟨rfl, hb⟩; have n0_ := Aside0.mk (blk_below (g := gb147) (o := .cells #[.int .i64 0, .int .i64 0, .int .i64 0, .int .i64 0, .int .i64 0, .int .i64 0, .int .i64 0, .int .i64 0, .bool a2, .bool a3] 25 (0, 0)) (by (with_reducible repeat (first | refine blk_drewN ?_ _ | refine blk_drew ?_ | refine blk_alloc ?_ _)); exact BK147.out) hb); have n1_ := Aside0.mk (below_step (by repeat (first | (with_reducible first | exact HB.out | apply below_alloc | apply pw_below_drewN | apply below_drew1 | refine below_set ?_ GE147.out) | exact HB.out)) hb); clear BK147; clear HB; have BK147 := n0_; have HB := n1_; clear n0_ n1_; (try clear hb); (try clear hb2); (try clear hk); (try clear hi); have hcz51_0 : w50.cell? ⟨gb147, 0, none⟩ = some (.int .i64 0) := (blk_cell BK147.out 0).trans rfl; have hcz51_1 : w50.cell? ⟨gb147, 1, none⟩ = some (.int .i64 0) := (blk_cell BK147.out 1).trans rfl; have hcz51_2 : w50.cell? ⟨gb147, 2, none⟩ = some (.int .i64 0) := (blk_cell BK147.out 2).trans rfl; have hcz51_3 : w50.cell? ⟨gb147, 3, none⟩ = some (.int .i64 0) := (blk_cell BK147.out 3).trans rfl; have hcz51_4 : w50.cell? ⟨gb147, 4, none⟩ = some (.int .i64 0) := (blk_cell BK147.out 4).trans rfl; have hcz51_5 : w50.cell? ⟨gb147, 5, none⟩ = some (.int .i64 0) := (blk_cell BK147.out 5).trans rfl; have hcz51_6 : w50.cell? ⟨gb147, 6, none⟩ = some (.int .i64 0) := (blk_cell BK147.out 6).trans rfl; have hcz51_7 : w50.cell? ⟨gb147, 7, none⟩ = some (.int .i64 0) := (blk_cell BK147.out 7).trans rfl; have hcz51_8 : w50.cell? ⟨gb147, 8, none⟩ = some (.bool a2) := (blk_cell BK147.out 8).trans rfl; have hcz51_9 : w50.cell? ⟨gb147, 9, none⟩ = some (.bool a3) := (blk_cell BK147.out 9).trans rfl; have hfz51_0 := blk_frozen BK147.out 0; have hfz51_1 := blk_frozen BK147.out 1; have hfz51_2 := blk_frozen BK147.out 2; have hfz51_3 := blk_frozen BK147.out 3; have hfz51_4 := blk_frozen BK147.out 4; have hfz51_5 := blk_frozen BK147.out 5; have hfz51_6 := blk_frozen BK147.out 6; have hfz51_7 := blk_frozen BK147.out 7; have hfz51_8 := blk_frozen BK147.out 8; have hfz51_9 := blk_frozen BK147.out 9))
                  (try any_goals (exfalso; have h_ := ‹some undef = some (Value.bool _)›; revert h_; simp [undef]; done))
                  go_ret
                  exact ⟨by first | rfl | (simp [errW_none, errW_some] <;> rfl) | (simp [*, errW_none, errW_some] <;> rfl), by repeat (first | (with_reducible first | exact HB.out | apply below_alloc | apply pw_below_drewN | apply below_drew1 | refine below_set ?_ GE147.out) | exact HB.out)⟩
              · rw [if_neg c45] at H
                have c45b0 : (t154 == a2) = false := by simpa using c45
                (try (have c45b1 : decide (t154 = a2) = false := by simpa using c45))
                (try (have c45b2 : (t154 == a2) = false := by simpa using c45))
                (try (have c45b3 : ¬ (t154 = a2) := by simpa using c45))
                clear c45
                exact absurd ((Option.some.inj H).trans HT.out) (by decide)
            · replace c43 := Bool.eq_false_iff.mpr c43
              subst c43
              rw [if_neg (show ¬ (false = true) by decide)] at H
              by_cases c55 : (wrap64 (Int.tmod a0 30)) = 20
              · rw [if_pos c55] at H
                have c55b0 : ((wrap64 (Int.tmod a0 30)) == 20) = true := beq_iff_eq.mpr c55
                have c55b1 : ((wrap64 (Int.tmod a0 30)) != 20) = false := bne_eq_false_iff_eq.mpr c55
                clear c55
                by_cases c56 : a3 = true
                · subst c56
                  rw [if_pos rfl] at H
                  by_cases c57 : a2 = true
                  · subst c57
                    rw [if_pos rfl] at H
                    replace H := Option.bind_eq_some_iff.mp H
                    obtain ⟨t157, A580, H⟩ := H
                    (try dsimp only at H)
                    have A58 := Aside0.mk A580
                    clear A580
                    by_cases c59 : t157 = true
                    · skip
                      subst c59
                      rw [if_pos (show (true == true) = true by rfl)] at H
                      replace H := Option.bind_eq_some_iff.mp H
                      obtain ⟨t158, A600, H⟩ := H
                      (try dsimp only at H)
                      have A60 := Aside0.mk A600
                      clear A600
                      by_cases c61 : t158 = true
                      · subst c61
                        rw [if_pos rfl] at H
                        exact absurd ((Option.some.inj H).trans HT.out) (by decide)
                      · replace c61 := Bool.eq_false_iff.mpr c61
                        subst c61
                        rw [if_neg (show ¬ (false = true) by decide)] at H
                        replace H := Option.bind_eq_some_iff.mp H
                        obtain ⟨t159, A620, H⟩ := H
                        (try dsimp only at H)
                        have A62 := Aside0.mk A620
                        clear A620
                        obtain rfl := Option.some.inj H
                        have hcz63_0 : wc.cell? ⟨gb147, 0, none⟩ = some (.int .i64 0) := (blk_cell BK147.out 0).trans rfl
                        have hcz63_1 : wc.cell? ⟨gb147, 1, none⟩ = some (.int .i64 0) := (blk_cell BK147.out 1).trans rfl
                        have hcz63_2 : wc.cell? ⟨gb147, 2, none⟩ = some (.int .i64 0) := (blk_cell BK147.out 2).trans rfl
                        have hcz63_3 : wc.cell? ⟨gb147, 3, none⟩ = some (.int .i64 0) := (blk_cell BK147.out 3).trans rfl
                        have hcz63_4 : wc.cell? ⟨gb147, 4, none⟩ = some (.int .i64 0) := (blk_cell BK147.out 4).trans rfl
                        have hcz63_5 : wc.cell? ⟨gb147, 5, none⟩ = some (.int .i64 0) := (blk_cell BK147.out 5).trans rfl
                        have hcz63_6 : wc.cell? ⟨gb147, 6, none⟩ = some (.int .i64 0) := (blk_cell BK147.out 6).trans rfl
                        have hcz63_7 : wc.cell? ⟨gb147, 7, none⟩ = some (.int .i64 0) := (blk_cell BK147.out 7).trans rfl
                        have hcz63_8 : wc.cell? ⟨gb147, 8, none⟩ = some (.bool true) := (blk_cell BK147.out 8).trans rfl
                        have hcz63_9 : wc.cell? ⟨gb147, 9, none⟩ = some (.bool true) := (blk_cell BK147.out 9).trans rfl
                        have hfz63_0 := blk_frozen BK147.out 0
                        have hfz63_1 := blk_frozen BK147.out 1
                        have hfz63_2 := blk_frozen BK147.out 2
                        have hfz63_3 := blk_frozen BK147.out 3
                        have hfz63_4 := blk_frozen BK147.out 4
                        have hfz63_5 := blk_frozen BK147.out 5
                        have hfz63_6 := blk_frozen BK147.out 6
                        have hfz63_7 := blk_frozen BK147.out 7
                        have hfz63_8 := blk_frozen BK147.out 8
                        have hfz63_9 := blk_frozen BK147.out 9
                        go_wp2_with (first | ((with_reducible refine gate_callee (f := 13) rfl ?_); refine goesL_ (some 79) rfl rfl Tryd.func13 (by kernel_rfl) rfl #[.int .i64 (wrap64 (Int.tmod a0 30)), .int .u32 (Go.bits .and .u32 a1 1073741823), .agg #[.int .i64 0, .int .i64 0, .int .i64 0, .int .i64 0, .int .i64 0, .int .i64 0, .int .i64 0, .int .i64 0, .bool true, .bool true]] rfl (by (try simp only [List.map_toArray, List.map_cons, List.map_nil]); first | done | rfl | (simp only [List.length_drop, List.length_take]; rfl)) ?_; (with_reducible refine (quirks_Needs.calls kj34 (wrap64 (Int.tmod a0 30)) (Go.bits .and .u32 a1 1073741823) 0 0 0 0 0 0 0 0 true true true _ A58.out).mono ?_); rintro e w64 ⟨rfl, hb⟩; refine ⟨_, rfl, ?_⟩; have n0_ := Aside0.mk (blk_below (g := gb147) (o := .cells #[.int .i64 0, .int .i64 0, .int .i64 0, .int .i64 0, .int .i64 0, .int .i64 0, .int .i64 0, .int .i64 0, .bool true, .bool true] 25 (0, 0)) (by (with_reducible repeat (first | refine blk_drewN ?_ _ | refine blk_drew ?_ | refine blk_alloc ?_ _)); exact BK147.out) hb); have n1_ := Aside0.mk (below_step (by repeat (first | (with_reducible first | exact HB.out | apply below_alloc | apply pw_below_drewN | apply below_drew1 | refine below_set ?_ GE147.out) | exact HB.out)) hb); clear BK147; clear HB; have BK147 := n0_; have HB := n1_; clear n0_ n1_; (try clear hb); (try clear hb2); (try clear hk); (try clear hi); have hcz65_0 : w64.cell? ⟨gb147, 0, none⟩ = some (.int .i64 0) := (blk_cell BK147.out 0).trans rfl; have hcz65_1 : w64.cell? ⟨gb147, 1, none⟩ = some (.int .i64 0) := (blk_cell BK147.out 1).trans rfl; have hcz65_2 : w64.cell? ⟨gb147, 2, none⟩ = some (.int .i64 0) := (blk_cell BK147.out 2).trans rfl; have hcz65_3 : w64.cell? ⟨gb147, 3, none⟩ = some (.int .i64 0) := (blk_cell BK147.out 3).trans rfl; have hcz65_4 : w64.cell? ⟨gb147, 4, none⟩ = some (.int .i64 0) := (blk_cell BK147.out 4).trans rfl; have hcz65_5 : w64.cell? ⟨gb147, 5, none⟩ = some (.int .i64 0) := (blk_cell BK147.out 5).trans rfl; have hcz65_6 : w64.cell? ⟨gb147, 6, none⟩ = some (.int .i64 0) := (blk_cell BK147.out 6).trans rfl; have hcz65_7 : w64.cell? ⟨gb147, 7, none⟩ = some (.int .i64 0) := (blk_cell BK147.out 7).trans rfl; have hcz65_8 : w64.cell? ⟨gb147, 8, none⟩ = some (.bool true) := (blk_cell BK147.out 8).trans rfl; have hcz65_9 : w64.cell? ⟨gb147, 9, none⟩ = some (.bool true) := (blk_cell BK147.out 9).trans rfl; have hfz65_0 := blk_frozen BK147.out 0; have hfz65_1 := blk_frozen BK147.out 1; have hfz65_2 := blk_frozen BK147.out 2; have hfz65_3 := blk_frozen BK147.out 3; have hfz65_4 := blk_frozen BK147.out 4; have hfz65_5 := blk_frozen BK147.out 5; have hfz65_6 := blk_frozen BK147.out 6; have hfz65_7 := blk_frozen BK147.out 7; have hfz65_8 := blk_frozen BK147.out 8; have hfz65_9 := blk_frozen BK147.out 9) | (go_at_call 13; (with_reducible refine (quirks_Needs.calls kj34 (-1) (Go.bits .and .u32 a1 1073741823) 0 0 0 0 0 0 0 0 true true false _ A60.out).mono ?_); rintro e w66 ⟨rfl, hb⟩; have n0_ := Aside0.mk (blk_below (g := gb147) (o := .cells #[.int .i64 0, .int .i64 0, .int .i64 0, .int .i64 0, .int .i64 0, .int .i64 0, .int .i64 0, .int .i64 0, .bool true, .bool true] 25 (0, 0)) (by (with_reducible repeat (first | refine blk_drewN ?_ _ | refine blk_drew ?_ | refine blk_alloc ?_ _)); exact BK147.out) hb); have n1_ := Aside0.mk (below_step (by repeat (first | (with_reducible first | exact HB.out | apply below_alloc | apply pw_below_drewN | apply below_drew1 | refine below_set ?_ GE147.out) | exact HB.out)) hb); clear BK147; clear HB; have BK147 := n0_; have HB := n1_; clear n0_ n1_; (try clear hb); (try clear hb2); (try clear hk); (try clear hi); have hcz67_0 : w66.cell? ⟨gb147, 0, none⟩ = some (.int .i64 0) := (blk_cell BK147.out 0).trans rfl; have hcz67_1 : w66.cell? ⟨gb147, 1, none⟩ = some (.int .i64 0) := (blk_cell BK147.out 1).trans rfl; have hcz67_2 : w66.cell? ⟨gb147, 2, none⟩ = some (.int .i64 0) := (blk_cell BK147.out 2).trans rfl; have hcz67_3 : w66.cell? ⟨gb147, 3, none⟩ = some (.int .i64 0) := (blk_cell BK147.out 3).trans rfl; have hcz67_4 : w66.cell? ⟨gb147, 4, none⟩ = some (.int .i64 0) := (blk_cell BK147.out 4).trans rfl; have hcz67_5 : w66.cell? ⟨gb147, 5, none⟩ = some (.int .i64 0) := (blk_cell BK147.out 5).trans rfl; have hcz67_6 : w66.cell? ⟨gb147, 6, none⟩ = some (.int .i64 0) := (blk_cell BK147.out 6).trans rfl; have hcz67_7 : w66.cell? ⟨gb147, 7, none⟩ = some (.int .i64 0) := (blk_cell BK147.out 7).trans rfl; have hcz67_8 : w66.cell? ⟨gb147, 8, none⟩ = some (.bool true) := (blk_cell BK147.out 8).trans rfl; have hcz67_9 : w66.cell? ⟨gb147, 9, none⟩ = some (.bool true) := (blk_cell BK147.out 9).trans rfl; have hfz67_0 := blk_frozen BK147.out 0; have hfz67_1 := blk_frozen BK147.out 1; have hfz67_2 := blk_frozen BK147.out 2; have hfz67_3 := blk_frozen BK147.out 3; have hfz67_4 := blk_frozen BK147.out 4; have hfz67_5 := blk_frozen BK147.out 5; have hfz67_6 := blk_frozen BK147.out 6; have hfz67_7 := blk_frozen BK147.out 7; have hfz67_8 := blk_frozen BK147.out 8; have hfz67_9 := blk_frozen BK147.out 9) | (go_at_call 13; (with_reducible refine (quirks_Needs.calls kj34 30 (Go.bits .and .u32 a1 1073741823) 0 0 0 0 0 0 0 0 true true t159 _ A62.out).mono ?_); rintro e w68 ⟨rfl, hb⟩; have n0_ := Aside0.mk (blk_below (g := gb147) (o := .cells #[.int .i64 0, .int .i64 0, .int .i64 0, .int .i64 0, .int .i64 0, .int .i64 0, .int .i64 0, .int .i64 0, .bool true, .bool true] 25 (0, 0)) (by (with_reducible repeat (first | refine blk_drewN ?_ _ | refine blk_drew ?_ | refine blk_alloc ?_ _)); exact BK147.out) hb); have n1_ := Aside0.mk (below_step (by repeat (first | (with_reducible first | exact HB.out | apply below_alloc | apply pw_below_drewN | apply below_drew1 | refine below_set ?_ GE147.out) | exact HB.out)) hb); clear BK147; clear HB; have BK147 := n0_; have HB := n1_; clear n0_ n1_; (try clear hb); (try clear hb2); (try clear hk); (try clear hi)) | (go_at_call 13; (with_reducible refine (quirks_Needs.calls kj34 (wrap64 (Int.tmod a0 30)) (Go.bits .and .u32 a1 1073741823) 0 0 0 0 0 0 0 0 true true true _ A58.out).mono ?_); rintro e w64 ⟨rfl, hb⟩; have n0_ := Aside0.mk (blk_below (g := gb147) (o := .cells #[.int .i64 0, .int .i64 0, .int .i64 0, .int .i64 0, .int .i64 0, .int .i64 0, .int .i64 0, .int .i64 0, .bool true, .bool true] 25 (0, 0)) (by (with_reducible repeat (first | refine blk_drewN ?_ _ | refine blk_drew ?_ | refine blk_alloc ?_ _)); exact BK147.out) hb); have n1_ := Aside0.mk (below_step (by repeat (first | (with_reducible first | exact HB.out | apply below_alloc | apply pw_below_drewN | apply below_drew1 | refine below_set ?_ GE147.out) | exact HB.out)) hb); clear BK147; clear HB; have BK147 := n0_; have HB := n1_; clear n0_ n1_; (try clear hb); (try clear hb2); (try clear hk); (try clear hi); have hcz65_0 : w64.cell? ⟨gb147, 0, none⟩ = some (.int .i64 0) := (blk_cell BK147.out 0).trans rfl; have hcz65_1 : w64.cell? ⟨gb147, 1, none⟩ = some (.int .i64 0) := (blk_cell BK147.out 1).trans rfl; have hcz65_2 : w64.cell? ⟨gb147, 2, none⟩ = some (.int .i64 0) := (blk_cell BK147.out 2).trans rfl; have hcz65_3 : w64.cell? ⟨gb147, 3, none⟩ = some (.int .i64 0) := (blk_cell BK147.out 3).trans rfl; have hcz65_4 : w64.cell? ⟨gb147, 4, none⟩ = some (.int .i64 0) := (blk_cell BK147.out 4).trans rfl; have hcz65_5 : w64.cell? ⟨gb147, 5, none⟩ = some (.int .i64 0) := (blk_cell BK147.out 5).trans rfl; have hcz65_6 : w64.cell? ⟨gb147, 6, none⟩ = some (.int .i64 0) := (blk_cell BK147.out 6).trans rfl; have hcz65_7 : w64.cell? ⟨gb147, 7, none⟩ = some (.int .i64 0) := (blk_cell BK147.out 7).trans rfl; have hcz65_8 : w64.cell? ⟨gb147, 8, none⟩ = some (.bool true) := (blk_cell BK147.out 8).trans rfl; have hcz65_9 : w64.cell? ⟨gb147, 9, none⟩ = some (.bool true) := (blk_cell BK147.out 9).trans rfl; have hfz65_0 := blk_frozen BK147.out 0; have hfz65_1 := blk_frozen BK147.out 1; have hfz65_2 := blk_frozen BK147.out 2; have hfz65_3 := blk_frozen BK147.out 3; have hfz65_4 := blk_frozen BK147.out 4; have hfz65_5 := blk_frozen BK147.out 5; have hfz65_6 := blk_frozen BK147.out 6; have hfz65_7 := blk_frozen BK147.out 7; have hfz65_8 := blk_frozen BK147.out 8; have hfz65_9 := blk_frozen BK147.out 9))
                        (try any_goals (exfalso; have h_ := ‹some undef = some (Value.bool _)›; revert h_; simp [undef]; done))
                        go_ret
                        exact ⟨by first | rfl | (simp [errW_none, errW_some] <;> rfl) | (simp [*, errW_none, errW_some] <;> rfl), by repeat (first | (with_reducible first | exact HB.out | apply below_alloc | apply pw_below_drewN | apply below_drew1 | refine below_set ?_ GE147.out) | exact HB.out)⟩
                    · skip
                      replace c59 := Bool.eq_false_iff.mpr c59
                      subst c59
                      rw [if_neg (show ¬ ((false == true) = true) by decide)] at H
                      exact absurd ((Option.some.inj H).trans HT.out) (by decide)
                  · replace c57 := Bool.eq_false_iff.mpr c57
                    subst c57
                    rw [if_neg (show ¬ (false = true) by decide)] at H
                    by_cases c69 : (Go.bits .and .u32 ((Go.bits .and .u32 a1 1073741823) / 524288) 1) = 1
                    · rw [if_pos c69] at H
                      have c69b0 : ((Go.bits .and .u32 ((Go.bits .and .u32 a1 1073741823) / 524288) 1) == 1) = true := beq_iff_eq.mpr c69
                      have c69b1 : ((Go.bits .and .u32 ((Go.bits .and .u32 a1 1073741823) / 524288) 1) != 1) = false := bne_eq_false_iff_eq.mpr c69
                      clear c69
                      replace H := Option.bind_eq_some_iff.mp H
                      obtain ⟨t160, A700, H⟩ := H
                      (try dsimp only at H)
                      have A70 := Aside0.mk A700
                      clear A700
                      by_cases c71 : t160 = true
                      · skip
                        subst c71
                        rw [if_pos (show (true == true) = true by rfl)] at H
                        replace H := Option.bind_eq_some_iff.mp H
                        obtain ⟨t161, A720, H⟩ := H
                        (try dsimp only at H)
                        have A72 := Aside0.mk A720
                        clear A720
                        by_cases c73 : t161 = true
                        · subst c73
                          rw [if_pos rfl] at H
                          exact absurd ((Option.some.inj H).trans HT.out) (by decide)
                        · replace c73 := Bool.eq_false_iff.mpr c73
                          subst c73
                          rw [if_neg (show ¬ (false = true) by decide)] at H
                          replace H := Option.bind_eq_some_iff.mp H
                          obtain ⟨t162, A740, H⟩ := H
                          (try dsimp only at H)
                          have A74 := Aside0.mk A740
                          clear A740
                          obtain rfl := Option.some.inj H
                          have hcz75_0 : wc.cell? ⟨gb147, 0, none⟩ = some (.int .i64 0) := (blk_cell BK147.out 0).trans rfl
                          have hcz75_1 : wc.cell? ⟨gb147, 1, none⟩ = some (.int .i64 0) := (blk_cell BK147.out 1).trans rfl
                          have hcz75_2 : wc.cell? ⟨gb147, 2, none⟩ = some (.int .i64 0) := (blk_cell BK147.out 2).trans rfl
                          have hcz75_3 : wc.cell? ⟨gb147, 3, none⟩ = some (.int .i64 0) := (blk_cell BK147.out 3).trans rfl
                          have hcz75_4 : wc.cell? ⟨gb147, 4, none⟩ = some (.int .i64 0) := (blk_cell BK147.out 4).trans rfl
                          have hcz75_5 : wc.cell? ⟨gb147, 5, none⟩ = some (.int .i64 0) := (blk_cell BK147.out 5).trans rfl
                          have hcz75_6 : wc.cell? ⟨gb147, 6, none⟩ = some (.int .i64 0) := (blk_cell BK147.out 6).trans rfl
                          have hcz75_7 : wc.cell? ⟨gb147, 7, none⟩ = some (.int .i64 0) := (blk_cell BK147.out 7).trans rfl
                          have hcz75_8 : wc.cell? ⟨gb147, 8, none⟩ = some (.bool false) := (blk_cell BK147.out 8).trans rfl
                          have hcz75_9 : wc.cell? ⟨gb147, 9, none⟩ = some (.bool true) := (blk_cell BK147.out 9).trans rfl
                          have hfz75_0 := blk_frozen BK147.out 0
                          have hfz75_1 := blk_frozen BK147.out 1
                          have hfz75_2 := blk_frozen BK147.out 2
                          have hfz75_3 := blk_frozen BK147.out 3
                          have hfz75_4 := blk_frozen BK147.out 4
                          have hfz75_5 := blk_frozen BK147.out 5
                          have hfz75_6 := blk_frozen BK147.out 6
                          have hfz75_7 := blk_frozen BK147.out 7
                          have hfz75_8 := blk_frozen BK147.out 8
                          have hfz75_9 := blk_frozen BK147.out 9
                          go_wp2_with (first | ((with_reducible refine gate_callee (f := 13) rfl ?_); refine goesL_ (some 79) rfl rfl Tryd.func13 (by kernel_rfl) rfl #[.int .i64 (wrap64 (Int.tmod a0 30)), .int .u32 (Go.bits .and .u32 a1 1073741823), .agg #[.int .i64 0, .int .i64 0, .int .i64 0, .int .i64 0, .int .i64 0, .int .i64 0, .int .i64 0, .int .i64 0, .bool false, .bool true]] rfl (by (try simp only [List.map_toArray, List.map_cons, List.map_nil]); first | done | rfl | (simp only [List.length_drop, List.length_take]; rfl)) ?_; (with_reducible refine (quirks_Needs.calls kj34 (wrap64 (Int.tmod a0 30)) (Go.bits .and .u32 a1 1073741823) 0 0 0 0 0 0 0 0 false true true _ A70.out).mono ?_); rintro e w76 ⟨rfl, hb⟩; refine ⟨_, rfl, ?_⟩; have n0_ := Aside0.mk (blk_below (g := gb147) (o := .cells #[.int .i64 0, .int .i64 0, .int .i64 0, .int .i64 0, .int .i64 0, .int .i64 0, .int .i64 0, .int .i64 0, .bool false, .bool true] 25 (0, 0)) (by (with_reducible repeat (first | refine blk_drewN ?_ _ | refine blk_drew ?_ | refine blk_alloc ?_ _)); exact BK147.out) hb); have n1_ := Aside0.mk (below_step (by repeat (first | (with_reducible first | exact HB.out | apply below_alloc | apply pw_below_drewN | apply below_drew1 | refine below_set ?_ GE147.out) | exact HB.out)) hb); clear BK147; clear HB; have BK147 := n0_; have HB := n1_; clear n0_ n1_; (try clear hb); (try clear hb2); (try clear hk); (try clear hi); have hcz77_0 : w76.cell? ⟨gb147, 0, none⟩ = some (.int .i64 0) := (blk_cell BK147.out 0).trans rfl; have hcz77_1 : w76.cell? ⟨gb147, 1, none⟩ = some (.int .i64 0) := (blk_cell BK147.out 1).trans rfl; have hcz77_2 : w76.cell? ⟨gb147, 2, none⟩ = some (.int .i64 0) := (blk_cell BK147.out 2).trans rfl; have hcz77_3 : w76.cell? ⟨gb147, 3, none⟩ = some (.int .i64 0) := (blk_cell BK147.out 3).trans rfl; have hcz77_4 : w76.cell? ⟨gb147, 4, none⟩ = some (.int .i64 0) := (blk_cell BK147.out 4).trans rfl; have hcz77_5 : w76.cell? ⟨gb147, 5, none⟩ = some (.int .i64 0) := (blk_cell BK147.out 5).trans rfl; have hcz77_6 : w76.cell? ⟨gb147, 6, none⟩ = some (.int .i64 0) := (blk_cell BK147.out 6).trans rfl; have hcz77_7 : w76.cell? ⟨gb147, 7, none⟩ = some (.int .i64 0) := (blk_cell BK147.out 7).trans rfl; have hcz77_8 : w76.cell? ⟨gb147, 8, none⟩ = some (.bool false) := (blk_cell BK147.out 8).trans rfl; have hcz77_9 : w76.cell? ⟨gb147, 9, none⟩ = some (.bool true) := (blk_cell BK147.out 9).trans rfl; have hfz77_0 := blk_frozen BK147.out 0; have hfz77_1 := blk_frozen BK147.out 1; have hfz77_2 := blk_frozen BK147.out 2; have hfz77_3 := blk_frozen BK147.out 3; have hfz77_4 := blk_frozen BK147.out 4; have hfz77_5 := blk_frozen BK147.out 5; have hfz77_6 := blk_frozen BK147.out 6; have hfz77_7 := blk_frozen BK147.out 7; have hfz77_8 := blk_frozen BK147.out 8; have hfz77_9 := blk_frozen BK147.out 9) | (go_at_call 13; (with_reducible refine (quirks_Needs.calls kj34 (-1) (Go.bits .and .u32 a1 1073741823) 0 0 0 0 0 0 0 0 false true false _ A72.out).mono ?_); rintro e w78 ⟨rfl, hb⟩; have n0_ := Aside0.mk (blk_below (g := gb147) (o := .cells #[.int .i64 0, .int .i64 0, .int .i64 0, .int .i64 0, .int .i64 0, .int .i64 0, .int .i64 0, .int .i64 0, .bool false, .bool true] 25 (0, 0)) (by (with_reducible repeat (first | refine blk_drewN ?_ _ | refine blk_drew ?_ | refine blk_alloc ?_ _)); exact BK147.out) hb); have n1_ := Aside0.mk (below_step (by repeat (first | (with_reducible first | exact HB.out | apply below_alloc | apply pw_below_drewN | apply below_drew1 | refine below_set ?_ GE147.out) | exact HB.out)) hb); clear BK147; clear HB; have BK147 := n0_; have HB := n1_; clear n0_ n1_; (try clear hb); (try clear hb2); (try clear hk); (try clear hi); have hcz79_0 : w78.cell? ⟨gb147, 0, none⟩ = some (.int .i64 0) := (blk_cell BK147.out 0).trans rfl; have hcz79_1 : w78.cell? ⟨gb147, 1, none⟩ = some (.int .i64 0) := (blk_cell BK147.out 1).trans rfl; have hcz79_2 : w78.cell? ⟨gb147, 2, none⟩ = some (.int .i64 0) := (blk_cell BK147.out 2).trans rfl; have hcz79_3 : w78.cell? ⟨gb147, 3, none⟩ = some (.int .i64 0) := (blk_cell BK147.out 3).trans rfl; have hcz79_4 : w78.cell? ⟨gb147, 4, none⟩ = some (.int .i64 0) := (blk_cell BK147.out 4).trans rfl; have hcz79_5 : w78.cell? ⟨gb147, 5, none⟩ = some (.int .i64 0) := (blk_cell BK147.out 5).trans rfl; have hcz79_6 : w78.cell? ⟨gb147, 6, none⟩ = some (.int .i64 0) := (blk_cell BK147.out 6).trans rfl; have hcz79_7 : w78.cell? ⟨gb147, 7, none⟩ = some (.int .i64 0) := (blk_cell BK147.out 7).trans rfl; have hcz79_8 : w78.cell? ⟨gb147, 8, none⟩ = some (.bool false) := (blk_cell BK147.out 8).trans rfl; have hcz79_9 : w78.cell? ⟨gb147, 9, none⟩ = some (.bool true) := (blk_cell BK147.out 9).trans rfl; have hfz79_0 := blk_frozen BK147.out 0; have hfz79_1 := blk_frozen BK147.out 1; have hfz79_2 := blk_frozen BK147.out 2; have hfz79_3 := blk_frozen BK147.out 3; have hfz79_4 := blk_frozen BK147.out 4; have hfz79_5 := blk_frozen BK147.out 5; have hfz79_6 := blk_frozen BK147.out 6; have hfz79_7 := blk_frozen BK147.out 7; have hfz79_8 := blk_frozen BK147.out 8; have hfz79_9 := blk_frozen BK147.out 9) | (go_at_call 13; (with_reducible refine (quirks_Needs.calls kj34 30 (Go.bits .and .u32 a1 1073741823) 0 0 0 0 0 0 0 0 false true t162 _ A74.out).mono ?_); rintro e w80 ⟨rfl, hb⟩; have n0_ := Aside0.mk (blk_below (g := gb147) (o := .cells #[.int .i64 0, .int .i64 0, .int .i64 0, .int .i64 0, .int .i64 0, .int .i64 0, .int .i64 0, .int .i64 0, .bool false, .bool true] 25 (0, 0)) (by (with_reducible repeat (first | refine blk_drewN ?_ _ | refine blk_drew ?_ | refine blk_alloc ?_ _)); exact BK147.out) hb); have n1_ := Aside0.mk (below_step (by repeat (first | (with_reducible first | exact HB.out | apply below_alloc | apply pw_below_drewN | apply below_drew1 | refine below_set ?_ GE147.out) | exact HB.out)) hb); clear BK147; clear HB; have BK147 := n0_; have HB := n1_; clear n0_ n1_; (try clear hb); (try clear hb2); (try clear hk); (try clear hi)) | (go_at_call 13; (with_reducible refine (quirks_Needs.calls kj34 (wrap64 (Int.tmod a0 30)) (Go.bits .and .u32 a1 1073741823) 0 0 0 0 0 0 0 0 false true true _ A70.out).mono ?_); rintro e w76 ⟨rfl, hb⟩; have n0_ := Aside0.mk (blk_below (g := gb147) (o := .cells #[.int .i64 0, .int .i64 0, .int .i64 0, .int .i64 0, .int .i64 0, .int .i64 0, .int .i64 0, .int .i64 0, .bool false, .bool true] 25 (0, 0)) (by (with_reducible repeat (first | refine blk_drewN ?_ _ | refine blk_drew ?_ | refine blk_alloc ?_ _)); exact BK147.out) hb); have n1_ := Aside0.mk (below_step (by repeat (first | (with_reducible first | exact HB.out | apply below_alloc | apply pw_below_drewN | apply below_drew1 | refine below_set ?_ GE147.out) | exact HB.out)) hb); clear BK147; clear HB; have BK147 := n0_; have HB := n1_; clear n0_ n1_; (try clear hb); (try clear hb2); (try clear hk); (try clear hi); have hcz77_0 : w76.cell? ⟨gb147, 0, none⟩ = some (.int .i64 0) := (blk_cell BK147.out 0).trans rfl; have hcz77_1 : w76.cell? ⟨gb147, 1, none⟩ = some (.int .i64 0) := (blk_cell BK147.out 1).trans rfl; have hcz77_2 : w76.cell? ⟨gb147, 2, none⟩ = some (.int .i64 0) := (blk_cell BK147.out 2).trans rfl; have hcz77_3 : w76.cell? ⟨gb147, 3, none⟩ = some (.int .i64 0) := (blk_cell BK147.out 3).trans rfl; have hcz77_4 : w76.cell? ⟨gb147, 4, none⟩ = some (.int .i64 0) := (blk_cell BK147.out 4).trans rfl; have hcz77_5 : w76.cell? ⟨gb147, 5, none⟩ = some (.int .i64 0) := (blk_cell BK147.out 5).trans rfl; have hcz77_6 : w76.cell? ⟨gb147, 6, none⟩ = some (.int .i64 0) := (blk_cell BK147.out 6).trans rfl; have hcz77_7 : w76.cell? ⟨gb147, 7, none⟩ = some (.int .i64 0) := (blk_cell BK147.out 7).trans rfl; have hcz77_8 : w76.cell? ⟨gb147, 8, none⟩ = some (.bool false) := (blk_cell BK147.out 8).trans rfl; have hcz77_9 : w76.cell? ⟨gb147, 9, none⟩ = some (.bool true) := (blk_cell BK147.out 9).trans rfl; have hfz77_0 := blk_frozen BK147.out 0; have hfz77_1 := blk_frozen BK147.out 1; have hfz77_2 := blk_frozen BK147.out 2; have hfz77_3 := blk_frozen BK147.out 3; have hfz77_4 := blk_frozen BK147.out 4; have hfz77_5 := blk_frozen BK147.out 5; have hfz77_6 := blk_frozen BK147.out 6; have hfz77_7 := blk_frozen BK147.out 7; have hfz77_8 := blk_frozen BK147.out 8; have hfz77_9 := blk_frozen BK147.out 9))
                          (try any_goals (exfalso; have h_ := ‹some undef = some (Value.bool _)›; revert h_; simp [undef]; done))
                          go_ret
                          exact ⟨by first | rfl | (simp [errW_none, errW_some] <;> rfl) | (simp [*, errW_none, errW_some] <;> rfl), by repeat (first | (with_reducible first | exact HB.out | apply below_alloc | apply pw_below_drewN | apply below_drew1 | refine below_set ?_ GE147.out) | exact HB.out)⟩
                      · skip
                        replace c71 := Bool.eq_false_iff.mpr c71
                        subst c71
                        rw [if_neg (show ¬ ((false == true) = true) by decide)] at H
                        exact absurd ((Option.some.inj H).trans HT.out) (by decide)
                    · rw [if_neg c69] at H
                      have c69b0 : ((Go.bits .and .u32 ((Go.bits .and .u32 a1 1073741823) / 524288) 1) == 1) = false := beq_eq_false_iff_ne.mpr c69
                      have c69b1 : ((Go.bits .and .u32 ((Go.bits .and .u32 a1 1073741823) / 524288) 1) != 1) = true := bne_iff_ne.mpr c69
                      by_cases c81 : (Go.bits .and .u32 ((Go.bits .and .u32 a1 1073741823) / 4194304) 1) = 1
                      · rw [if_pos c81] at H
                        have c81b0 : ((Go.bits .and .u32 ((Go.bits .and .u32 a1 1073741823) / 4194304) 1) == 1) = true := beq_iff_eq.mpr c81
                        have c81b1 : ((Go.bits .and .u32 ((Go.bits .and .u32 a1 1073741823) / 4194304) 1) != 1) = false := bne_eq_false_iff_eq.mpr c81
                        clear c81
                        replace H := Option.bind_eq_some_iff.mp H
                        obtain ⟨t163, A820, H⟩ := H
                        (try dsimp only at H)
                        have A82 := Aside0.mk A820
                        clear A820
                        by_cases c83 : (t163 == ((Go.bits .and .u32 ((Go.bits .and .u32 a1 1073741823) / 2097152) 1) == 0)) = true
                        · rw [if_pos c83] at H
                          have c83b0 : (t163 == ((Go.bits .and .u32 ((Go.bits .and .u32 a1 1073741823) / 2097152) 1) == 0)) = true := c83
                          (try (have c83b1 : decide (t163 = ((Go.bits .and .u32 ((Go.bits .and .u32 a1 1073741823) / 2097152) 1) == 0)) = true := by simpa using c83))
                          (try (have c83b2 : (t163 == ((Go.bits .and .u32 ((Go.bits .and .u32 a1 1073741823) / 2097152) 1) == 0)) = true := by simpa using c83))
                          clear c83
                          replace H := Option.bind_eq_some_iff.mp H
                          obtain ⟨t164, A840, H⟩ := H
                          (try dsimp only at H)
                          have A84 := Aside0.mk A840
                          clear A840
                          by_cases c85 : t164 = true
                          · subst c85
                            rw [if_pos rfl] at H
                            exact absurd ((Option.some.inj H).trans HT.out) (by decide)
                          · replace c85 := Bool.eq_false_iff.mpr c85
                            subst c85
                            rw [if_neg (show ¬ (false = true) by decide)] at H
                            replace H := Option.bind_eq_some_iff.mp H
                            obtain ⟨t165, A860, H⟩ := H
                            (try dsimp only at H)
                            have A86 := Aside0.mk A860
                            clear A860
                            obtain rfl := Option.some.inj H
                            have hcz87_0 : wc.cell? ⟨gb147, 0, none⟩ = some (.int .i64 0) := (blk_cell BK147.out 0).trans rfl
                            have hcz87_1 : wc.cell? ⟨gb147, 1, none⟩ = some (.int .i64 0) := (blk_cell BK147.out 1).trans rfl
                            have hcz87_2 : wc.cell? ⟨gb147, 2, none⟩ = some (.int .i64 0) := (blk_cell BK147.out 2).trans rfl
                            have hcz87_3 : wc.cell? ⟨gb147, 3, none⟩ = some (.int .i64 0) := (blk_cell BK147.out 3).trans rfl
                            have hcz87_4 : wc.cell? ⟨gb147, 4, none⟩ = some (.int .i64 0) := (blk_cell BK147.out 4).trans rfl
                            have hcz87_5 : wc.cell? ⟨gb147, 5, none⟩ = some (.int .i64 0) := (blk_cell BK147.out 5).trans rfl
                            have hcz87_6 : wc.cell? ⟨gb147, 6, none⟩ = some (.int .i64 0) := (blk_cell BK147.out 6).trans rfl
                            have hcz87_7 : wc.cell? ⟨gb147, 7, none⟩ = some (.int .i64 0) := (blk_cell BK147.out 7).trans rfl
                            have hcz87_8 : wc.cell? ⟨gb147, 8, none⟩ = some (.bool false) := (blk_cell BK147.out 8).trans rfl
                            have hcz87_9 : wc.cell? ⟨gb147, 9, none⟩ = some (.bool true) := (blk_cell BK147.out 9).trans rfl
                            have hfz87_0 := blk_frozen BK147.out 0
                            have hfz87_1 := blk_frozen BK147.out 1
                            have hfz87_2 := blk_frozen BK147.out 2
                            have hfz87_3 := blk_frozen BK147.out 3
                            have hfz87_4 := blk_frozen BK147.out 4
                            have hfz87_5 := blk_frozen BK147.out 5
                            have hfz87_6 := blk_frozen BK147.out 6
                            have hfz87_7 := blk_frozen BK147.out 7
                            have hfz87_8 := blk_frozen BK147.out 8
                            have hfz87_9 := blk_frozen BK147.out 9
                            go_wp2_with (first | ((with_reducible refine gate_callee (f := 13) rfl ?_); refine goesL_ (some 79) rfl rfl Tryd.func13 (by kernel_rfl) rfl #[.int .i64 (wrap64 (Int.tmod a0 30)), .int .u32 (Go.bits .and .u32 a1 1073741823), .agg #[.int .i64 0, .int .i64 0, .int .i64 0, .int .i64 0, .int .i64 0, .int .i64 0, .int .i64 0, .int .i64 0, .bool false, .bool true]] rfl (by (try simp only [List.map_toArray, List.map_cons, List.map_nil]); first | done | rfl | (simp only [List.length_drop, List.length_take]; rfl)) ?_; (with_reducible refine (quirks_Needs.calls kj34 (wrap64 (Int.tmod a0 30)) (Go.bits .and .u32 a1 1073741823) 0 0 0 0 0 0 0 0 false true t163 _ A82.out).mono ?_); rintro e w88 ⟨rfl, hb⟩; refine ⟨_, rfl, ?_⟩; have n0_ := Aside0.mk (blk_below (g := gb147) (o := .cells #[.int .i64 0, .int .i64 0, .int .i64 0, .int .i64 0, .int .i64 0, .int .i64 0, .int .i64 0, .int .i64 0, .bool false, .bool true] 25 (0, 0)) (by (with_reducible repeat (first | refine blk_drewN ?_ _ | refine blk_drew ?_ | refine blk_alloc ?_ _)); exact BK147.out) hb); have n1_ := Aside0.mk (below_step (by repeat (first | (with_reducible first | exact HB.out | apply below_alloc | apply pw_below_drewN | apply below_drew1 | refine below_set ?_ GE147.out) | exact HB.out)) hb); clear BK147; clear HB; have BK147 := n0_; have HB := n1_; clear n0_ n1_; (try clear hb); (try clear hb2); (try clear hk); (try clear hi); have hcz89_0 : w88.cell? ⟨gb147, 0, none⟩ = some (.int .i64 0) := (blk_cell BK147.out 0).trans rfl; have hcz89_1 : w88.cell? ⟨gb147, 1, none⟩ = some (.int .i64 0) := (blk_cell BK147.out 1).trans rfl; have hcz89_2 : w88.cell? ⟨gb147, 2, none⟩ = some (.int .i64 0) := (blk_cell BK147.out 2).trans rfl; have hcz89_3 : w88.cell? ⟨gb147, 3, none⟩ = some (.int .i64 0) := (blk_cell BK147.out 3).trans rfl; have hcz89_4 : w88.cell? ⟨gb147, 4, none⟩ = some (.int .i64 0) := (blk_cell BK147.out 4).trans rfl; have hcz89_5 : w88.cell? ⟨gb147, 5, none⟩ = some (.int .i64 0) := (blk_cell BK147.out 5).trans rfl; have hcz89_6 : w88.cell? ⟨gb147, 6, none⟩ = some (.int .i64 0) := (blk_cell BK147.out 6).trans rfl; have hcz89_7 : w88.cell? ⟨gb147, 7, none⟩ = some (.int .i64 0) := (blk_cell BK147.out 7).trans rfl; have hcz89_8 : w88.cell? ⟨gb147, 8, none⟩ = some (.bool false) := (blk_cell BK147.out 8).trans rfl; have hcz89_9 : w88.cell? ⟨gb147, 9, none⟩ = some (.bool true) := (blk_cell BK147.out 9).trans rfl; have hfz89_0 := blk_frozen BK147.out 0; have hfz89_1 := blk_frozen BK147.out 1; have hfz89_2 := blk_frozen BK147.out 2; have hfz89_3 := blk_frozen BK147.out 3; have hfz89_4 := blk_frozen BK147.out 4; have hfz89_5 := blk_frozen BK147.out 5; have hfz89_6 := blk_frozen BK147.out 6; have hfz89_7 := blk_frozen BK147.out 7; have hfz89_8 := blk_frozen BK147.out 8; have hfz89_9 := blk_frozen BK147.out 9) | (go_at_call 13; (with_reducible refine (quirks_Needs.calls kj34 (-1) (Go.bits .and .u32 a1 1073741823) 0 0 0 0 0 0 0 0 false true false _ A84.out).mono ?_); rintro e w90 ⟨rfl, hb⟩; have n0_ := Aside0.mk (blk_below (g := gb147) (o := .cells #[.int .i64 0, .int .i64 0, .int .i64 0, .int .i64 0, .int .i64 0, .int .i64 0, .int .i64 0, .int .i64 0, .bool false, .bool true] 25 (0, 0)) (by (with_reducible repeat (first | refine blk_drewN ?_ _ | refine blk_drew ?_ | refine blk_alloc ?_ _)); exact BK147.out) hb); have n1_ := Aside0.mk (below_step (by repeat (first | (with_reducible first | exact HB.out | apply below_alloc | apply pw_below_drewN | apply below_drew1 | refine below_set ?_ GE147.out) | exact HB.out)) hb); clear BK147; clear HB; have BK147 := n0_; have HB := n1_; clear n0_ n1_; (try clear hb); (try clear hb2); (try clear hk); (try clear hi); have hcz91_0 : w90.cell? ⟨gb147, 0, none⟩ = some (.int .i64 0) := (blk_cell BK147.out 0).trans rfl; have hcz91_1 : w90.cell? ⟨gb147, 1, none⟩ = some (.int .i64 0) := (blk_cell BK147.out 1).trans rfl; have hcz91_2 : w90.cell? ⟨gb147, 2, none⟩ = some (.int .i64 0) := (blk_cell BK147.out 2).trans rfl; have hcz91_3 : w90.cell? ⟨gb147, 3, none⟩ = some (.int .i64 0) := (blk_cell BK147.out 3).trans rfl; have hcz91_4 : w90.cell? ⟨gb147, 4, none⟩ = some (.int .i64 0) := (blk_cell BK147.out 4).trans rfl; have hcz91_5 : w90.cell? ⟨gb147, 5, none⟩ = some (.int .i64 0) := (blk_cell BK147.out 5).trans rfl; have hcz91_6 : w90.cell? ⟨gb147, 6, none⟩ = some (.int .i64 0) := (blk_cell BK147.out 6).trans rfl; have hcz91_7 : w90.cell? ⟨gb147, 7, none⟩ = some (.int .i64 0) := (blk_cell BK147.out 7).trans rfl; have hcz91_8 : w90.cell? ⟨gb147, 8, none⟩ = some (.bool false) := (blk_cell BK147.out 8).trans rfl; have hcz91_9 : w90.cell? ⟨gb147, 9, none⟩ = some (.bool true) := (blk_cell BK147.out 9).trans rfl; have hfz91_0 := blk_frozen BK147.out 0; have hfz91_1 := blk_frozen BK147.out 1; have hfz91_2 := blk_frozen BK147.out 2; have hfz91_3 := blk_frozen BK147.out 3; have hfz91_4 := blk_frozen BK147.out 4; have hfz91_5 := blk_frozen BK147.out 5; have hfz91_6 := blk_frozen BK147.out 6; have hfz91_7 := blk_frozen BK147.out 7; have hfz91_8 := blk_frozen BK147.out 8; have hfz91_9 := blk_frozen BK147.out 9) | (go_at_call 13; (with_reducible refine (quirks_Needs.calls kj34 30 (Go.bits .and .u32 a1 1073741823) 0 0 0 0 0 0 0 0 false true t165 _ A86.out).mono ?_); rintro e w92 ⟨rfl, hb⟩; have n0_ := Aside0.mk (blk_below (g := gb147) (o := .cells #[.int .i64 0, .int .i64 0, .int .i64 0, .int .i64 0, .int .i64 0, .int .i64 0, .int .i64 0, .int .i64 0, .bool false, .bool true] 25 (0, 0)) (by (with_reducible repeat (first | refine blk_drewN ?_ _ | refine blk_drew ?_ | refine blk_alloc ?_ _)); exact BK147.out) hb); have n1_ := Aside0.mk (below_step (by repeat (first | (with_reducible first | exact HB.out | apply below_alloc | apply pw_below_drewN | apply below_drew1 | refine below_set ?_ GE147.out) | exact HB.out)) hb); clear BK147; clear HB; have BK147 := n0_; have HB := n1_; clear n0_ n1_; (try clear hb); (try clear hb2); (try clear hk); (try clear hi)) | (go_at_call 13; (with_reducible refine (quirks_Needs.calls kj34 (wrap64 (Int.tmod a0 30)) (Go.bits .and .u32 a1 1073741823) 0 0 0 0 0 0 0 0 false true t163 _ A82.out).mono ?_); rintro e w88 ⟨rfl, hb⟩; have n0_ := Aside0.mk (blk_below (g := gb147) (o := .cells #[.int .i64 0, .int .i64 0, .int .i64 0, .int .i64 0, .int .i64 0, .int .i64 0, .int .i64 0, .int .i64 0, .bool false, .bool true] 25 (0, 0)) (by (with_reducible repeat (first | refine blk_drewN ?_ _ | refine blk_drew ?_ | refine blk_alloc ?_ _)); exact BK147.out) hb); have n1_ := Aside0.mk (below_step (by repeat (first | (with_reducible first | exact HB.out | apply below_alloc | apply pw_below_drewN | apply below_drew1 | refine below_set ?_ GE147.out) | exact HB.out)) hb); clear BK147; clear HB; have BK147 := n0_; have HB := n1_; clear n0_ n1_; (try clear hb); (try clear hb2); (try clear hk); (try clear hi); have hcz89_0 : w88.cell? ⟨gb147, 0, none⟩ = some (.int .i64 0) := (blk_cell BK147.out 0).trans rfl; have hcz89_1 : w88.cell? ⟨gb147, 1, none⟩ = some (.int .i64 0) := (blk_cell BK147.out 1).trans rfl; have hcz89_2 : w88.cell? ⟨gb147, 2, none⟩ = some (.int .i64 0) := (blk_cell BK147.out 2).trans rfl; have hcz89_3 : w88.cell? ⟨gb147, 3, none⟩ = some (.int .i64 0) := (blk_cell BK147.out 3).trans rfl; have hcz89_4 : w88.cell? ⟨gb147, 4, none⟩ = some (.int .i64 0) := (blk_cell BK147.out 4).trans rfl; have hcz89_5 : w88.cell? ⟨gb147, 5, none⟩ = some (.int .i64 0) := (blk_cell BK147.out 5).trans rfl; have hcz89_6 : w88.cell? ⟨gb147, 6, none⟩ = some (.int .i64 0) := (blk_cell BK147.out 6).trans rfl; have hcz89_7 : w88.cell? ⟨gb147, 7, none⟩ = some (.int .i64 0) := (blk_cell BK147.out 7).trans rfl; have hcz89_8 : w88.cell? ⟨gb147, 8, none⟩ = some (.bool false) := (blk_cell BK147.out 8).trans rfl; have hcz89_9 : w88.cell? ⟨gb147, 9, none⟩ = some (.bool true) := (blk_cell BK147.out 9).trans rfl; have hfz89_0 := blk_frozen BK147.out 0; have hfz89_1 := blk_frozen BK147.out 1; have hfz89_2 := blk_frozen BK147.out 2; have hfz89_3 := blk_frozen BK147.out 3; have hfz89_4 := blk_frozen BK147.out 4; have hfz89_5 := blk_frozen BK147.out 5; have hfz89_6 := blk_frozen BK147.out 6; have hfz89_7 := blk_frozen BK147.out 7; have hfz89_8 := blk_frozen BK147.out 8; have hfz89_9 := blk_frozen BK147.out 9))
                            (try any_goals (exfalso; have h_ := ‹some undef = some (Value.bool _)›; revert h_; simp [undef]; done))
                            go_ret
                            exact ⟨by first | rfl | (simp [errW_none, errW_some] <;> rfl) | (simp [*, errW_none, errW_some] <;> rfl), by repeat (first | (with_reducible first | exact HB.out | apply below_alloc | apply pw_below_drewN | apply below_drew1 | refine below_set ?_ GE147.out) | exact HB.out)⟩
                        · rw [if_neg c83] at H
                          have c83b0 : (t163 == ((Go.bits .and .u32 ((Go.bits .and .u32 a1 1073741823) / 2097152) 1) == 0)) = false := by simpa using c83
                          (try (have c83b1 : decide (t163 = ((Go.bits .and .u32 ((Go.bits .and .u32 a1 1073741823) / 2097152) 1) == 0)) = false := by simpa using c83))
                          (try (have c83b2 : (t163 == ((Go.bits .and .u32 ((Go.bits .and .u32 a1 1073741823) / 2097152) 1) == 0)) = false := by simpa using c83))
                          (try (have c83b3 : ¬ (t163 = ((Go.bits .and .u32 ((Go.bits .and .u32 a1 1073741823) / 2097152) 1) == 0)) := by simpa using c83))
                          clear c83
                          exact absurd ((Option.some.inj H).trans HT.out) (by decide)
                      · rw [if_neg c81] at H
                        have c81b0 : ((Go.bits .and .u32 ((Go.bits .and .u32 a1 1073741823) / 4194304) 1) == 1) = false := beq_eq_false_iff_ne.mpr c81
                        have c81b1 : ((Go.bits .and .u32 ((Go.bits .and .u32 a1 1073741823) / 4194304) 1) != 1) = true := bne_iff_ne.mpr c81
                        replace H := Option.bind_eq_some_iff.mp H
                        obtain ⟨t166, A930, H⟩ := H
                        (try dsimp only at H)
                        have A93 := Aside0.mk A930
                        clear A930
                        by_cases c94 : t166 = true
                        · skip
                          subst c94
                          rw [if_neg (show ¬ ((true == false) = true) by decide)] at H
                          exact absurd ((Option.some.inj H).trans HT.out) (by decide)
                        · skip
                          replace c94 := Bool.eq_false_iff.mpr c94
                          subst c94
                          rw [if_pos (show (false == false) = true by rfl)] at H
                          replace H := Option.bind_eq_some_iff.mp H
                          obtain ⟨t167, A950, H⟩ := H
                          (try dsimp only at H)
                          have A95 := Aside0.mk A950
                          clear A950
                          by_cases c96 : t167 = true
                          · subst c96
                            rw [if_pos rfl] at H
                            exact absurd ((Option.some.inj H).trans HT.out) (by decide)
                          · replace c96 := Bool.eq_false_iff.mpr c96
                            subst c96
                            rw [if_neg (show ¬ (false = true) by decide)] at H
                            replace H := Option.bind_eq_some_iff.mp H
                            obtain ⟨t168, A970, H⟩ := H
                            (try dsimp only at H)
                            have A97 := Aside0.mk A970
                            clear A970
                            obtain rfl := Option.some.inj H
                            have hcz98_0 : wc.cell? ⟨gb147, 0, none⟩ = some (.int .i64 0) := (blk_cell BK147.out 0).trans rfl
                            have hcz98_1 : wc.cell? ⟨gb147, 1, none⟩ = some (.int .i64 0) := (blk_cell BK147.out 1).trans rfl
                            have hcz98_2 : wc.cell? ⟨gb147, 2, none⟩ = some (.int .i64 0) := (blk_cell BK147.out 2).trans rfl
                            have hcz98_3 : wc.cell? ⟨gb147, 3, none⟩ = some (.int .i64 0) := (blk_cell BK147.out 3).trans rfl
                            have hcz98_4 : wc.cell? ⟨gb147, 4, none⟩ = some (.int .i64 0) := (blk_cell BK147.out 4).trans rfl
                            have hcz98_5 : wc.cell? ⟨gb147, 5, none⟩ = some (.int .i64 0) := (blk_cell BK147.out 5).trans rfl
                            have hcz98_6 : wc.cell? ⟨gb147, 6, none⟩ = some (.int .i64 0) := (blk_cell BK147.out 6).trans rfl
                            have hcz98_7 : wc.cell? ⟨gb147, 7, none⟩ = some (.int .i64 0) := (blk_cell BK147.out 7).trans rfl
                            have hcz98_8 : wc.cell? ⟨gb147, 8, none⟩ = some (.bool false) := (blk_cell BK147.out 8).trans rfl
                            have hcz98_9 : wc.cell? ⟨gb147, 9, none⟩ = some (.bool true) := (blk_cell BK147.out 9).trans rfl
                            have hfz98_0 := blk_frozen BK147.out 0
                            have hfz98_1 := blk_frozen BK147.out 1
                            have hfz98_2 := blk_frozen BK147.out 2
                            have hfz98_3 := blk_frozen BK147.out 3
                            have hfz98_4 := blk_frozen BK147.out 4
                            have hfz98_5 := blk_frozen BK147.out 5
                            have hfz98_6 := blk_frozen BK147.out 6
                            have hfz98_7 := blk_frozen BK147.out 7
                            have hfz98_8 := blk_frozen BK147.out 8
                            have hfz98_9 := blk_frozen BK147.out 9
                            go_wp2_with (first | ((with_reducible refine gate_callee (f := 13) rfl ?_); refine goesL_ (some 79) rfl rfl Tryd.func13 (by kernel_rfl) rfl #[.int .i64 (wrap64 (Int.tmod a0 30)), .int .u32 (Go.bits .and .u32 a1 1073741823), .agg #[.int .i64 0, .int .i64 0, .int .i64 0, .int .i64 0, .int .i64 0, .int .i64 0, .int .i64 0, .int .i64 0, .bool false, .bool true]] rfl (by (try simp only [List.map_toArray, List.map_cons, List.map_nil]); first | done | rfl | (simp only [List.length_drop, List.length_take]; rfl)) ?_; (with_reducible refine (quirks_Needs.calls kj34 (wrap64 (Int.tmod a0 30)) (Go.bits .and .u32 a1 1073741823) 0 0 0 0 0 0 0 0 false true false _ A93.out).mono ?_); rintro e w99 ⟨rfl, hb⟩; refine ⟨_, rfl, ?_⟩; have n0_ := Aside0.mk (blk_below (g := gb147) (o := .cells #[.int .i64 0, .int .i64 0, .int .i64 0, .int .i64 0, .int .i64 0, .int .i64 0, .int .i64 0, .int .i64 0, .bool false, .bool true] 25 (0, 0)) (by (with_reducible repeat (first | refine blk_drewN ?_ _ | refine blk_drew ?_ | refine blk_alloc ?_ _)); exact BK147.out) hb); have n1_ := Aside0.mk (below_step (by repeat (first | (with_reducible first | exact HB.out | apply below_alloc | apply pw_below_drewN | apply below_drew1 | refine below_set ?_ GE147.out) | exact HB.out)) hb); clear BK147; clear HB; have BK147 := n0_; have HB := n1_; clear n0_ n1_; (try clear hb); (try clear hb2); (try clear hk); (try clear hi); have hcz100_0 : w99.cell? ⟨gb147, 0, none⟩ = some (.int .i64 0) := (blk_cell BK147.out 0).trans rfl; have hcz100_1 : w99.cell? ⟨gb147, 1, none⟩ = some (.int .i64 0) := (blk_cell BK147.out 1).trans rfl; have hcz100_2 : w99.cell? ⟨gb147, 2, none⟩ = some (.int .i64 0) := (blk_cell BK147.out 2).trans rfl; have hcz100_3 : w99.cell? ⟨gb147, 3, none⟩ = some (.int .i64 0) := (blk_cell BK147.out 3).trans rfl; have hcz100_4 : w99.cell? ⟨gb147, 4, none⟩ = some (.int .i64 0) := (blk_cell BK147.out 4).trans rfl; have hcz100_5 : w99.cell? ⟨gb147, 5, none⟩ = some (.int .i64 0) := (blk_cell BK147.out 5).trans rfl; have hcz100_6 : w99.cell? ⟨gb147, 6, none⟩ = some (.int .i64 0) := (blk_cell BK147.out 6).trans rfl; have hcz100_7 : w99.cell? ⟨gb147, 7, none⟩ = some (.int .i64 0) := (blk_cell BK147.out 7).trans rfl; have hcz100_8 : w99.cell? ⟨gb147, 8, none⟩ = some (.bool false) := (blk_cell BK147.out 8).trans rfl; have hcz100_9 : w99.cell? ⟨gb147, 9, none⟩ = some (.bool true) := (blk_cell BK147.out 9).trans rfl; have hfz100_0 := blk_frozen BK147.out 0; have hfz100_1 := blk_frozen BK147.out 1; have hfz100_2 := blk_frozen BK147.out 2; have hfz100_3 := blk_frozen BK147.out 3; have hfz100_4 := blk_frozen BK147.out 4; have hfz100_5 := blk_frozen BK147.out 5; have hfz100_6 := blk_frozen BK147.out 6; have hfz100_7 := blk_frozen BK147.out 7; have hfz100_8 := blk_frozen BK147.out 8; have hfz100_9 := blk_frozen BK147.out 9) | (go_at_call 13; (with_reducible refine (quirks_Needs.calls kj34 (-1) (Go.bits .and .u32 a1 1073741823) 0 0 0 0 0 0 0 0 false true false _ A95.out).mono ?_); rintro e w101 ⟨rfl, hb⟩; have n0_ := Aside0.mk (blk_below (g := gb147) (o := .cells #[.int .i64 0, .int .i64 0, .int .i64 0, .int .i64 0, .int .i64 0, .int .i64 0, .int .i64 0, .int .i64 0, .bool false, .bool true] 25 (0, 0)) (by (with_reducible repeat (first | refine blk_drewN ?_ _ | refine blk_drew ?_ | refine blk_alloc ?_ _)); exact BK147.out) hb); have n1_ := Aside0.mk (below_step (by repeat (first | (with_reducible first | exact HB.out | apply below_alloc | apply pw_below_drewN | apply below_drew1 | refine below_set ?_ GE147.out) | exact HB.out)) hb); clear BK147; clear HB; have BK147 := n0_; have HB := n1_; clear n0_ n1_; (try clear hb); (try clear hb2); (try clear hk); (try clear hi); have hcz102_0 : w101.cell? ⟨gb147, 0, none⟩ = some (.int .i64 0) := (blk_cell BK147.out 0).trans rfl; have hcz102_1 : w101.cell? ⟨gb147, 1, none⟩ = some (.int .i64 0) := (blk_cell BK147.out 1).trans rfl; have hcz102_2 : w101.cell? ⟨gb147, 2, none⟩ = some (.int .i64 0) := (blk_cell BK147.out 2).trans rfl; have hcz102_3 : w101.cell? ⟨gb147, 3, none⟩ = some (.int .i64 0) := (blk_cell BK147.out 3).trans rfl; have hcz102_4 : w101.cell? ⟨gb147, 4, none⟩ = some (.int .i64 0) := (blk_cell BK147.out 4).trans rfl; have hcz102_5 : w101.cell? ⟨gb147, 5, none⟩ = some (.int .i64 0) := (blk_cell BK147.out 5).trans rfl; have hcz102_6 : w101.cell? ⟨gb147, 6, none⟩ = some (.int .i64 0) := (blk_cell BK147.out 6).trans rfl; have hcz102_7 : w101.cell? ⟨gb147, 7, none⟩ = some (.int .i64 0) := (blk_cell BK147.out 7).trans rfl; have hcz102_8 : w101.cell? ⟨gb147, 8, none⟩ = some (.bool false) := (blk_cell BK147.out 8).trans rfl; have hcz102_9 : w101.cell? ⟨gb147, 9, none⟩ = some (.bool true) := (blk_cell BK147.out 9).trans rfl; have hfz102_0 := blk_frozen BK147.out 0; have hfz102_1 := blk_frozen BK147.out 1; have hfz102_2 := blk_frozen BK147.out 2; have hfz102_3 := blk_frozen BK147.out 3; have hfz102_4 := blk_frozen BK147.out 4; have hfz102_5 := blk_frozen BK147.out 5; have hfz102_6 := blk_frozen BK147.out 6; have hfz102_7 := blk_frozen BK147.out 7; have hfz102_8 := blk_frozen BK147.out 8; have hfz102_9 := blk_frozen BK147.out 9) | (go_at_call 13; (with_reducible refine (quirks_Needs.calls kj34 30 (Go.bits .and .u32 a1 1073741823) 0 0 0 0 0 0 0 0 false true t168 _ A97.out).mono ?_); rintro e w103 ⟨rfl, hb⟩; have n0_ := Aside0.mk (blk_below (g := gb147) (o := .cells #[.int .i64 0, .int .i64 0, .int .i64 0, .int .i64 0, .int .i64 0, .int .i64 0, .int .i64 0, .int .i64 0, .bool false, .bool true] 25 (0, 0)) (by (with_reducible repeat (first | refine blk_drewN ?_ _ | refine blk_drew ?_ | refine blk_alloc ?_ _)); exact BK147.out) hb); have n1_ := Aside0.mk (below_step (by repeat (first | (with_reducible first | exact HB.out | apply below_alloc | apply pw_below_drewN | apply below_drew1 | refine below_set ?_ GE147.out) | exact HB.out)) hb); clear BK147; clear HB; have BK147 := n0_; have HB := n1_; clear n0_ n1_; (try clear hb); (try clear hb2); (try clear hk); (try clear hi)) | (go_at_call 13; (with_reducible refine (quirks_Needs.calls kj34 (wrap64 (Int.tmod a0 30)) (Go.bits .and .u32 a1 1073741823) 0 0 0 0 0 0 0 0 false true false _ A93.out).mono ?_); rintro e w99 ⟨rfl, hb⟩; have n0_ := Aside0.mk (blk_below (g := gb147) (o := .cells #[.int .i64 0, .int .i64 0, .int .i64 0, .int .i64 0, .int .i64 0, .int .i64 0, .int .i64 0, .int .i64 0, .bool false, .bool true] 25 (0, 0)) (by (with_reducible repeat (first | refine blk_drewN ?_ _ | refine blk_drew ?_ | refine blk_alloc ?_ _)); exact BK147.out) hb); have n1_ := Aside0.mk (below_step (by repeat (first | (with_reducible first | exact HB.out | apply below_alloc | apply pw_below_drewN | apply below_drew1 | refine below_set ?_ GE147.out) | exact HB.out)) hb); clear BK147; clear HB; have BK147 := n0_; have HB := n1_; clear n0_ n1_; (try clear hb); (try clear hb2); (try clear hk); (try clear hi); have hcz100_0 : w99.cell? ⟨gb147, 0, none⟩ = some (.int .i64 0) := (blk_cell BK147.out 0).trans rfl; have hcz100_1 : w99.cell? ⟨gb147, 1, none⟩ = some (.int .i64 0) := (blk_cell BK147.out 1).trans rfl; have hcz100_2 : w99.cell? ⟨gb147, 2, none⟩ = some (.int .i64 0) := (blk_cell BK147.out 2).trans rfl; have hcz100_3 : w99.cell? ⟨gb147, 3, none⟩ = some (.int .i64 0) := (blk_cell BK147.out 3).trans rfl; have hcz100_4 : w99.cell? ⟨gb147, 4, none⟩ = some (.int .i64 0) := (blk_cell BK147.out 4).trans rfl; have hcz100_5 : w99.cell? ⟨gb147, 5, none⟩ = some (.int .i64 0) := (blk_cell BK147.out 5).trans rfl; have hcz100_6 : w99.cell? ⟨gb147, 6, none⟩ = some (.int .i64 0) := (blk_cell BK147.out 6).trans rfl; have hcz100_7 : w99.cell? ⟨gb147, 7, none⟩ = some (.int .i64 0) := (blk_cell BK147.out 7).trans rfl; have hcz100_8 : w99.cell? ⟨gb147, 8, none⟩ = some (.bool false) := (blk_cell BK147.out 8).trans rfl; have hcz100_9 : w99.cell? ⟨gb147, 9, none⟩ = some (.bool true) := (blk_cell BK147.out 9).trans rfl; have hfz100_0 := blk_frozen BK147.out 0; have hfz100_1 := blk_frozen BK147.out 1; have hfz100_2 := blk_frozen BK147.out 2; have hfz100_3 := blk_frozen BK147.out 3; have hfz100_4 := blk_frozen BK147.out 4; have hfz100_5 := blk_frozen BK147.out 5; have hfz100_6 := blk_frozen BK147.out 6; have hfz100_7 := blk_frozen BK147.out 7; have hfz100_8 := blk_frozen BK147.out 8; have hfz100_9 := blk_frozen BK147.out 9))
                            (try any_goals (exfalso; have h_ := ‹some undef = some (Value.bool _)›; revert h_; simp [undef]; done))
                            go_ret
                            exact ⟨by first | rfl | (simp [errW_none, errW_some] <;> rfl) | (simp [*, errW_none, errW_some] <;> rfl), by repeat (first | (with_reducible first | exact HB.out | apply below_alloc | apply pw_below_drewN | apply below_drew1 | refine below_set ?_ GE147.out) | exact HB.out)⟩
                · replace c56 := Bool.eq_false_iff.mpr c56
                  subst c56
                  rw [if_neg (show ¬ (false = true) by decide)] at H
                  replace H := Option.bind_eq_some_iff.mp H
                  obtain ⟨t169, A1040, H⟩ := H
                  (try dsimp only at H)
                  have A104 := Aside0.mk A1040
                  clear A1040
                  by_cases c105 : t169 = true
                  · skip
                    subst c105
                    rw [if_neg (show ¬ ((true == false) = true) by decide)] at H
                    exact absurd ((Option.some.inj H).trans HT.out) (by decide)
                  · skip
                    replace c105 := Bool.eq_false_iff.mpr c105
                    subst c105
                    rw [if_pos (show (false == false) = true by rfl)] at H
                    replace H := Option.bind_eq_some_iff.mp H
                    obtain ⟨t170, A1060, H⟩ := H
                    (try dsimp only at H)
                    have A106 := Aside0.mk A1060
                    clear A1060
                    by_cases c107 : t170 = true
                    · subst c107
                      rw [if_pos rfl] at H
                      exact absurd ((Option.some.inj H).trans HT.out) (by decide)
                    · replace c107 := Bool.eq_false_iff.mpr c107
                      subst c107
                      rw [if_neg (show ¬ (false = true) by decide)] at H
                      replace H := Option.bind_eq_some_iff.mp H
                      obtain ⟨t171, A1080, H⟩ := H
                      (try dsimp only at H)
                      have A108 := Aside0.mk A1080
                      clear A1080
                      obtain rfl := Option.some.inj H
                      have hcz109_0 : wc.cell? ⟨gb147, 0, none⟩ = some (.int .i64 0) := (blk_cell BK147.out 0).trans rfl
                      have hcz109_1 : wc.cell? ⟨gb147, 1, none⟩ = some (.int .i64 0) := (blk_cell BK147.out 1).trans rfl
                      have hcz109_2 : wc.cell? ⟨gb147, 2, none⟩ = some (.int .i64 0) := (blk_cell BK147.out 2).trans rfl
                      have hcz109_3 : wc.cell? ⟨gb147, 3, none⟩ = some (.int .i64 0) := (blk_cell BK147.out 3).trans rfl
                      have hcz109_4 : wc.cell? ⟨gb147, 4, none⟩ = some (.int .i64 0) := (blk_cell BK147.out 4).trans rfl
                      have hcz109_5 : wc.cell? ⟨gb147, 5, none⟩ = some (.int .i64 0) := (blk_cell BK147.out 5).trans rfl
                      have hcz109_6 : wc.cell? ⟨gb147, 6, none⟩ = some (.int .i64 0) := (blk_cell BK147.out 6).trans rfl
                      have hcz109_7 : wc.cell? ⟨gb147, 7, none⟩ = some (.int .i64 0) := (blk_cell BK147.out 7).trans rfl
                      have hcz109_8 : wc.cell? ⟨gb147, 8, none⟩ = some (.bool a2) := (blk_cell BK147.out 8).trans rfl
                      have hcz109_9 : wc.cell? ⟨gb147, 9, none⟩ = some (.bool false) := (blk_cell BK147.out 9).trans rfl
                      have hfz109_0 := blk_frozen BK147.out 0
                      have hfz109_1 := blk_frozen BK147.out 1
                      have hfz109_2 := blk_frozen BK147.out 2
                      have hfz109_3 := blk_frozen BK147.out 3
                      have hfz109_4 := blk_frozen BK147.out 4
                      have hfz109_5 := blk_frozen BK147.out 5
                      have hfz109_6 := blk_frozen BK147.out 6
                      have hfz109_7 := blk_frozen BK147.out 7
                      have hfz109_8 := blk_frozen BK147.out 8
                      have hfz109_9 := blk_frozen BK147.out 9
                      go_wp2_with (first | ((with_reducible refine gate_callee (f := 13) rfl ?_); refine goesL_ (some 79) rfl rfl Tryd.func13 (by kernel_rfl) rfl #[.int .i64 (wrap64 (Int.tmod a0 30)), .int .u32 (Go.bits .and .u32 a1 1073741823), .agg #[.int .i64 0, .int .i64 0, .int .i64 0, .int .i64 0, .int .i64 0, .int .i64 0, .int .i64 0, .int .i64 0, .bool a2, .bool false]] rfl (by (try simp only [List.map_toArray, List.map_cons, List.map_nil]); first | done | rfl | (simp only [List.length_drop, List.length_take]; rfl)) ?_; (with_reducible refine (quirks_Needs.calls kj34 (wrap64 (Int.tmod a0 30)) (Go.bits .and .u32 a1 1073741823) 0 0 0 0 0 0 0 0 a2 false false _ A104.out).mono ?_); rintro e w110 ⟨rfl, hb⟩; refine ⟨_, rfl, ?_⟩; have n0_ := Aside0.mk (blk_below (g := gb147) (o := .cells #[.int .i64 0, .int .i64 0, .int .i64 0, .int .i64 0, .int .i64 0, .int .i64 0, .int .i64 0, .int .i64 0, .bool a2, .bool false] 25 (0, 0)) (by (with_reducible repeat (first | refine blk_drewN ?_ _ | refine blk_drew ?_ | refine blk_alloc ?_ _)); exact BK147.out) hb); have n1_ := Aside0.mk (below_step (by repeat (first | (with_reducible first | exact HB.out | apply below_alloc | apply pw_below_drewN | apply below_drew1 | refine below_set ?_ GE147.out) | exact HB.out)) hb); clear BK147; clear HB; have BK147 := n0_; have HB := n1_; clear n0_ n1_; (try clear hb); (try clear hb2); (try clear hk); (try clear hi); have hcz111_0 : w110.cell? ⟨gb147, 0, none⟩ = some (.int .i64 0) := (blk_cell BK147.out 0).trans rfl; have hcz111_1 : w110.cell? ⟨gb147, 1, none⟩ = some (.int .i64 0) := (blk_cell BK147.out 1).trans rfl; have hcz111_2 : w110.cell? ⟨gb147, 2, none⟩ = some (.int .i64 0) := (blk_cell BK147.out 2).trans rfl; have hcz111_3 : w110.cell? ⟨gb147, 3, none⟩ = some (.int .i64 0) := (blk_cell BK147.out 3).trans rfl; have hcz111_4 : w110.cell? ⟨gb147, 4, none⟩ = some (.int .i64 0) := (blk_cell BK147.out 4).trans rfl; have hcz111_5 : w110.cell? ⟨gb147, 5, none⟩ = some (.int .i64 0) := (blk_cell BK147.out 5).trans rfl; have hcz111_6 : w110.cell? ⟨gb147, 6, none⟩ = some (.int .i64 0) := (blk_cell BK147.out 6).trans rfl; have hcz111_7 : w110.cell? ⟨gb147, 7, none⟩ = some (.int .i64 0) := (blk_cell BK147.out 7).trans rfl; have hcz111_8 : w110.cell? ⟨gb147, 8, none⟩ = some (.bool a2) := (blk_cell BK147.out 8).trans rfl; have hcz111_9 : w110.cell? ⟨gb147, 9, none⟩ = some (.bool false) := (blk_cell BK147.out 9).trans rfl; have hfz111_0 := blk_frozen BK147.out 0; have hfz111_1 := blk_frozen BK147.out 1; have hfz111_2 := blk_frozen BK147.out 2; have hfz111_3 := blk_frozen BK147.out 3; have hfz111_4 := blk_frozen BK147.out 4; have hfz111_5 := blk_frozen BK147.out 5; have hfz111_6 := blk_frozen BK147.out 6; have hfz111_7 := blk_frozen BK147.out 7; have hfz111_8 := blk_frozen BK147.out 8; have hfz111_9 := blk_frozen BK147.out 9) | (go_at_call 13; (with_reducible refine (quirks_Needs.calls kj34 (-1) (Go.bits .and .u32 a1 1073741823) 0 0 0 0 0 0 0 0 a2 false false _ A106.out).mono ?_); rintro e w112 ⟨rfl, hb⟩; have n0_ := Aside0.mk (blk_below (g := gb147) (o := .cells #[.int .i64 0, .int .i64 0, .int .i64 0, .int .i64 0, .int .i64 0, .int .i64 0, .int .i64 0, .int .i64 0, .bool a2, .bool false] 25 (0, 0)) (by (with_reducible repeat (first | refine blk_drewN ?_ _ | refine blk_drew ?_ | refine blk_alloc ?_ _)); exact BK147.out) hb); have n1_ := Aside0.mk (below_step (by repeat (first | (with_reducible first | exact HB.out | apply below_alloc | apply pw_below_drewN | apply below_drew1 | refine below_set ?_ GE147.out) | exact HB.out)) hb); clear BK147; clear HB; have BK147 := n0_; have HB := n1_; clear n0_ n1_; (try clear hb); (try clear hb2); (try clear hk); (try clear hi); have hcz113_0 : w112.cell? ⟨gb147, 0, none⟩ = some (.int .i64 0) := (blk_cell BK147.out 0).trans rfl; have hcz113_1 : w112.cell? ⟨gb147, 1, none⟩ = some (.int .i64 0) := (blk_cell BK147.out 1).trans rfl; have hcz113_2 : w112.cell? ⟨gb147, 2, none⟩ = some (.int .i64 0) := (blk_cell BK147.out 2).trans rfl; have hcz113_3 : w112.cell? ⟨gb147, 3, none⟩ = some (.int .i64 0) := (blk_cell BK147.out 3).trans rfl; have hcz113_4 : w112.cell? ⟨gb147, 4, none⟩ = some (.int .i64 0) := (blk_cell BK147.out 4).trans rfl; have hcz113_5 : w112.cell? ⟨gb147, 5, none⟩ = some (.int .i64 0) := (blk_cell BK147.out 5).trans rfl; have hcz113_6 : w112.cell? ⟨gb147, 6, none⟩ = some (.int .i64 0) := (blk_cell BK147.out 6).trans rfl; have hcz113_7 : w112.cell? ⟨gb147, 7, none⟩ = some (.int .i64 0) := (blk_cell BK147.out 7).trans rfl; have hcz113_8 : w112.cell? ⟨gb147, 8, none⟩ = some (.bool a2) := (blk_cell BK147.out 8).trans rfl; have hcz113_9 : w112.cell? ⟨gb147, 9, none⟩ = some (.bool false) := (blk_cell BK147.out 9).trans rfl; have hfz113_0 := blk_frozen BK147.out 0; have hfz113_1 := blk_frozen BK147.out 1; have hfz113_2 := blk_frozen BK147.out 2; have hfz113_3 := blk_frozen BK147.out 3; have hfz113_4 := blk_frozen BK147.out 4; have hfz113_5 := blk_frozen BK147.out 5; have hfz113_6 := blk_frozen BK147.out 6; have hfz113_7 := blk_frozen BK147.out 7; have hfz113_8 := blk_frozen BK147.out 8; have hfz113_9 := blk_frozen BK147.out 9) | (go_at_call 13; (with_reducible refine (quirks_Needs.calls kj34 30 (Go.bits .and .u32 a1 1073741823) 0 0 0 0 0 0 0 0 a2 false t171 _ A108.out).mono ?_); rintro e w114 ⟨rfl, hb⟩; have n0_ := Aside0.mk (blk_below (g := gb147) (o := .cells #[.int .i64 0, .int .i64 0, .int .i64 0, .int .i64 0, .int .i64 0, .int .i64 0, .int .i64 0, .int .i64 0, .bool a2, .bool false] 25 (0, 0)) (by (with_reducible repeat (first | refine blk_drewN ?_ _ | refine blk_drew ?_ | refine blk_alloc ?_ _)); exact BK147.out) hb); have n1_ := Aside0.mk (below_step (by repeat (first | (with_reducible first | exact HB.out | apply below_alloc | apply pw_below_drewN | apply below_drew1 | refine below_set ?_ GE147.out) | exact HB.out)) hb); clear BK147; clear HB; have BK147 := n0_; have HB := n1_; clear n0_ n1_; (try clear hb); (try clear hb2); (try clear hk); (try clear hi)) | (go_at_call 13; (with_reducible refine (quirks_Needs.calls kj34 (wrap64 (Int.tmod a0 30)) (Go.bits .and .u32 a1 1073741823) 0 0 0 0 0 0 0 0 a2 false false _ A104.out).mono ?_); rintro e w110 ⟨rfl, hb⟩; have n0_ := Aside0.mk (blk_below (g := gb147) (o := .cells #[.int .i64 0, .int .i64 0, .int .i64 0, .int .i64 0, .int .i64 0, .int .i64 0, .int .i64 0, .int .i64 0, .bool a2, .bool false] 25 (0, 0)) (by (with_reducible repeat (first | refine blk_drewN ?_ _ | refine blk_drew ?_ | refine blk_alloc ?_ _)); exact BK147.out) hb); have n1_ := Aside0.mk (below_step (by repeat (first | (with_reducible first | exact HB.out | apply below_alloc | apply pw_below_drewN | apply below_drew1 | refine below_set ?_ GE147.out) | exact HB.out)) hb); clear BK147; clear HB; have BK147 := n0_; have HB := n1_; clear n0_ n1_; (try clear hb); (try clear hb2); (try clear hk); (try clear hi); have hcz111_0 : w110.cell? ⟨gb147, 0, none⟩ = some (.int .i64 0) := (blk_cell BK147.out 0).trans rfl; have hcz111_1 : w110.cell? ⟨gb147, 1, none⟩ = some (.int .i64 0) := (blk_cell BK147.out 1).trans rfl; have hcz111_2 : w110.cell? ⟨gb147, 2, none⟩ = some (.int .i64 0) := (blk_cell BK147.out 2).trans rfl; have hcz111_3 : w110.cell? ⟨gb147, 3, none⟩ = some (.int .i64 0) := (blk_cell BK147.out 3).trans rfl; have hcz111_4 : w110.cell? ⟨gb147, 4, none⟩ = some (.int .i64 0) := (blk_cell BK147.out 4).trans rfl; have hcz111_5 : w110.cell? ⟨gb147, 5, none⟩ = some (.int .i64 0) := (blk_cell BK147.out 5).trans rfl; have hcz111_6 : w110.cell? ⟨gb147, 6, none⟩ = some (.int .i64 0) := (blk_cell BK147.out 6).trans rfl; have hcz111_7 : w110.cell? ⟨gb147, 7, none⟩ = some (.int .i64 0) := (blk_cell BK147.out 7).trans rfl; have hcz111_8 : w110.cell? ⟨gb147, 8, none⟩ = some (.bool a2) := (blk_cell BK147.out 8).trans rfl; have hcz111_9 : w110.cell? ⟨gb147, 9, none⟩ = some (.bool false) := (blk_cell BK147.out 9).trans rfl; have hfz111_0 := blk_frozen BK147.out 0; have hfz111_1 := blk_frozen BK147.out 1; have hfz111_2 := blk_frozen BK147.out 2; have hfz111_3 := blk_frozen BK147.out 3; have hfz111_4 := blk_frozen BK147.out 4; have hfz111_5 := blk_frozen BK147.out 5; have hfz111_6 := blk_frozen BK147.out 6; have hfz111_7 := blk_frozen BK147.out 7; have hfz111_8 := blk_frozen BK147.out 8; have hfz111_9 := blk_frozen BK147.out 9))
                      (try any_goals (exfalso; have h_ := ‹some undef = some (Value.bool _)›; revert h_; simp [undef]; done))
                      go_ret
                      exact ⟨by first | rfl | (simp [errW_none, errW_some] <;> rfl) | (simp [*, errW_none, errW_some] <;> rfl), by repeat (first | (with_reducible first | exact HB.out | apply below_alloc | apply pw_below_drewN | apply below_drew1 | refine below_set ?_ GE147.out) | exact HB.out)⟩
              · rw [if_neg c55] at H
                have c55b0 : ((wrap64 (Int.tmod a0 30)) == 20) = false := beq_eq_false_iff_ne.mpr c55
                have c55b1 : ((wrap64 (Int.tmod a0 30)) != 20) = true := bne_iff_ne.mpr c55
                by_cases c115 : (wrap64 (Int.tmod a0 30)) = 22
                · rw [if_pos c115] at H
                  have c115b0 : ((wrap64 (Int.tmod a0 30)) == 22) = true := beq_iff_eq.mpr c115
                  have c115b1 : ((wrap64 (Int.tmod a0 30)) != 22) = false := bne_eq_false_iff_eq.mpr c115
                  clear c115
                  replace H := Option.bind_eq_some_iff.mp H
                  obtain ⟨t172, A1160, H⟩ := H
                  (try dsimp only at H)
                  have A116 := Aside0.mk A1160
                  clear A1160
                  by_cases c117 : (t172 == ((Go.bits .and .u32 ((Go.bits .and .u32 a1 1073741823) / 2097152) 1) == 0)) = true
                  · rw [if_pos c117] at H
                    have c117b0 : (t172 == ((Go.bits .and .u32 ((Go.bits .and .u32 a1 1073741823) / 2097152) 1) == 0)) = true := c117
                    (try (have c117b1 : decide (t172 = ((Go.bits .and .u32 ((Go.bits .and .u32 a1 1073741823) / 2097152) 1) == 0)) = true := by simpa using c117))
                    (try (have c117b2 : (t172 == ((Go.bits .and .u32 ((Go.bits .and .u32 a1 1073741823) / 2097152) 1) == 0)) = true := by simpa using c117))
                    clear c117
                    replace H := Option.bind_eq_some_iff.mp H
                    obtain ⟨t173, A1180, H⟩ := H
                    (try dsimp only at H)
                    have A118 := Aside0.mk A1180
                    clear A1180
                    by_cases c119 : t173 = true
                    · subst c119
                      rw [if_pos rfl] at H
                      exact absurd ((Option.some.inj H).trans HT.out) (by decide)
                    · replace c119 := Bool.eq_false_iff.mpr c119
                      subst c119
                      rw [if_neg (show ¬ (false = true) by decide)] at H
                      replace H := Option.bind_eq_some_iff.mp H
                      obtain ⟨t174, A1200, H⟩ := H
                      (try dsimp only at H)
                      have A120 := Aside0.mk A1200
                      clear A1200
                      obtain rfl := Option.some.inj H
                      have hcz121_0 : wc.cell? ⟨gb147, 0, none⟩ = some (.int .i64 0) := (blk_cell BK147.out 0).trans rfl
                      have hcz121_1 : wc.cell? ⟨gb147, 1, none⟩ = some (.int .i64 0) := (blk_cell BK147.out 1).trans rfl
                      have hcz121_2 : wc.cell? ⟨gb147, 2, none⟩ = some (.int .i64 0) := (blk_cell BK147.out 2).trans rfl
                      have hcz121_3 : wc.cell? ⟨gb147, 3, none⟩ = some (.int .i64 0) := (blk_cell BK147.out 3).trans rfl
                      have hcz121_4 : wc.cell? ⟨gb147, 4, none⟩ = some (.int .i64 0) := (blk_cell BK147.out 4).trans rfl
                      have hcz121_5 : wc.cell? ⟨gb147, 5, none⟩ = some (.int .i64 0) := (blk_cell BK147.out 5).trans rfl
                      have hcz121_6 : wc.cell? ⟨gb147, 6, none⟩ = some (.int .i64 0) := (blk_cell BK147.out 6).trans rfl
                      have hcz121_7 : wc.cell? ⟨gb147, 7, none⟩ = some (.int .i64 0) := (blk_cell BK147.out 7).trans rfl
                      have hcz121_8 : wc.cell? ⟨gb147, 8, none⟩ = some (.bool a2) := (blk_cell BK147.out 8).trans rfl
                      have hcz121_9 : wc.cell? ⟨gb147, 9, none⟩ = some (.bool a3) := (blk_cell BK147.out 9).trans rfl
                      have hfz121_0 := blk_frozen BK147.out 0
                      have hfz121_1 := blk_frozen BK147.out 1
                      have hfz121_2 := blk_frozen BK147.out 2
                      have hfz121_3 := blk_frozen BK147.out 3
                      have hfz121_4 := blk_frozen BK147.out 4
                      have hfz121_5 := blk_frozen BK147.out 5
                      have hfz121_6 := blk_frozen BK147.out 6
                      have hfz121_7 := blk_frozen BK147.out 7
                      have hfz121_8 := blk_frozen BK147.out 8
                      have hfz121_9 := blk_frozen BK147.out 9
                      go_wp2_with (first | ((with_reducible refine gate_callee (f := 13) rfl ?_); refine goesL_ (some 79) rfl rfl Tryd.func13 (by kernel_rfl) rfl #[.int .i64 (wrap64 (Int.tmod a0 30)), .int .u32 (Go.bits .and .u32 a1 1073741823), .agg #[.int .i64 0, .int .i64 0, .int .i64 0, .int .i64 0, .int .i64 0, .int .i64 0, .int .i64 0, .int .i64 0, .bool a2, .bool a3]] rfl (by (try simp only [List.map_toArray, List.map_cons, List.map_nil]); first | done | rfl | (simp only [List.length_drop, List.length_take]; rfl)) ?_; (with_reducible refine (quirks_Needs.calls kj34 (wrap64 (Int.tmod a0 30)) (Go.bits .and .u32 a1 1073741823) 0 0 0 0 0 0 0 0 a2 a3 t172 _ A116.out).mono ?_); rintro e w122 ⟨rfl, hb⟩; refine ⟨_, rfl, ?_⟩; have n0_ := Aside0.mk (blk_below (g := gb147) (o := .cells #[.int .i64 0, .int .i64 0, .int .i64 0, .int .i64 0, .int .i64 0, .int .i64 0, .int .i64 0, .int .i64 0, .bool a2, .bool a3] 25 (0, 0)) (by (with_reducible repeat (first | refine blk_drewN ?_ _ | refine blk_drew ?_ | refine blk_alloc ?_ _)); exact BK147.out) hb); have n1_ := Aside0.mk (below_step (by repeat (first | (with_reducible first | exact HB.out | apply below_alloc | apply pw_below_drewN | apply below_drew1 | refine below_set ?_ GE147.out) | exact HB.out)) hb); clear BK147; clear HB; have BK147 := n0_; have HB := n1_; clear n0_ n1_; (try clear hb); (try clear hb2); (try clear hk); (try clear hi); have hcz123_0 : w122.cell? ⟨gb147, 0, none⟩ = some (.int .i64 0) := (blk_cell BK147.out 0).trans rfl; have hcz123_1 : w122.cell? ⟨gb147, 1, none⟩ = some (.int .i64 0) := (blk_cell BK147.out 1).trans rfl; have hcz123_2 : w122.cell? ⟨gb147, 2, none⟩ = some (.int .i64 0) := (blk_cell BK147.out 2).trans rfl; have hcz123_3 : w122.cell? ⟨gb147, 3, none⟩ = some (.int .i64 0) := (blk_cell BK147.out 3).trans rfl; have hcz123_4 : w122.cell? ⟨gb147, 4, none⟩ = some (.int .i64 0) := (blk_cell BK147.out 4).trans rfl; have hcz123_5 : w122.cell? ⟨gb147, 5, none⟩ = some (.int .i64 0) := (blk_cell BK147.out 5).trans rfl; have hcz123_6 : w122.cell? ⟨gb147, 6, none⟩ = some (.int .i64 0) := (blk_cell BK147.out 6).trans rfl; have hcz123_7 : w122.cell? ⟨gb147, 7, none⟩ = some (.int .i64 0) := (blk_cell BK147.out 7).trans rfl; have hcz123_8 : w122.cell? ⟨gb147, 8, none⟩ = some (.bool a2) := (blk_cell BK147.out 8).trans rfl; have hcz123_9 : w122.cell? ⟨gb147, 9, none⟩ = some (.bool a3) := (blk_cell BK147.out 9).trans rfl; have hfz123_0 := blk_frozen BK147.out 0; have hfz123_1 := blk_frozen BK147.out 1; have hfz123_2 := blk_frozen BK147.out 2; have hfz123_3 := blk_frozen BK147.out 3; have hfz123_4 := blk_frozen BK147.out 4; have hfz123_5 := blk_frozen BK147.out 5; have hfz123_6 := blk_frozen BK147.out 6; have hfz123_7 := blk_frozen BK147.out 7; have hfz123_8 := blk_frozen BK147.out 8; have hfz123_9 := blk_frozen BK147.out 9) | (go_at_call 13; (with_reducible refine (quirks_Needs.calls kj34 (-1) (Go.bits .and .u32 a1 1073741823) 0 0 0 0 0 0 0 0 a2 a3 false _ A118.out).mono ?_); rintro e w124 ⟨rfl, hb⟩; have n0_ := Aside0.mk (blk_below (g := gb147) (o := .cells #[.int .i64 0, .int .i64 0, .int .i64 0, .int .i64 0, .int .i64 0, .int .i64 0, .int .i64 0, .int .i64 0, .bool a2, .bool a3] 25 (0, 0)) (by (with_reducible repeat (first | refine blk_drewN ?_ _ | refine blk_drew ?_ | refine blk_alloc ?_ _)); exact BK147.out) hb); have n1_ := Aside0.mk (below_step (by repeat (first | (with_reducible first | exact HB.out | apply below_alloc | apply pw_below_drewN | apply below_drew1 | refine below_set ?_ GE147.out) | exact HB.out)) hb); clear BK147; clear HB; have BK147 := n0_; have HB := n1_; clear n0_ n1_; (try clear hb); (try clear hb2); (try clear hk); (try clear hi); have hcz125_0 : w124.cell? ⟨gb147, 0, none⟩ = some (.int .i64 0) := (blk_cell BK147.out 0).trans rfl; have hcz125_1 : w124.cell? ⟨gb147, 1, none⟩ = some (.int .i64 0) := (blk_cell BK147.out 1).trans rfl; have hcz125_2 : w124.cell? ⟨gb147, 2, none⟩ = some (.int .i64 0) := (blk_cell BK147.out 2).trans rfl; have hcz125_3 : w124.cell? ⟨gb147, 3, none⟩ = some (.int .i64 0) := (blk_cell BK147.out 3).trans rfl; have hcz125_4 : w124.cell? ⟨gb147, 4, none⟩ = some (.int .i64 0) := (blk_cell BK147.out 4).trans rfl; have hcz125_5 : w124.cell? ⟨gb147, 5, none⟩ = some (.int .i64 0) := (blk_cell BK147.out 5).trans rfl; have hcz125_6 : w124.cell? ⟨gb147, 6, none⟩ = some (.int .i64 0) := (blk_cell BK147.out 6).trans rfl; have hcz125_7 : w124.cell? ⟨gb147, 7, none⟩ = some (.int .i64 0) := (blk_cell BK147.out 7).trans rfl; have hcz125_8 : w124.cell? ⟨gb147, 8, none⟩ = some (.bool a2) := (blk_cell BK147.out 8).trans rfl; have hcz125_9 : w124.cell? ⟨gb147, 9, none⟩ = some (.bool a3) := (blk_cell BK147.out 9).trans rfl; have hfz125_0 := blk_frozen BK147.out 0; have hfz125_1 := blk_frozen BK147.out 1; have hfz125_2 := blk_frozen BK147.out 2; have hfz125_3 := blk_frozen BK147.out 3; have hfz125_4 := blk_frozen BK147.out 4; have hfz125_5 := blk_frozen BK147.out 5; have hfz125_6 := blk_frozen BK147.out 6; have hfz125_7 := blk_frozen BK147.out 7; have hfz125_8 := blk_frozen BK147.out 8; have hfz125_9 := blk_frozen BK147.out 9) | (go_at_call 13; (with_reducible refine (quirks_Needs.calls kj34 30 (Go.bits .and .u32 a1 1073741823) 0 0 0 0 0 0 0 0 a2 a3 t174 _ A120.out).mono ?_); rintro e w126 ⟨rfl, hb⟩; have n0_ := Aside0.mk (blk_below (g := gb147) (o := .cells #[.int .i64 0, .int .i64 0, .int .i64 0, .int .i64 0, .int .i64 0, .int .i64 0, .int .i64 0, .int .i64 0, .bool a2, .bool a3] 25 (0, 0)) (by (with_reducible repeat (first | refine blk_drewN ?_ _ | refine blk_drew ?_ | refine blk_alloc ?_ _)); exact BK147.out) hb); have n1_ := Aside0.mk (below_step (by repeat (first | (with_reducible first | exact HB.out | apply below_alloc | apply pw_below_drewN | apply below_drew1 | refine below_set ?_ GE147.out) | exact HB.out)) hb); clear BK147; clear HB; have BK147 := n0_; have HB := n1_; clear n0_ n1_; (try clear hb); (try clear hb2); (try clear hk); (try clear hi)) | (go_at_call 13; (with_reducible refine (quirks_Needs.calls kj34 (wrap64 (Int.tmod a0 30)) (Go.bits .and .u32 a1 1073741823) 0 0 0 0 0 0 0 0 a2 a3 t172 _ A116.out).mono ?_); rintro e w122 ⟨rfl, hb⟩; have n0_ := Aside0.mk (blk_below (g := gb147) (o := .cells #[.int .i64 0, .int .i64 0, .int .i64 0, .int .i64 0, .int .i64 0, .int .i64 0, .int .i64 0, .int .i64 0, .bool a2, .bool a3] 25 (0, 0)) (by (with_reducible repeat (first | refine blk_drewN ?_ _ | refine blk_drew ?_ | refine blk_alloc ?_ _)); exact BK147.out) hb); have n1_ := Aside0.mk (below_step (by repeat (first | (with_reducible first | exact HB.out | apply below_alloc | apply pw_below_drewN | apply below_drew1 | refine below_set ?_ GE147.out) | exact HB.out)) hb); clear BK147; clear HB; have BK147 := n0_; have HB := n1_; clear n0_ n1_; (try clear hb); (try clear hb2); (try clear hk); (try clear hi); have hcz123_0 : w122.cell? ⟨gb147, 0, none⟩ = some (.int .i64 0) := (blk_cell BK147.out 0).trans rfl; have hcz123_1 : w122.cell? ⟨gb147, 1, none⟩ = some (.int .i64 0) := (blk_cell BK147.out 1).trans rfl; have hcz123_2 : w122.cell? ⟨gb147, 2, none⟩ = some (.int .i64 0) := (blk_cell BK147.out 2).trans rfl; have hcz123_3 : w122.cell? ⟨gb147, 3, none⟩ = some (.int .i64 0) := (blk_cell BK147.out 3).trans rfl; have hcz123_4 : w122.cell? ⟨gb147, 4, none⟩ = some (.int .i64 0) := (blk_cell BK147.out 4).trans rfl; have hcz123_5 : w122.cell? ⟨gb147, 5, none⟩ = some (.int .i64 0) := (blk_cell BK147.out 5).trans rfl; have hcz123_6 : w122.cell? ⟨gb147, 6, none⟩ = some (.int .i64 0) := (blk_cell BK147.out 6).trans rfl; have hcz123_7 : w122.cell? ⟨gb147, 7, none⟩ = some (.int .i64 0) := (blk_cell BK147.out 7).trans rfl; have hcz123_8 : w122.cell? ⟨gb147, 8, none⟩ = some (.bool a2) := (blk_cell BK147.out 8).trans rfl; have hcz123_9 : w122.cell? ⟨gb147, 9, none⟩ = some (.bool a3) := (blk_cell BK147.out 9).trans rfl; have hfz123_0 := blk_frozen BK147.out 0; have hfz123_1 := blk_frozen BK147.out 1; have hfz123_2 := blk_frozen BK147.out 2; have hfz123_3 := blk_frozen BK147.out 3; have hfz123_4 := blk_frozen BK147.out 4; have hfz123_5 := blk_frozen BK147.out 5; have hfz123_6 := blk_frozen BK147.out 6; have hfz123_7 := blk_frozen BK147.out 7; have hfz123_8 := blk_frozen BK147.out 8; have hfz123_9 := blk_frozen BK147.out 9))
                      (try any_goals (exfalso; have h_ := ‹some undef = some (Value.bool _)›; revert h_; simp [undef]; done))
                      go_ret
                      exact ⟨by first | rfl | (simp [errW_none, errW_some] <;> rfl) | (simp [*, errW_none, errW_some] <;> rfl), by repeat (first | (with_reducible first | exact HB.out | apply below_alloc | apply pw_below_drewN | apply below_drew1 | refine below_set ?_ GE147.out) | exact HB.out)⟩
                  · rw [if_neg c117] at H
                    have c117b0 : (t172 == ((Go.bits .and .u32 ((Go.bits .and .u32 a1 1073741823) / 2097152) 1) == 0)) = false := by simpa using c117
                    (try (have c117b1 : decide (t172 = ((Go.bits .and .u32 ((Go.bits .and .u32 a1 1073741823) / 2097152) 1) == 0)) = false := by simpa using c117))
                    (try (have c117b2 : (t172 == ((Go.bits .and .u32 ((Go.bits .and .u32 a1 1073741823) / 2097152) 1) == 0)) = false := by simpa using c117))
                    (try (have c117b3 : ¬ (t172 = ((Go.bits .and .u32 ((Go.bits .and .u32 a1 1073741823) / 2097152) 1) == 0)) := by simpa using c117))
                    clear c117
                    exact absurd ((Option.some.inj H).trans HT.out) (by decide)
                · rw [if_neg c115] at H
                  have c115b0 : ((wrap64 (Int.tmod a0 30)) == 22) = false := beq_eq_false_iff_ne.mpr c115
                  have c115b1 : ((wrap64 (Int.tmod a0 30)) != 22) = true := bne_iff_ne.mpr c115
                  by_cases c127 : (wrap64 (Int.tmod a0 30)) = 26
                  · rw [if_pos c127] at H
                    have c127b0 : ((wrap64 (Int.tmod a0 30)) == 26) = true := beq_iff_eq.mpr c127
                    have c127b1 : ((wrap64 (Int.tmod a0 30)) != 26) = false := bne_eq_false_iff_eq.mpr c127
                    clear c127
                    replace H := Option.bind_eq_some_iff.mp H
                    obtain ⟨t175, A1280, H⟩ := H
                    (try dsimp only at H)
                    have A128 := Aside0.mk A1280
                    clear A1280
                    by_cases c129 : (t175 == ((Go.bits .and .u32 ((Go.bits .and .u32 a1 1073741823) / 33554432) 1) == 0)) = true
                    · rw [if_pos c129] at H
                      have c129b0 : (t175 == ((Go.bits .and .u32 ((Go.bits .and .u32 a1 1073741823) / 33554432) 1) == 0)) = true := c129
                      (try (have c129b1 : decide (t175 = ((Go.bits .and .u32 ((Go.bits .and .u32 a1 1073741823) / 33554432) 1) == 0)) = true := by simpa using c129))
                      (try (have c129b2 : (t175 == ((Go.bits .and .u32 ((Go.bits .and .u32 a1 1073741823) / 33554432) 1) == 0)) = true := by simpa using c129))
                      clear c129
                      replace H := Option.bind_eq_some_iff.mp H
                      obtain ⟨t176, A1300, H⟩ := H
                      (try dsimp only at H)
                      have A130 := Aside0.mk A1300
                      clear A1300
                      by_cases c131 : t176 = true
                      · subst c131
                        rw [if_pos rfl] at H
                        exact absurd ((Option.some.inj H).trans HT.out) (by decide)
                      · replace c131 := Bool.eq_false_iff.mpr c131
                        subst c131
                        rw [if_neg (show ¬ (false = true) by decide)] at H
                        replace H := Option.bind_eq_some_iff.mp H
                        obtain ⟨t177, A1320, H⟩ := H
                        (try dsimp only at H)
                        have A132 := Aside0.mk A1320
                        clear A1320
                        obtain rfl := Option.some.inj H
                        have hcz133_0 : wc.cell? ⟨gb147, 0, none⟩ = some (.int .i64 0) := (blk_cell BK147.out 0).trans rfl
                        have hcz133_1 : wc.cell? ⟨gb147, 1, none⟩ = some (.int .i64 0) := (blk_cell BK147.out 1).trans rfl
                        have hcz133_2 : wc.cell? ⟨gb147, 2, none⟩ = some (.int .i64 0) := (blk_cell BK147.out 2).trans rfl
                        have hcz133_3 : wc.cell? ⟨gb147, 3, none⟩ = some (.int .i64 0) := (blk_cell BK147.out 3).trans rfl
                        have hcz133_4 : wc.cell? ⟨gb147, 4, none⟩ = some (.int .i64 0) := (blk_cell BK147.out 4).trans rfl
                        have hcz133_5 : wc.cell? ⟨gb147, 5, none⟩ = some (.int .i64 0) := (blk_cell BK147.out 5).trans rfl
                        have hcz133_6 : wc.cell? ⟨gb147, 6, none⟩ = some (.int .i64 0) := (blk_cell BK147.out 6).trans rfl
                        have hcz133_7 : wc.cell? ⟨gb147, 7, none⟩ = some (.int .i64 0) := (blk_cell BK147.out 7).trans rfl
                        have hcz133_8 : wc.cell? ⟨gb147, 8, none⟩ = some (.bool a2) := (blk_cell BK147.out 8).trans rfl
                        have hcz133_9 : wc.cell? ⟨gb147, 9, none⟩ = some (.bool a3) := (blk_cell BK147.out 9).trans rfl
                        have hfz133_0 := blk_frozen BK147.out 0
                        have hfz133_1 := blk_frozen BK147.out 1
                        have hfz133_2 := blk_frozen BK147.out 2
                        have hfz133_3 := blk_frozen BK147.out 3
                        have hfz133_4 := blk_frozen BK147.out 4
                        have hfz133_5 := blk_frozen BK147.out 5
                        have hfz133_6 := blk_frozen BK147.out 6
                        have hfz133_7 := blk_frozen BK147.out 7
                        have hfz133_8 := blk_frozen BK147.out 8
                        have hfz133_9 := blk_frozen BK147.out 9
                        go_wp2_with (first | ((with_reducible refine gate_callee (f := 13) rfl ?_); refine goesL_ (some 79) rfl rfl Tryd.func13 (by kernel_rfl) rfl #[.int .i64 (wrap64 (Int.tmod a0 30)), .int .u32 (Go.bits .and .u32 a1 1073741823), .agg #[.int .i64 0, .int .i64 0, .int .i64 0, .int .i64 0, .int .i64 0, .int .i64 0, .int .i64 0, .int .i64 0, .bool a2, .bool a3]] rfl (by (try simp only [List.map_toArray, List.map_cons, List.map_nil]); first | done | rfl | (simp only [List.length_drop, List.length_take]; rfl)) ?_; (with_reducible refine (quirks_Needs.calls kj34 (wrap64 (Int.tmod a0 30)) (Go.bits .and .u32 a1 1073741823) 0 0 0 0 0 0 0 0 a2 a3 t175 _ A128.out).mono ?_); rintro e w134 ⟨rfl, hb⟩; refine ⟨_, rfl, ?_⟩; have n0_ := Aside0.mk (blk_below (g := gb147) (o := .cells #[.int .i64 0, .int .i64 0, .int .i64 0, .int .i64 0, .int .i64 0, .int .i64 0, .int .i64 0, .int .i64 0, .bool a2, .bool a3] 25 (0, 0)) (by (with_reducible repeat (first | refine blk_drewN ?_ _ | refine blk_drew ?_ | refine blk_alloc ?_ _)); exact BK147.out) hb); have n1_ := Aside0.mk (below_step (by repeat (first | (with_reducible first | exact HB.out | apply below_alloc | apply pw_below_drewN | apply below_drew1 | refine below_set ?_ GE147.out) | exact HB.out)) hb); clear BK147; clear HB; have BK147 := n0_; have HB := n1_; clear n0_ n1_; (try clear hb); (try clear hb2); (try clear hk); (try clear hi); have hcz135_0 : w134.cell? ⟨gb147, 0, none⟩ = some (.int .i64 0) := (blk_cell BK147.out 0).trans rfl; have hcz135_1 : w134.cell? ⟨gb147, 1, none⟩ = some (.int .i64 0) := (blk_cell BK147.out 1).trans rfl; have hcz135_2 : w134.cell? ⟨gb147, 2, none⟩ = some (.int .i64 0) := (blk_cell BK147.out 2).trans rfl; have hcz135_3 : w134.cell? ⟨gb147, 3, none⟩ = some (.int .i64 0) := (blk_cell BK147.out 3).trans rfl; have hcz135_4 : w134.cell? ⟨gb147, 4, none⟩ = some (.int .i64 0) := (blk_cell BK147.out 4).trans rfl; have hcz135_5 : w134.cell? ⟨gb147, 5, none⟩ = some (.int .i64 0) := (blk_cell BK147.out 5).trans rfl; have hcz135_6 : w134.cell? ⟨gb147, 6, none⟩ = some (.int .i64 0) := (blk_cell BK147.out 6).trans rfl; have hcz135_7 : w134.cell? ⟨gb147, 7, none⟩ = some (.int .i64 0) := (blk_cell BK147.out 7).trans rfl; have hcz135_8 : w134.cell? ⟨gb147, 8, none⟩ = some (.bool a2) := (blk_cell BK147.out 8).trans rfl; have hcz135_9 : w134.cell? ⟨gb147, 9, none⟩ = some (.bool a3) := (blk_cell BK147.out 9).trans rfl; have hfz135_0 := blk_frozen BK147.out 0; have hfz135_1 := blk_frozen BK147.out 1; have hfz135_2 := blk_frozen BK147.out 2; have hfz135_3 := blk_frozen BK147.out 3; have hfz135_4 := blk_frozen BK147.out 4; have hfz135_5 := blk_frozen BK147.out 5; have hfz135_6 := blk_frozen BK147.out 6; have hfz135_7 := blk_frozen BK147.out 7; have hfz135_8 := blk_frozen BK147.out 8; have hfz135_9 := blk_frozen BK147.out 9) | (go_at_call 13; (with_reducible refine (quirks_Needs.calls kj34 (-1) (Go.bits .and .u32 a1 1073741823) 0 0 0 0 0 0 0 0 a2 a3 false _ A130.out).mono ?_); rintro e w136 ⟨rfl, hb⟩; have n0_ := Aside0.mk (blk_below (g := gb147) (o := .cells #[.int .i64 0, .int .i64 0, .int .i64 0, .int .i64 0, .int .i64 0, .int .i64 0, .int .i64 0, .int .i64 0, .bool a2, .bool a3] 25 (0, 0)) (by (with_reducible repeat (first | refine blk_drewN ?_ _ | refine blk_drew ?_ | refine blk_alloc ?_ _)); exact BK147.out) hb); have n1_ := Aside0.mk (below_step (by repeat (first | (with_reducible first | exact HB.out | apply below_alloc | apply pw_below_drewN | apply below_drew1 | refine below_set ?_ GE147.out) | exact HB.out)) hb); clear BK147; clear HB; have BK147 := n0_; have HB := n1_; clear n0_ n1_; (try clear hb); (try clear hb2); (try clear hk); (try clear hi); have hcz137_0 : w136.cell? ⟨gb147, 0, none⟩ = some (.int .i64 0) := (blk_cell BK147.out 0).trans rfl; have hcz137_1 : w136.cell? ⟨gb147, 1, none⟩ = some (.int .i64 0) := (blk_cell BK147.out 1).trans rfl; have hcz137_2 : w136.cell? ⟨gb147, 2, none⟩ = some (.int .i64 0) := (blk_cell BK147.out 2).trans rfl; have hcz137_3 : w136.cell? ⟨gb147, 3, none⟩ = some (.int .i64 0) := (blk_cell BK147.out 3).trans rfl; have hcz137_4 : w136.cell? ⟨gb147, 4, none⟩ = some (.int .i64 0) := (blk_cell BK147.out 4).trans rfl; have hcz137_5 : w136.cell? ⟨gb147, 5, none⟩ = some (.int .i64 0) := (blk_cell BK147.out 5).trans rfl; have hcz137_6 : w136.cell? ⟨gb147, 6, none⟩ = some (.int .i64 0) := (blk_cell BK147.out 6).trans rfl; have hcz137_7 : w136.cell? ⟨gb147, 7, none⟩ = some (.int .i64 0) := (blk_cell BK147.out 7).trans rfl; have hcz137_8 : w136.cell? ⟨gb147, 8, none⟩ = some (.bool a2) := (blk_cell BK147.out 8).trans rfl; have hcz137_9 : w136.cell? ⟨gb147, 9, none⟩ = some (.bool a3) := (blk_cell BK147.out 9).trans rfl; have hfz137_0 := blk_frozen BK147.out 0; have hfz137_1 := blk_frozen BK147.out 1; have hfz137_2 := blk_frozen BK147.out 2; have hfz137_3 := blk_frozen BK147.out 3; have hfz137_4 := blk_frozen BK147.out 4; have hfz137_5 := blk_frozen BK147.out 5; have hfz137_6 := blk_frozen BK147.out 6; have hfz137_7 := blk_frozen BK147.out 7; have hfz137_8 := blk_frozen BK147.out 8; have hfz137_9 := blk_frozen BK147.out 9) | (go_at_call 13; (with_reducible refine (quirks_Needs.calls kj34 30 (Go.bits .and .u32 a1 1073741823) 0 0 0 0 0 0 0 0 a2 a3 t177 _ A132.out).mono ?_); rintro e w138 ⟨rfl, hb⟩; have n0_ := Aside0.mk (blk_below (g := gb147) (o := .cells #[.int .i64 0, .int .i64 0, .int .i64 0, .int .i64 0, .int .i64 0, .int .i64 0, .int .i64 0, .int .i64 0, .bool a2, .bool a3] 25 (0, 0)) (by (with_reducible repeat (first | refine blk_drewN ?_ _ | refine blk_drew ?_ | refine blk_alloc ?_ _)); exact BK147.out) hb); have n1_ := Aside0.mk (below_step (by repeat (first | (with_reducible first | exact HB.out | apply below_alloc | apply pw_below_drewN | apply below_drew1 | refine below_set ?_ GE147.out) | exact HB.out)) hb); clear BK147; clear HB; have BK147 := n0_; have HB := n1_; clear n0_ n1_; (try clear hb); (try clear hb2); (try clear hk); (try clear hi)) | (go_at_call 13; (with_reducible refine (quirks_Needs.calls kj34 (wrap64 (Int.tmod a0 30)) (Go.bits .and .u32 a1 1073741823) 0 0 0 0 0 0 0 0 a2 a3 t175 _ A128.out).mono ?_); rintro e w134 ⟨rfl, hb⟩; have n0_ := Aside0.mk (blk_below (g := gb147) (o := .cells #[.int .i64 0, .int .i64 0, .int .i64 0, .int .i64 0, .int .i64 0, .int .i64 0, .int .i64 0, .int .i64 0, .bool a2, .bool a3] 25 (0, 0)) (by (with_reducible repeat (first | refine blk_drewN ?_ _ | refine blk_drew ?_ | refine blk_alloc ?_ _)); exact BK147.out) hb); have n1_ := Aside0.mk (below_step (by repeat (first | (with_reducible first | exact HB.out | apply below_alloc | apply pw_below_drewN | apply below_drew1 | refine below_set ?_ GE147.out) | exact HB.out)) hb); clear BK147; clear HB; have BK147 := n0_; have HB := n1_; clear n0_ n1_; (try clear hb); (try clear hb2); (try clear hk); (try clear hi); have hcz135_0 : w134.cell? ⟨gb147, 0, none⟩ = some (.int .i64 0) := (blk_cell BK147.out 0).trans rfl; have hcz135_1 : w134.cell? ⟨gb147, 1, none⟩ = some (.int .i64 0) := (blk_cell BK147.out 1).trans rfl; have hcz135_2 : w134.cell? ⟨gb147, 2, none⟩ = some (.int .i64 0) := (blk_cell BK147.out 2).trans rfl; have hcz135_3 : w134.cell? ⟨gb147, 3, none⟩ = some (.int .i64 0) := (blk_cell BK147.out 3).trans rfl; have hcz135_4 : w134.cell? ⟨gb147, 4, none⟩ = some (.int .i64 0) := (blk_cell BK147.out 4).trans rfl; have hcz135_5 : w134.cell? ⟨gb147, 5, none⟩ = some (.int .i64 0) := (blk_cell BK147.out 5).trans rfl; have hcz135_6 : w134.cell? ⟨gb147, 6, none⟩ = some (.int .i64 0) := (blk_cell BK147.out 6).trans rfl; have hcz135_7 : w134.cell? ⟨gb147, 7, none⟩ = some (.int .i64 0) := (blk_cell BK147.out 7).trans rfl; have hcz135_8 : w134.cell? ⟨gb147, 8, none⟩ = some (.bool a2) := (blk_cell BK147.out 8).trans rfl; have hcz135_9 : w134.cell? ⟨gb147, 9, none⟩ = some (.bool a3) := (blk_cell BK147.out 9).trans rfl; have hfz135_0 := blk_frozen BK147.out 0; have hfz135_1 := blk_frozen BK147.out 1; have hfz135_2 := blk_frozen BK147.out 2; have hfz135_3 := blk_frozen BK147.out 3; have hfz135_4 := blk_frozen BK147.out 4; have hfz135_5 := blk_frozen BK147.out 5; have hfz135_6 := blk_frozen BK147.out 6; have hfz135_7 := blk_frozen BK147.out 7; have hfz135_8 := blk_frozen BK147.out 8; have hfz135_9 := blk_frozen BK147.out 9))
                        (try any_goals (exfalso; have h_ := ‹some undef = some (Value.bool _)›; revert h_; simp [undef]; done))
                        go_ret
                        exact ⟨by first | rfl | (simp [errW_none, errW_some] <;> rfl) | (simp [*, errW_none, errW_some] <;> rfl), by repeat (first | (with_reducible first | exact HB.out | apply below_alloc | apply pw_below_drewN | apply below_drew1 | refine below_set ?_ GE147.out) | exact HB.out)⟩
                    · rw [if_neg c129] at H
                      have c129b0 : (t175 == ((Go.bits .and .u32 ((Go.bits .and .u32 a1 1073741823) / 33554432) 1) == 0)) = false := by simpa using c129
                      (try (have c129b1 : decide (t175 = ((Go.bits .and .u32 ((Go.bits .and .u32 a1 1073741823) / 33554432) 1) == 0)) = false := by simpa using c129))
                      (try (have c129b2 : (t175 == ((Go.bits .and .u32 ((Go.bits .and .u32 a1 1073741823) / 33554432) 1) == 0)) = false := by simpa using c129))
                      (try (have c129b3 : ¬ (t175 = ((Go.bits .and .u32 ((Go.bits .and .u32 a1 1073741823) / 33554432) 1) == 0)) := by simpa using c129))
                      clear c129
                      exact absurd ((Option.some.inj H).trans HT.out) (by decide)
                  · rw [if_neg c127] at H
                    have c127b0 : ((wrap64 (Int.tmod a0 30)) == 26) = false := beq_eq_false_iff_ne.mpr c127
                    have c127b1 : ((wrap64 (Int.tmod a0 30)) != 26) = true := bne_iff_ne.mpr c127
                    replace H := Option.bind_eq_some_iff.mp H
                    obtain ⟨t178, A1390, H⟩ := H
                    (try dsimp only at H)
                    have A139 := Aside0.mk A1390
                    clear A1390
                    by_cases c140 : t178 = true
                    · skip
                      subst c140
                      rw [if_pos (show (true == true) = true by rfl)] at H
                      replace H := Option.bind_eq_some_iff.mp H
                      obtain ⟨t179, A1410, H⟩ := H
                      (try dsimp only at H)
                      have A141 := Aside0.mk A1410
                      clear A1410
                      by_cases c142 : t179 = true
                      · subst c142
                        rw [if_pos rfl] at H
                        exact absurd ((Option.some.inj H).trans HT.out) (by decide)
                      · replace c142 := Bool.eq_false_iff.mpr c142
                        subst c142
                        rw [if_neg (show ¬ (false = true) by decide)] at H
                        replace H := Option.bind_eq_some_iff.mp H
                        obtain ⟨t180, A1430, H⟩ := H
                        (try dsimp only at H)
                        have A143 := Aside0.mk A1430
                        clear A1430
                        obtain rfl := Option.some.inj H
                        have hcz144_0 : wc.cell? ⟨gb147, 0, none⟩ = some (.int .i64 0) := (blk_cell BK147.out 0).trans rfl
                        have hcz144_1 : wc.cell? ⟨gb147, 1, none⟩ = some (.int .i64 0) := (blk_cell BK147.out 1).trans rfl
                        have hcz144_2 : wc.cell? ⟨gb147, 2, none⟩ = some (.int .i64 0) := (blk_cell BK147.out 2).trans rfl
                        have hcz144_3 : wc.cell? ⟨gb147, 3, none⟩ = some (.int .i64 0) := (blk_cell BK147.out 3).trans rfl
                        have hcz144_4 : wc.cell? ⟨gb147, 4, none⟩ = some (.int .i64 0) := (blk_cell BK147.out 4).trans rfl
                        have hcz144_5 : wc.cell? ⟨gb147, 5, none⟩ = some (.int .i64 0) := (blk_cell BK147.out 5).trans rfl
                        have hcz144_6 : wc.cell? ⟨gb147, 6, none⟩ = some (.int .i64 0) := (blk_cell BK147.out 6).trans rfl
                        have hcz144_7 : wc.cell? ⟨gb147, 7, none⟩ = some (.int .i64 0) := (blk_cell BK147.out 7).trans rfl
                        have hcz144_8 : wc.cell? ⟨gb147, 8, none⟩ = some (.bool a2) := (blk_cell BK147.out 8).trans rfl
                        have hcz144_9 : wc.cell? ⟨gb147, 9, none⟩ = some (.bool a3) := (blk_cell BK147.out 9).trans rfl
                        have hfz144_0 := blk_frozen BK147.out 0
                        have hfz144_1 := blk_frozen BK147.out 1
                        have hfz144_2 := blk_frozen BK147.out 2
                        have hfz144_3 := blk_frozen BK147.out 3
                        have hfz144_4 := blk_frozen BK147.out 4
                        have hfz144_5 := blk_frozen BK147.out 5
                        have hfz144_6 := blk_frozen BK147.out 6
                        have hfz144_7 := blk_frozen BK147.out 7
                        have hfz144_8 := blk_frozen BK147.out 8
                        have hfz144_9 := blk_frozen BK147.out 9
                        go_wp2_with (first | ((with_reducible refine gate_callee (f := 13) rfl ?_); refine goesL_ (some 79) rfl rfl Tryd.func13 (by kernel_rfl) rfl #[.int .i64 (wrap64 (Int.tmod a0 30)), .int .u32 (Go.bits .and .u32 a1 1073741823), .agg #[.int .i64 0, .int .i64 0, .int .i64 0, .int .i64 0, .int .i64 0, .int .i64 0, .int .i64 0, .int .i64 0, .bool a2, .bool a3]] rfl (by (try simp only [List.map_toArray, List.map_cons, List.map_nil]); first | done | rfl | (simp only [List.length_drop, List.length_take]; rfl)) ?_; (with_reducible refine (quirks_Needs.calls kj34 (wrap64 (Int.tmod a0 30)) (Go.bits .and .u32 a1 1073741823) 0 0 0 0 0 0 0 0 a2 a3 true _ A139.out).mono ?_); rintro e w145 ⟨rfl, hb⟩; refine ⟨_, rfl, ?_⟩; have n0_ := Aside0.mk (blk_below (g := gb147) (o := .cells #[.int .i64 0, .int .i64 0, .int .i64 0, .int .i64 0, .int .i64 0, .int .i64 0, .int .i64 0, .int .i64 0, .bool a2, .bool a3] 25 (0, 0)) (by (with_reducible repeat (first | refine blk_drewN ?_ _ | refine blk_drew ?_ | refine blk_alloc ?_ _)); exact BK147.out) hb); have n1_ := Aside0.mk (below_step (by repeat (first | (with_reducible first | exact HB.out | apply below_alloc | apply pw_below_drewN | apply below_drew1 | refine below_set ?_ GE147.out) | exact HB.out)) hb); clear BK147; clear HB; have BK147 := n0_; have HB := n1_; clear n0_ n1_; (try clear hb); (try clear hb2); (try clear hk); (try clear hi); have hcz146_0 : w145.cell? ⟨gb147, 0, none⟩ = some (.int .i64 0) := (blk_cell BK147.out 0).trans rfl; have hcz146_1 : w145.cell? ⟨gb147, 1, none⟩ = some (.int .i64 0) := (blk_cell BK147.out 1).trans rfl; have hcz146_2 : w145.cell? ⟨gb147, 2, none⟩ = some (.int .i64 0) := (blk_cell BK147.out 2).trans rfl; have hcz146_3 : w145.cell? ⟨gb147, 3, none⟩ = some (.int .i64 0) := (blk_cell BK147.out 3).trans rfl; have hcz146_4 : w145.cell? ⟨gb147, 4, none⟩ = some (.int .i64 0) := (blk_cell BK147.out 4).trans rfl; have hcz146_5 : w145.cell? ⟨gb147, 5, none⟩ = some (.int .i64 0) := (blk_cell BK147.out 5).trans rfl; have hcz146_6 : w145.cell? ⟨gb147, 6, none⟩ = some (.int .i64 0) := (blk_cell BK147.out 6).trans rfl; have hcz146_7 : w145.cell? ⟨gb147, 7, none⟩ = some (.int .i64 0) := (blk_cell BK147.out 7).trans rfl; have hcz146_8 : w145.cell? ⟨gb147, 8, none⟩ = some (.bool a2) := (blk_cell BK147.out 8).trans rfl; have hcz146_9 : w145.cell? ⟨gb147, 9, none⟩ = some (.bool a3) := (blk_cell BK147.out 9).trans rfl; have hfz146_0 := blk_frozen BK147.out 0; have hfz146_1 := blk_frozen BK147.out 1; have hfz146_2 := blk_frozen BK147.out 2; have hfz146_3 := blk_frozen BK147.out 3; have hfz146_4 := blk_frozen BK147.out 4; have hfz146_5 := blk_frozen BK147.out 5; have hfz146_6 := blk_frozen BK147.out 6; have hfz146_7 := blk_frozen BK147.out 7; have hfz146_8 := blk_frozen BK147.out 8; have hfz146_9 := blk_frozen BK147.out 9) | (go_at_call 13; (with_reducible refine (quirks_Needs.calls kj34 (-1) (Go.bits .and .u32 a1 1073741823) 0 0 0 0 0 0 0 0 a2 a3 false _ A141.out).mono ?_); rintro e w147 ⟨rfl, hb⟩; have n0_ := Aside0.mk (blk_below (g := gb147) (o := .cells #[.int .i64 0, .int .i64 0, .int .i64 0, .int .i64 0, .int .i64 0, .int .i64 0, .int .i64 0, .int .i64 0, .bool a2, .bool a3] 25 (0, 0)) (by (with_reducible repeat (first | refine blk_drewN ?_ _ | refine blk_drew ?_ | refine blk_alloc ?_ _)); exact BK147.out) hb); have n1_ := Aside0.mk (below_step (by repeat (first | (with_reducible first | exact HB.out | apply below_alloc | apply pw_below_drewN | apply below_drew1 | refine below_set ?_ GE147.out) | exact HB.out)) hb); clear BK147; clear HB; have BK147 := n0_; have HB := n1_; clear n0_ n1_; (try clear hb); (try clear hb2); (try clear hk); (try clear hi); have hcz148_0 : w147.cell? ⟨gb147, 0, none⟩ = some (.int .i64 0) := (blk_cell BK147.out 0).trans rfl; have hcz148_1 : w147.cell? ⟨gb147, 1, none⟩ = some (.int .i64 0) := (blk_cell BK147.out 1).trans rfl; have hcz148_2 : w147.cell? ⟨gb147, 2, none⟩ = some (.int .i64 0) := (blk_cell BK147.out 2).trans rfl; have hcz148_3 : w147.cell? ⟨gb147, 3, none⟩ = some (.int .i64 0) := (blk_cell BK147.out 3).trans rfl; have hcz148_4 : w147.cell? ⟨gb147, 4, none⟩ = some (.int .i64 0) := (blk_cell BK147.out 4).trans rfl; have hcz148_5 : w147.cell? ⟨gb147, 5, none⟩ = some (.int .i64 0) := (blk_cell BK147.out 5).trans rfl; have hcz148_6 : w147.cell? ⟨gb147, 6, none⟩ = some (.int .i64 0) := (blk_cell BK147.out 6).trans rfl; have hcz148_7 : w147.cell? ⟨gb147, 7, none⟩ = some (.int .i64 0) := (blk_cell BK147.out 7).trans rfl; have hcz148_8 : w147.cell? ⟨gb147, 8, none⟩ = some (.bool a2) := (blk_cell BK147.out 8).trans rfl; have hcz148_9 : w147.cell? ⟨gb147, 9, none⟩ = some (.bool a3) := (blk_cell BK147.out 9).trans rfl; have hfz148_0 := blk_frozen BK147.out 0; have hfz148_1 := blk_frozen BK147.out 1; have hfz148_2 := blk_frozen BK147.out 2; have hfz148_3 := blk_frozen BK147.out 3; have hfz148_4 := blk_frozen BK147.out 4; have hfz148_5 := blk_frozen BK147.out 5; have hfz148_6 := blk_frozen BK147.out 6; have hfz148_7 := blk_frozen BK147.out 7; have hfz148_8 := blk_frozen BK147.out 8; have hfz148_9 := blk_frozen BK147.out 9) | (go_at_call 13; (with_reducible refine (quirks_Needs.calls kj34 30 (Go.bits .and .u32 a1 1073741823) 0 0 0 0 0 0 0 0 a2 a3 t180 _ A143.out).mono ?_); rintro e w149 ⟨rfl, hb⟩; have n0_ := Aside0.mk (blk_below (g := gb147) (o := .cells #[.int .i64 0, .int .i64 0, .int .i64 0, .int .i64 0, .int .i64 0, .int .i64 0, .int .i64 0, .int .i64 0, .bool a2, .bool a3] 25 (0, 0)) (by (with_reducible repeat (first | refine blk_drewN ?_ _ | refine blk_drew ?_ | refine blk_alloc ?_ _)); exact BK147.out) hb); have n1_ := Aside0.mk (below_step (by repeat (first | (with_reducible first | exact HB.out | apply below_alloc | apply pw_below_drewN | apply below_drew1 | refine below_set ?_ GE147.out) | exact HB.out)) hb); clear BK147; clear HB; have BK147 := n0_; have HB := n1_; clear n0_ n1_; (try clear hb); (try clear hb2); (try clear hk); (try clear hi)) | (go_at_call 13; (with_reducible refine (quirks_Needs.calls kj34 (wrap64 (Int.tmod a0 30)) (Go.bits .and .u32 a1 1073741823) 0 0 0 0 0 0 0 0 a2 a3 true _ A139.out).mono ?_); rintro e w145 ⟨rfl, hb⟩; have n0_ := Aside0.mk (blk_below (g := gb147) (o := .cells #[.int .i64 0, .int .i64 0, .int .i64 0, .int .i64 0, .int .i64 0, .int .i64 0, .int .i64 0, .int .i64 0, .bool a2, .bool a3] 25 (0, 0)) (by (with_reducible repeat (first | refine blk_drewN ?_ _ | refine blk_drew ?_ | refine blk_alloc ?_ _)); exact BK147.out) hb); have n1_ := Aside0.mk (below_step (by repeat (first | (with_reducible first | exact HB.out | apply below_alloc | apply pw_below_drewN | apply below_drew1 | refine below_set ?_ GE147.out) | exact HB.out)) hb); clear BK147; clear HB; have BK147 := n0_; have HB := n1_; clear n0_ n1_; (try clear hb); (try clear hb2); (try clear hk); (try clear hi); have hcz146_0 : w145.cell? ⟨gb147, 0, none⟩ = some (.int .i64 0) := (blk_cell BK147.out 0).trans rfl; have hcz146_1 : w145.cell? ⟨gb147, 1, none⟩ = some (.int .i64 0) := (blk_cell BK147.out 1).trans rfl; have hcz146_2 : w145.cell? ⟨gb147, 2, none⟩ = some (.int .i64 0) := (blk_cell BK147.out 2).trans rfl; have hcz146_3 : w145.cell? ⟨gb147, 3, none⟩ = some (.int .i64 0) := (blk_cell BK147.out 3).trans rfl; have hcz146_4 : w145.cell? ⟨gb147, 4, none⟩ = some (.int .i64 0) := (blk_cell BK147.out 4).trans rfl; have hcz146_5 : w145.cell? ⟨gb147, 5, none⟩ = some (.int .i64 0) := (blk_cell BK147.out 5).trans rfl; have hcz146_6 : w145.cell? ⟨gb147, 6, none⟩ = some (.int .i64 0) := (blk_cell BK147.out 6).trans rfl; have hcz146_7 : w145.cell? ⟨gb147, 7, none⟩ = some (.int .i64 0) := (blk_cell BK147.out 7).trans rfl; have hcz146_8 : w145.cell? ⟨gb147, 8, none⟩ = some (.bool a2) := (blk_cell BK147.out 8).trans rfl; have hcz146_9 : w145.cell? ⟨gb147, 9, none⟩ = some (.bool a3) := (blk_cell BK147.out 9).trans rfl; have hfz146_0 := blk_frozen BK147.out 0; have hfz146_1 := blk_frozen BK147.out 1; have hfz146_2 := blk_frozen BK147.out 2; have hfz146_3 := blk_frozen BK147.out 3; have hfz146_4 := blk_frozen BK147.out 4; have hfz146_5 := blk_frozen BK147.out 5; have hfz146_6 := blk_frozen BK147.out 6; have hfz146_7 := blk_frozen BK147.out 7; have hfz146_8 := blk_frozen BK147.out 8; have hfz146_9 := blk_frozen BK147.out 9))
                        (try any_goals (exfalso; have h_ := ‹some undef = some (Value.bool _)›; revert h_; simp [undef]; done))
                        go_ret
                        exact ⟨by first | rfl | (simp [errW_none, errW_some] <;> rfl) | (simp [*, errW_none, errW_some] <;> rfl), by repeat (first | (with_reducible first | exact HB.out | apply below_alloc | apply pw_below_drewN | apply below_drew1 | refine below_set ?_ GE147.out) | exact HB.out)⟩
                    · skip
                      replace c140 := Bool.eq_false_iff.mpr c140
                      subst c140
                      rw [if_neg (show ¬ ((false == true) = true) by decide)] at H
                      exact absurd ((Option.some.inj H).trans HT.out) (by decide)
  · replace c6 := Bool.eq_false_iff.mpr c6
    subst c6
    rw [if_neg (show ¬ (false = true) by decide)] at H
    exact absurd ((Option.some.inj H).trans HT.out) (by decide)

/-- THE ONE PURE STATEMENT of parallaxlaw5_QuirksNeed: yours. -/
def parallaxlaw5_QuirksNeed.Pure : Prop := ∀ (a0 : Int) (a1 : Int) (a2 : Bool) (a3 : Bool), (Lit.int .u8 a0).wf = true → (Lit.int .u32 a1).wf = true → ∃ k, parallaxlaw5_QuirksNeed.f k a0 a1 a2 a3 = some true

end Go.Proofs.YtjnphebgbdjohaaDoor.PQuirksNeed
