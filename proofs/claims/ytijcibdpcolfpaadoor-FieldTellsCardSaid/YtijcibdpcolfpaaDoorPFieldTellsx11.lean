-- Written by a program of this session (wip/tools/myprint.sh)
import Derived.Test.YtijcibdpcolfpaaDoorPFieldTellsx0
import Derived.Test.YtijcibdpcolfpaaDoorPFieldTellsx1
import Derived.Test.YtijcibdpcolfpaaDoorPFieldTellsx3
import Derived.Test.YtijcibdpcolfpaaDoorPFieldTellsx4
import Derived.Test.YtijcibdpcolfpaaDoorPFieldTellsx7
import Derived.Test.YtijcibdpcolfpaaDoorPFieldTellsx8
import Derived.Test.YtijcibdpcolfpaaDoorPFieldTellsx9
import Derived.Test.YtijcibdpcolfpaaDoorPFieldTellsx10
namespace Go.Proofs.YtijcibdpcolfpaaDoor.PFieldTells
open Go.RowKit Go.Proofs.YtijcibdpcolfpaaDoorW.PrintWords Go.Proofs.YtijcibdpcolfpaaDoorW.PrintLast Go.Proofs.YtijcibdpcolfpaaDoorW.PrintMore
attribute [local go_sem] max2_int min2_int max_two min_two max_three min_three max_four min_four   -- for this text's walks alone
set_option linter.unusedVariables false
set_option linter.unusedSimpArgs false

attribute [local go_sem high] eqA25
/-! ### parallaxlaw9_FieldTells: function 3 -/
mutual
def parallaxlaw9_FieldTells.l0 : Nat → Int → Int → List ByteArray → Int → Int → ByteArray → ByteArray → Option (Bool)
  | 0, _, _, _, _, _, _, _ => none
  | k + 1, x2, x15, x51, x52, x53, x273000, x273001 => if x53 < x52 then (if 0 ≤ x53 then (if x53 < (x51.length : Int) then ((parallaxref4_Of.f k (([9, 12] : List Int))).bind fun t288 => ((parallaxref4_Of.f k (([10] : List Int))).bind fun t292 => ((some (([0, x15, Go.bits .and .u32 x2 1073741823, t288, t292] : List Int) : List Int)).bind fun y293 => (parallaxlaw9_FieldTells.l1 k x2 x15 (rdOf ByteArray.empty x51 x53) x51 x52 x53 y293 (y293.length : Int) 0 x273000 x273001)))) else (none)) else (none)) else ((field_Right.f k x273000 x273001).bind fun t313 => ((parallaxref9_Right.f k x273000 x273001).bind fun t314 => (if (t313 == t314) = true then ((field_Put.f (([(⟨x273000, x273001⟩ : S25), (⟨x273000, x273001⟩ : S25)] : List (S25)))).bind fun t318 => ((parallaxref9_Put.f k (([(⟨x273000, x273001⟩ : S25), (⟨x273000, x273001⟩ : S25)] : List (S25)))).bind fun t322 => (some (t318.toList == t322.toList)))) else (some false))))
def parallaxlaw9_FieldTells.l1 : Nat → Int → Int → ByteArray → List ByteArray → Int → Int → List Int → Int → Int → ByteArray → ByteArray → Option (Bool)
  | 0, _, _, _, _, _, _, _, _, _, _, _ => none
  | k + 1, x2, x15, x17, x51, x52, x53, x64, x65, x66, x273000, x273001 => if x66 < x65 then (if 0 ≤ x66 then (if x66 < (x64.length : Int) then ((field_Parse.f k x17 (rd x64 x66)).bind fun bt297 => ((parallaxref9_Parse.f k x17 (rd x64 x66)).bind fun bt302 => (if (!(bt297.1.toList == bt302.1.toList) || (!(bt297.2.1.toList == bt302.2.1.toList))) = true then (some false) else (if (bt297.2.2.1 != bt302.2.2.1) = true then (some false) else (if bt297.2.2.2 = bt302.2.2.2 then ((field_Goes.f x17 (rd x64 x66)).bind fun t307 => ((parallaxref9_Goes.f x17 (rd x64 x66)).bind fun t308 => (if (t307 != t308) = true then (some false) else (parallaxlaw9_FieldTells.l1 k x2 x15 x17 x51 x52 x53 x64 x65 (wrap64 (x66 + 1)) x273000 x273001)))) else (some false)))))) else (none)) else (none)) else ((field_Join.f x273000 x273001 x17).bind fun bt309 => ((parallaxref9_Join.f k x273000 x273001 x17).bind fun bt311 => (if (!(bt309.1.toList == bt311.1.toList) || (!(bt309.2.toList == bt311.2.toList))) = true then (some false) else (parallaxlaw9_FieldTells.l0 k x2 x15 x51 x52 (wrap64 (x53 + 1)) x273000 x273001))))
end
def parallaxlaw9_FieldTells.f (k : Nat) (a0 : ByteArray) (l1 : List Int) (a2 : Int) (a3 : Int) (a4 : Int) (a5 : Int) (a6_0 : ByteArray) (a6_1 : ByteArray) : Option (Bool) := (parallaxlaw9_known.f k).bind fun t273 => (if t273 = true then (if (a0.size : Int) > 80 then (some true) else (if (l1.length : Int) > 12 then (some true) else ((parallaxhelp_Fields.f k (([(⟨a6_0, a6_1⟩ : S25)] : List (S25)))).bind fun t277 => (if t277 = true then ((parallaxseat_Profile.f k a2 a3).bind fun t278 => ((parallaxlaw9_some.f k l1).bind fun t279 => ((parallaxseat_Field.f a4 a5).bind fun t280 => ((some (([a0, t279, t280] : List ByteArray) : List ByteArray)).bind fun y281 => (parallaxlaw9_FieldTells.l0 k a2 t278 y281 (y281.length : Int) 0 a6_0 a6_1))))) else (some true))))) else (some false))
theorem parallaxlaw9_FieldTells.mono_l : ∀ k, (∀ y0 y1 y2 y3 y4 y5 y6, LeO (parallaxlaw9_FieldTells.l0 k y0 y1 y2 y3 y4 y5 y6) (parallaxlaw9_FieldTells.l0 (k + 1) y0 y1 y2 y3 y4 y5 y6)) ∧ (∀ y0 y1 y2 y3 y4 y5 y6 y7 y8 y9 y10, LeO (parallaxlaw9_FieldTells.l1 k y0 y1 y2 y3 y4 y5 y6 y7 y8 y9 y10) (parallaxlaw9_FieldTells.l1 (k + 1) y0 y1 y2 y3 y4 y5 y6 y7 y8 y9 y10))
  | 0 => ⟨fun _ _ _ _ _ _ _ r h => by simp [parallaxlaw9_FieldTells.l0] at h, fun _ _ _ _ _ _ _ _ _ _ _ r h => by simp [parallaxlaw9_FieldTells.l1] at h⟩
  | k + 1 => by
    obtain ⟨ih0, ih1⟩ := parallaxlaw9_FieldTells.mono_l k
    refine ⟨?_, ?_⟩
    · intro y0 y1 y2 y3 y4 y5 y6
      unfold parallaxlaw9_FieldTells.l0
      repeat' first
      | (with_reducible exact ih0 _ _ _ _ _ _ _)
      | (with_reducible exact ih1 _ _ _ _ _ _ _ _ _ _ _)
      | (with_reducible exact field_Parse.mono _ _ _)
      | (with_reducible exact field_Right.mono _ _ _)
      | (with_reducible exact parallaxhelp_Fields.mono _ _)
      | (with_reducible exact parallaxlaw9_known.mono _)
      | (with_reducible exact parallaxlaw9_some.mono _ _)
      | (with_reducible exact parallaxref4_Of.mono _ _)
      | (with_reducible exact parallaxref9_Join.mono _ _ _ _)
      | (with_reducible exact parallaxref9_Parse.mono _ _ _)
      | (with_reducible exact parallaxref9_Put.mono _ _)
      | (with_reducible exact parallaxref9_Right.mono _ _ _)
      | (with_reducible exact parallaxseat_Profile.mono _ _ _)
      | (with_reducible exact LeO.refl _)
      | (with_reducible exact LeO.none _)
      | (with_reducible refine LeO.ite ?_ ?_)
      | (with_reducible refine LeO.bind ?_ (fun _ => ?_))
      | exact ih0 _ _ _ _ _ _ _
      | exact ih1 _ _ _ _ _ _ _ _ _ _ _
      | exact field_Parse.mono _ _ _
      | exact field_Right.mono _ _ _
      | exact parallaxhelp_Fields.mono _ _
      | exact parallaxlaw9_known.mono _
      | exact parallaxlaw9_some.mono _ _
      | exact parallaxref4_Of.mono _ _
      | exact parallaxref9_Join.mono _ _ _ _
      | exact parallaxref9_Parse.mono _ _ _
      | exact parallaxref9_Put.mono _ _
      | exact parallaxref9_Right.mono _ _ _
      | exact parallaxseat_Profile.mono _ _ _
      | exact LeO.none _
      | refine LeO.ite ?_ ?_
      | refine LeO.bind ?_ (fun _ => ?_)
    · intro y0 y1 y2 y3 y4 y5 y6 y7 y8 y9 y10
      unfold parallaxlaw9_FieldTells.l1
      repeat' first
      | (with_reducible exact ih0 _ _ _ _ _ _ _)
      | (with_reducible exact ih1 _ _ _ _ _ _ _ _ _ _ _)
      | (with_reducible exact field_Parse.mono _ _ _)
      | (with_reducible exact field_Right.mono _ _ _)
      | (with_reducible exact parallaxhelp_Fields.mono _ _)
      | (with_reducible exact parallaxlaw9_known.mono _)
      | (with_reducible exact parallaxlaw9_some.mono _ _)
      | (with_reducible exact parallaxref4_Of.mono _ _)
      | (with_reducible exact parallaxref9_Join.mono _ _ _ _)
      | (with_reducible exact parallaxref9_Parse.mono _ _ _)
      | (with_reducible exact parallaxref9_Put.mono _ _)
      | (with_reducible exact parallaxref9_Right.mono _ _ _)
      | (with_reducible exact parallaxseat_Profile.mono _ _ _)
      | (with_reducible exact LeO.refl _)
      | (with_reducible exact LeO.none _)
      | (with_reducible refine LeO.ite ?_ ?_)
      | (with_reducible refine LeO.bind ?_ (fun _ => ?_))
      | exact ih0 _ _ _ _ _ _ _
      | exact ih1 _ _ _ _ _ _ _ _ _ _ _
      | exact field_Parse.mono _ _ _
      | exact field_Right.mono _ _ _
      | exact parallaxhelp_Fields.mono _ _
      | exact parallaxlaw9_known.mono _
      | exact parallaxlaw9_some.mono _ _
      | exact parallaxref4_Of.mono _ _
      | exact parallaxref9_Join.mono _ _ _ _
      | exact parallaxref9_Parse.mono _ _ _
      | exact parallaxref9_Put.mono _ _
      | exact parallaxref9_Right.mono _ _ _
      | exact parallaxseat_Profile.mono _ _ _
      | exact LeO.none _
      | refine LeO.ite ?_ ?_
      | refine LeO.bind ?_ (fun _ => ?_)
theorem parallaxlaw9_FieldTells.mono : ∀ a0 a1 a2 a3 a4 a5 a6 a7 k, LeO (parallaxlaw9_FieldTells.f k a0 a1 a2 a3 a4 a5 a6 a7) (parallaxlaw9_FieldTells.f (k + 1) a0 a1 a2 a3 a4 a5 a6 a7) := by
  intro a0 a1 a2 a3 a4 a5 a6 a7 k
  obtain ⟨ih0, ih1⟩ := parallaxlaw9_FieldTells.mono_l k
  unfold parallaxlaw9_FieldTells.f
  repeat' first
      | (with_reducible exact ih0 _ _ _ _ _ _ _)
      | (with_reducible exact ih1 _ _ _ _ _ _ _ _ _ _ _)
      | (with_reducible exact field_Parse.mono _ _ _)
      | (with_reducible exact field_Right.mono _ _ _)
      | (with_reducible exact parallaxhelp_Fields.mono _ _)
      | (with_reducible exact parallaxlaw9_known.mono _)
      | (with_reducible exact parallaxlaw9_some.mono _ _)
      | (with_reducible exact parallaxref4_Of.mono _ _)
      | (with_reducible exact parallaxref9_Join.mono _ _ _ _)
      | (with_reducible exact parallaxref9_Parse.mono _ _ _)
      | (with_reducible exact parallaxref9_Put.mono _ _)
      | (with_reducible exact parallaxref9_Right.mono _ _ _)
      | (with_reducible exact parallaxseat_Profile.mono _ _ _)
      | (with_reducible exact LeO.refl _)
      | (with_reducible exact LeO.none _)
      | (with_reducible refine LeO.ite ?_ ?_)
      | (with_reducible refine LeO.bind ?_ (fun _ => ?_))
      | exact ih0 _ _ _ _ _ _ _
      | exact ih1 _ _ _ _ _ _ _ _ _ _ _
      | exact field_Parse.mono _ _ _
      | exact field_Right.mono _ _ _
      | exact parallaxhelp_Fields.mono _ _
      | exact parallaxlaw9_known.mono _
      | exact parallaxlaw9_some.mono _ _
      | exact parallaxref4_Of.mono _ _
      | exact parallaxref9_Join.mono _ _ _ _
      | exact parallaxref9_Parse.mono _ _ _
      | exact parallaxref9_Put.mono _ _
      | exact parallaxref9_Right.mono _ _ _
      | exact parallaxseat_Profile.mono _ _ _
      | exact LeO.none _
      | refine LeO.ite ?_ ?_
      | refine LeO.bind ?_ (fun _ => ?_)
def parallaxlaw9_FieldTells.T20 : Bool × List (List Nat × List Nat) := (true, [([], []), ([0], [0]), ([], []), ([2, 1], [2]), ([1, 3], [1, 3]), ([4, 3], [4]), ([5], [5]), ([5], [5]), ([6, 7, 5], [5, 6, 7]), ([8, 5, 5], [5, 8]), ([5], [5]), ([5], [5]), ([10, 11, 5], [5, 10, 11]), ([12, 9, 5], [5, 12]), ([9, 13, 5], [5, 9, 13]), ([5, 14], [5, 14]), ([15, 13, 0, 1, 2, 3, 4, 5, 6, 7, 8, 9, 10, 11, 12, 13, 14, 15], [15])])
def parallaxlaw9_FieldTells.B20 : List Nat := [0, 1, 0, 7, 15, 31, 63, 63, 255, 511, 63, 63, 3135, 8191, 16383, 32767, 65535]
theorem parallaxlaw9_FieldTells.tab20 : rtab .any (opsOf Tryd.f3 20) = parallaxlaw9_FieldTells.T20 := by kernel_rfl
theorem parallaxlaw9_FieldTells.bits20 : waitsOk parallaxlaw9_FieldTells.T20.2 parallaxlaw9_FieldTells.B20 = true := by kernel_rfl
set_option maxHeartbeats 8000000 in
set_option maxRecDepth 100000 in
theorem parallaxlaw9_FieldTells.calls (k : Nat) (a0 : ByteArray) (A1 : Option Addr) (c1 : Nat) (l1 : List Int) (a2 : Int) (a3 : Int) (a4 : Int) (a5 : Int) (a6_0 : ByteArray) (a6_1 : ByteArray) (r : Bool) (w : World) (hr1 : Kd.C (Kd.int .u8) w A1 l1.length l1) (hc1 : l1.length ≤ c1) (hq2 : (Lit.int .u32 a2).wf = true) (hq3 : (Lit.int .u8 a3).wf = true) (hq4 : (Lit.int .u8 a4).wf = true) (hq5 : (Lit.int .u8 a5).wf = true) (hT : r = true) (h : parallaxlaw9_FieldTells.f k a0 l1 a2 a3 a4 a5 a6_0 a6_1 = some r) :
    Calls Tryd.prog 3 #[.string a0, .slice A1 l1.length c1, .int .u32 a2, .int .u8 a3, .int .u8 a4, .int .u8 a5, .agg #[.string a6_0, .string a6_1]] w fun e w' => e = .returned (.bool r) ∧ Below w.heap.size w w' := by
  have hu25 := Tryd.underlying25
  have HQ2 := Aside0.mk hq2
  clear hq2
  have HQ3 := Aside0.mk hq3
  clear hq3
  have HQ4 := Aside0.mk hq4
  clear hq4
  have HQ5 := Aside0.mk hq5
  clear hq5
  have HT := Aside0.mk hT
  clear hT
  have HR1 := Aside0.mk hr1
  have HC1 := Aside0.mk hc1
  clear hr1 hc1
  have HB := Aside0.mk (Below.refl w.heap.size w)
  have H : ((parallaxlaw9_known.f k).bind fun t273 => (if t273 = true then (if (a0.size : Int) > 80 then (some true) else (if (l1.length : Int) > 12 then (some true) else ((parallaxhelp_Fields.f k (([(⟨a6_0, a6_1⟩ : S25)] : List (S25)))).bind fun t277 => (if t277 = true then ((parallaxseat_Profile.f k a2 a3).bind fun t278 => ((parallaxlaw9_some.f k l1).bind fun t279 => ((parallaxseat_Field.f a4 a5).bind fun t280 => ((some (([a0, t279, t280] : List ByteArray) : List ByteArray)).bind fun y281 => (parallaxlaw9_FieldTells.l0 k a2 t278 y281 (y281.length : Int) 0 a6_0 a6_1))))) else (some true))))) else (some false))) = some r := h
  clear h
  replace H := Option.bind_eq_some_iff.mp H
  obtain ⟨t273, A80, H⟩ := H
  (try dsimp only at H)
  have A8 := Aside0.mk A80
  clear A80
  by_cases c9 : t273 = true
  · subst c9
    rw [if_pos rfl] at H
    by_cases c10 : (a0.size : Int) > 80
    · rw [if_pos c10] at H
      have c10b0 : decide (80 < (a0.size : Int)) = true := decide_eq_true c10
      have c10b1 : decide (80 < a0.size) = true := decide_eq_true (by omega)
      clear c10
      obtain rfl := Option.some.inj H
      go_enter Tryd.func3, Tryd.ntmps3
      go_wp2_with (first | ((with_reducible refine gate_dst (N := 13) rfl ?_); (try (refine gate_guard (by rfl) ?_; dsimp only)); refine box_event ?hg (N := 13) ?hd (cs := #[.string a6_0, .string a6_1]) (t := 25) ?hr ?_; (case hd => rfl); (case hg => rfl); (case hr => first | (go_simp; done) | (go_simp; rfl)); intro gb272 hg w11 hbox hb; have n0_ := Aside0.mk (below_step (by repeat (first | (with_reducible first | exact HB.out | apply below_alloc | apply pw_below_drewN | apply below_drew1) | exact HB.out)) hb); have n1_ := Aside0.mk (hbox); have n2_ := Aside0.mk ((by rw [hg]; exact (below_size (by repeat (first | (with_reducible first | exact HB.out | apply below_alloc | apply pw_below_drewN | apply below_drew1) | exact HB.out))) : w.heap.size ≤ gb272)); have n3_ := Aside0.mk ((by rw [hg]; exact (below_size (by repeat (first | (with_reducible first | exact HB.out | apply below_alloc | apply pw_below_drewN | apply below_drew1) | exact HB.out))) : w.heap.size ≤ gb272)); clear HB; have HB := n0_; have BK272 := n1_; have GW272 := n2_; have GE272 := n3_; clear n0_ n1_ n2_ n3_; clear hb hbox hg) | ((with_reducible refine gate_callee (f := 7) rfl ?_); refine goesL_ (some 26) rfl rfl Tryd.func7 (by kernel_rfl) rfl #[] rfl (by (try simp only [List.map_toArray, List.map_cons, List.map_nil]); first | done | rfl | (simp only [List.length_drop, List.length_take]; rfl)) ?_; (with_reducible refine (parallaxlaw9_known.calls k  true _ rfl A8.out).mono ?_); rintro e w12 ⟨rfl, hb⟩; refine ⟨_, rfl, ?_⟩; have n0_ := Aside0.mk (blk_below (g := gb272) (o := .cells #[.string a6_0, .string a6_1] 25 (0, 0)) (by (with_reducible repeat (first | refine blk_drewN ?_ _ | refine blk_drew ?_ | refine blk_alloc ?_ _)); exact BK272.out) hb); have n1_ := Aside0.mk (below_step (by repeat (first | (with_reducible first | exact HB.out | apply below_alloc | apply pw_below_drewN | apply below_drew1 | refine below_set ?_ GE272.out) | exact HB.out)) hb); clear BK272; clear HB; have BK272 := n0_; have HB := n1_; clear n0_ n1_; (try clear hb); (try clear hb2); (try clear hk); (try clear hi)) | (go_at_call 7; (with_reducible refine (parallaxlaw9_known.calls k  true _ rfl A8.out).mono ?_); rintro e w12 ⟨rfl, hb⟩; have n0_ := Aside0.mk (blk_below (g := gb272) (o := .cells #[.string a6_0, .string a6_1] 25 (0, 0)) (by (with_reducible repeat (first | refine blk_drewN ?_ _ | refine blk_drew ?_ | refine blk_alloc ?_ _)); exact BK272.out) hb); have n1_ := Aside0.mk (below_step (by repeat (first | (with_reducible first | exact HB.out | apply below_alloc | apply pw_below_drewN | apply below_drew1 | refine below_set ?_ GE272.out) | exact HB.out)) hb); clear BK272; clear HB; have BK272 := n0_; have HB := n1_; clear n0_ n1_; (try clear hb); (try clear hb2); (try clear hk); (try clear hi)))
      go_ret
      exact ⟨by first | rfl | (simp [errW_none, errW_some] <;> rfl) | (simp [*, errW_none, errW_some] <;> rfl), by repeat (first | (with_reducible first | exact HB.out | apply below_alloc | apply pw_below_drewN | apply below_drew1 | refine below_set ?_ GE272.out) | exact HB.out)⟩
    · rw [if_neg c10] at H
      have c10b0 : decide (80 < (a0.size : Int)) = false := decide_eq_false c10
      have c10b1 : decide (80 < a0.size) = false := decide_eq_false (by omega)
      clear c10
      by_cases c13 : (l1.length : Int) > 12
      · rw [if_pos c13] at H
        have c13b0 : decide (12 < (l1.length : Int)) = true := decide_eq_true c13
        have c13b1 : decide (12 < l1.length) = true := decide_eq_true (by omega)
        clear c13
        obtain rfl := Option.some.inj H
        go_enter Tryd.func3, Tryd.ntmps3
        go_wp2_with (first | ((with_reducible refine gate_dst (N := 13) rfl ?_); (try (refine gate_guard (by rfl) ?_; dsimp only)); refine box_event ?hg (N := 13) ?hd (cs := #[.string a6_0, .string a6_1]) (t := 25) ?hr ?_; (case hd => rfl); (case hg => rfl); (case hr => first | (go_simp; done) | (go_simp; rfl)); intro gb272 hg w14 hbox hb; have n0_ := Aside0.mk (below_step (by repeat (first | (with_reducible first | exact HB.out | apply below_alloc | apply pw_below_drewN | apply below_drew1) | exact HB.out)) hb); have n1_ := Aside0.mk (hbox); have n2_ := Aside0.mk ((by rw [hg]; exact (below_size (by repeat (first | (with_reducible first | exact HB.out | apply below_alloc | apply pw_below_drewN | apply below_drew1) | exact HB.out))) : w.heap.size ≤ gb272)); have n3_ := Aside0.mk ((by rw [hg]; exact (below_size (by repeat (first | (with_reducible first | exact HB.out | apply below_alloc | apply pw_below_drewN | apply below_drew1) | exact HB.out))) : w.heap.size ≤ gb272)); clear HB; have HB := n0_; have BK272 := n1_; have GW272 := n2_; have GE272 := n3_; clear n0_ n1_ n2_ n3_; clear hb hbox hg) | ((with_reducible refine gate_callee (f := 7) rfl ?_); refine goesL_ (some 26) rfl rfl Tryd.func7 (by kernel_rfl) rfl #[] rfl (by (try simp only [List.map_toArray, List.map_cons, List.map_nil]); first | done | rfl | (simp only [List.length_drop, List.length_take]; rfl)) ?_; (with_reducible refine (parallaxlaw9_known.calls k  true _ rfl A8.out).mono ?_); rintro e w15 ⟨rfl, hb⟩; refine ⟨_, rfl, ?_⟩; have n0_ := Aside0.mk (blk_below (g := gb272) (o := .cells #[.string a6_0, .string a6_1] 25 (0, 0)) (by (with_reducible repeat (first | refine blk_drewN ?_ _ | refine blk_drew ?_ | refine blk_alloc ?_ _)); exact BK272.out) hb); have n1_ := Aside0.mk (below_step (by repeat (first | (with_reducible first | exact HB.out | apply below_alloc | apply pw_below_drewN | apply below_drew1 | refine below_set ?_ GE272.out) | exact HB.out)) hb); clear BK272; clear HB; have BK272 := n0_; have HB := n1_; clear n0_ n1_; (try clear hb); (try clear hb2); (try clear hk); (try clear hi)) | (go_at_call 7; (with_reducible refine (parallaxlaw9_known.calls k  true _ rfl A8.out).mono ?_); rintro e w15 ⟨rfl, hb⟩; have n0_ := Aside0.mk (blk_below (g := gb272) (o := .cells #[.string a6_0, .string a6_1] 25 (0, 0)) (by (with_reducible repeat (first | refine blk_drewN ?_ _ | refine blk_drew ?_ | refine blk_alloc ?_ _)); exact BK272.out) hb); have n1_ := Aside0.mk (below_step (by repeat (first | (with_reducible first | exact HB.out | apply below_alloc | apply pw_below_drewN | apply below_drew1 | refine below_set ?_ GE272.out) | exact HB.out)) hb); clear BK272; clear HB; have BK272 := n0_; have HB := n1_; clear n0_ n1_; (try clear hb); (try clear hb2); (try clear hk); (try clear hi)))
        go_ret
        exact ⟨by first | rfl | (simp [errW_none, errW_some] <;> rfl) | (simp [*, errW_none, errW_some] <;> rfl), by repeat (first | (with_reducible first | exact HB.out | apply below_alloc | apply pw_below_drewN | apply below_drew1 | refine below_set ?_ GE272.out) | exact HB.out)⟩
      · rw [if_neg c13] at H
        have c13b0 : decide (12 < (l1.length : Int)) = false := decide_eq_false c13
        have c13b1 : decide (12 < l1.length) = false := decide_eq_false (by omega)
        clear c13
        obtain ⟨y274, hy274⟩ : ∃ y_ : List (S25), y_ = (([(⟨a6_0, a6_1⟩ : S25)] : List (S25))) := ⟨_, rfl⟩
        replace H : ((parallaxhelp_Fields.f k y274).bind fun t277 => (if t277 = true then ((parallaxseat_Profile.f k a2 a3).bind fun t278 => ((parallaxlaw9_some.f k l1).bind fun t279 => ((parallaxseat_Field.f a4 a5).bind fun t280 => ((some (([a0, t279, t280] : List ByteArray) : List ByteArray)).bind fun y281 => (parallaxlaw9_FieldTells.l0 k a2 t278 y281 (y281.length : Int) 0 a6_0 a6_1))))) else (some true))) = some r := by first | (rw [hy274]; with_reducible exact H) | (have H2_ := (Option.bind_some _ _).symm.trans H; rw [hy274]; with_reducible exact H2_) | (have H2_ := (Option.bind_some _ _).symm.trans H; with_reducible exact H2_) | with_reducible exact H | (rw [hy274]; exact H) | exact H
        have Ny274 := Aside0.mk hy274
        clear hy274
        replace H := Option.bind_eq_some_iff.mp H
        obtain ⟨t277, A160, H⟩ := H
        (try dsimp only at H)
        have A16 := Aside0.mk A160
        clear A160
        by_cases c17 : t277 = true
        · subst c17
          rw [if_pos rfl] at H
          replace H := Option.bind_eq_some_iff.mp H
          obtain ⟨t278, A180, H⟩ := H
          (try dsimp only at H)
          have A18 := Aside0.mk A180
          clear A180
          replace H := Option.bind_eq_some_iff.mp H
          obtain ⟨t279, A190, H⟩ := H
          (try dsimp only at H)
          have A19 := Aside0.mk A190
          clear A190
          replace H := Option.bind_eq_some_iff.mp H
          obtain ⟨t280, A200, H⟩ := H
          (try dsimp only at H)
          have A20 := Aside0.mk A200
          clear A200
          obtain ⟨y281, hy281⟩ : ∃ y_ : List ByteArray, y_ = (([a0, t279, t280] : List ByteArray)) := ⟨_, rfl⟩
          replace H : (parallaxlaw9_FieldTells.l0 k a2 t278 y281 (y281.length : Int) 0 a6_0 a6_1) = some r := by first | (rw [hy281]; with_reducible exact H) | (have H2_ := (Option.bind_some _ _).symm.trans H; rw [hy281]; with_reducible exact H2_) | (have H2_ := (Option.bind_some _ _).symm.trans H; with_reducible exact H2_) | with_reducible exact H | (rw [hy281]; exact H) | exact H
          have Ny281 := Aside0.mk hy281
          clear hy281
          have H' := Aside0.mk H
          clear H
          go_enter Tryd.func3, Tryd.ntmps3
          go_wp2_with (first | ((with_reducible refine gate_dst (N := 13) rfl ?_); (try (refine gate_guard (by rfl) ?_; dsimp only)); refine box_event ?hg (N := 13) ?hd (cs := #[.string a6_0, .string a6_1]) (t := 25) ?hr ?_; (case hd => rfl); (case hg => rfl); (case hr => first | (go_simp; done) | (go_simp; rfl)); intro gb272 hg w21 hbox hb; have n0_ := Aside0.mk (below_step (by repeat (first | (with_reducible first | exact HB.out | apply below_alloc | apply pw_below_drewN | apply below_drew1) | exact HB.out)) hb); have n1_ := Aside0.mk (hbox); have n2_ := Aside0.mk ((by rw [hg]; exact (below_size (by repeat (first | (with_reducible first | exact HB.out | apply below_alloc | apply pw_below_drewN | apply below_drew1) | exact HB.out))) : w.heap.size ≤ gb272)); have n3_ := Aside0.mk ((by rw [hg]; exact (below_size (by repeat (first | (with_reducible first | exact HB.out | apply below_alloc | apply pw_below_drewN | apply below_drew1) | exact HB.out))) : w.heap.size ≤ gb272)); clear HB; have HB := n0_; have BK272 := n1_; have GW272 := n2_; have GE272 := n3_; clear n0_ n1_ n2_ n3_; clear hb hbox hg) | ((with_reducible refine gate_callee (f := 7) rfl ?_); refine goesL_ (some 26) rfl rfl Tryd.func7 (by kernel_rfl) rfl #[] rfl (by (try simp only [List.map_toArray, List.map_cons, List.map_nil]); first | done | rfl | (simp only [List.length_drop, List.length_take]; rfl)) ?_; (with_reducible refine (parallaxlaw9_known.calls k  true _ rfl A8.out).mono ?_); rintro e w22 ⟨rfl, hb⟩; refine ⟨_, rfl, ?_⟩; have n0_ := Aside0.mk (blk_below (g := gb272) (o := .cells #[.string a6_0, .string a6_1] 25 (0, 0)) (by (with_reducible repeat (first | refine blk_drewN ?_ _ | refine blk_drew ?_ | refine blk_alloc ?_ _)); exact BK272.out) hb); have n1_ := Aside0.mk (below_step (by repeat (first | (with_reducible first | exact HB.out | apply below_alloc | apply pw_below_drewN | apply below_drew1 | refine below_set ?_ GE272.out) | exact HB.out)) hb); clear BK272; clear HB; have BK272 := n0_; have HB := n1_; clear n0_ n1_; (try clear hb); (try clear hb2); (try clear hk); (try clear hi); have hcz23_0 : w22.cell? ⟨gb272, 0, none⟩ = some (.string a6_0) := (blk_cell BK272.out 0).trans rfl; have hcz23_1 : w22.cell? ⟨gb272, 1, none⟩ = some (.string a6_1) := (blk_cell BK272.out 1).trans rfl; have hfz23_0 := blk_frozen BK272.out 0; have hfz23_1 := blk_frozen BK272.out 1) | ((with_reducible refine gate_dst (N := 38) rfl ?_); (try (refine gate_guard (by rfl) ?_; dsimp only)); refine Kd.R_lit k25 _ 25 ?hg (N := 38) ?hd (xs := ([(⟨a6_0, a6_1⟩ : S25)] : List (S25))) (inner := [.string a6_0, .string a6_1]) (ok := fun _ => True) (okp := fun _ => True) ?hr ?hp (fun _ hk => hk) trivial (Below.refl _ _) (Nat.le_refl _) (by simp) ?_; (case hd => rfl); (case hg => rfl); (case hr => first | (go_simp; done) | (go_simp; rfl)); (case hp => exact (Reps.c2 (show Kd.M k25 _ _ _ (⟨a6_0, a6_1⟩ : S25) [.string a6_0, .string a6_1] from (k25_mkM _ _ _ (⟨a6_0, a6_1⟩ : S25) )) (Reps.none _ _))); intro v275 w24 ho25 hb hg_ hnew_; clear hg_ hnew_; (first | rw [← Ny274.out] at ho25 | (simp only [Int.reduceToNat] at ho25; rw [← Ny274.out] at ho25)); have n0_ := Aside0.mk (Kd.R_lower (Kd.R_newB ho25 (g := gb272) (o := .cells #[.string a6_0, .string a6_1] 25 (0, 0)) (by (with_reducible repeat (first | refine blk_drewN ?_ _ | refine blk_drew ?_ | refine blk_alloc ?_ _)); exact BK272.out)) (below_size (by repeat (first | (with_reducible first | exact HB.out | apply below_alloc | apply pw_below_drewN | apply below_drew1 | refine below_set ?_ GE272.out) | exact HB.out)))); have n1_ := Aside0.mk (blk_below (g := gb272) (o := .cells #[.string a6_0, .string a6_1] 25 (0, 0)) (by (with_reducible repeat (first | refine blk_drewN ?_ _ | refine blk_drew ?_ | refine blk_alloc ?_ _)); exact BK272.out) hb); have n2_ := Aside0.mk (below_step (by repeat (first | (with_reducible first | exact HB.out | apply below_alloc | apply pw_below_drewN | apply below_drew1 | refine below_set ?_ GE272.out) | exact HB.out)) hb); clear BK272; clear HB; have HO276 := n0_; have BK272 := n1_; have HB := n2_; clear n0_ n1_ n2_; clear hb ho25; obtain ⟨Ao26, co26, eo26⟩ := Kd.R_slice HO276.out; subst eo26) | (go_at_call 8; (with_reducible refine (parallaxhelp_Fields.calls k _ _ y274 true _ ?side1 ?side2 A16.out).mono ?_); (case side1 => repeat (first | exact (Kd.R_reads' HO276.out).2.2 | (with_reducible refine Kd.C_alloc ?_ _) | (with_reducible refine Kd.C_drewN ?_ _) | (with_reducible refine Kd.C_drew ?_))); (case side2 => exact (Kd.R_reads' HO276.out).2.1); rintro e w' ⟨rfl, ⟨nd, rfl⟩⟩) | ((with_reducible refine gate_callee (f := 9) rfl ?_); refine goesL_ (some 44) rfl rfl Tryd.func9 (by kernel_rfl) rfl #[.int .u32 a2, .int .u8 a3] rfl (by (try simp only [List.map_toArray, List.map_cons, List.map_nil]); first | done | rfl | (simp only [List.length_drop, List.length_take]; rfl)) ?_; (with_reducible refine (parallaxseat_Profile.calls k a2 a3 t278 _ A18.out).mono ?_); rintro e w27 ⟨rfl, hb⟩; refine ⟨_, rfl, ?_⟩; have n0_ := Aside0.mk (Kd.R_below (by (with_reducible repeat (first | apply Kd.R_alloc | apply Kd.R_drewN | apply Kd.R_drew)); exact HO276.out) hb); have n1_ := Aside0.mk (blk_below (g := gb272) (o := .cells #[.string a6_0, .string a6_1] 25 (0, 0)) (by (with_reducible repeat (first | refine blk_drewN ?_ _ | refine blk_drew ?_ | refine blk_alloc ?_ _)); exact BK272.out) hb); have n2_ := Aside0.mk (below_step (by repeat (first | (with_reducible first | exact HB.out | apply below_alloc | apply pw_below_drewN | apply below_drew1 | refine below_set ?_ GE272.out) | exact HB.out)) hb); clear HO276; clear BK272; clear HB; have HO276 := n0_; have BK272 := n1_; have HB := n2_; clear n0_ n1_ n2_; (try clear hb); (try clear hb2); (try clear hk); (try clear hi)) | ((with_reducible refine gate_callee (f := 10) rfl ?_); refine goesL_ (some 47) rfl rfl Tryd.func10 (by kernel_rfl) rfl #[.slice A1 l1.length c1] rfl (by (try simp only [List.map_toArray, List.map_cons, List.map_nil]); first | done | rfl | (simp only [List.length_drop, List.length_take]; rfl)) ?_; (with_reducible refine (parallaxlaw9_some.calls k _ _ l1 t279 _ ?side1 ?side2 A19.out).mono ?_); (case side1 => repeat (first | exact (Kd.C_below HR1.out HB.out) | (with_reducible refine Kd.C_alloc ?_ _) | (with_reducible refine Kd.C_drewN ?_ _) | (with_reducible refine Kd.C_drew ?_))); (case side2 => exact HC1.out); rintro e w28 ⟨rfl, hb⟩; refine ⟨_, rfl, ?_⟩; have n0_ := Aside0.mk (Kd.R_below (by (with_reducible repeat (first | apply Kd.R_alloc | apply Kd.R_drewN | apply Kd.R_drew)); exact HO276.out) hb); have n1_ := Aside0.mk (blk_below (g := gb272) (o := .cells #[.string a6_0, .string a6_1] 25 (0, 0)) (by (with_reducible repeat (first | refine blk_drewN ?_ _ | refine blk_drew ?_ | refine blk_alloc ?_ _)); exact BK272.out) hb); have n2_ := Aside0.mk (below_step (by repeat (first | (with_reducible first | exact HB.out | apply below_alloc | apply pw_below_drewN | apply below_drew1 | refine below_set ?_ GE272.out) | exact HB.out)) hb); clear HO276; clear BK272; clear HB; have HO276 := n0_; have BK272 := n1_; have HB := n2_; clear n0_ n1_ n2_; (try clear hb); (try clear hb2); (try clear hk); (try clear hi)) | ((with_reducible refine gate_callee (f := 11) rfl ?_); refine goesL_ (some 50) rfl rfl Tryd.func11 (by kernel_rfl) rfl #[.int .u8 a4, .int .u8 a5] rfl (by (try simp only [List.map_toArray, List.map_cons, List.map_nil]); first | done | rfl | (simp only [List.length_drop, List.length_take]; rfl)) ?_; (with_reducible refine (parallaxseat_Field.calls a4 a5 t280 _ A20.out).mono ?_); rintro e w29 ⟨rfl, hb⟩; refine ⟨_, rfl, ?_⟩; have n0_ := Aside0.mk (Kd.R_below (by (with_reducible repeat (first | apply Kd.R_alloc | apply Kd.R_drewN | apply Kd.R_drew)); exact HO276.out) hb); have n1_ := Aside0.mk (blk_below (g := gb272) (o := .cells #[.string a6_0, .string a6_1] 25 (0, 0)) (by (with_reducible repeat (first | refine blk_drewN ?_ _ | refine blk_drew ?_ | refine blk_alloc ?_ _)); exact BK272.out) hb); have n2_ := Aside0.mk (below_step (by repeat (first | (with_reducible first | exact HB.out | apply below_alloc | apply pw_below_drewN | apply below_drew1 | refine below_set ?_ GE272.out) | exact HB.out)) hb); clear HO276; clear BK272; clear HB; have HO276 := n0_; have BK272 := n1_; have HB := n2_; clear n0_ n1_ n2_; (try clear hb); (try clear hb2); (try clear hk); (try clear hi)) | ((with_reducible refine gate_dst (N := 51) rfl ?_); (try (refine gate_guard (by rfl) ?_; dsimp only)); refine Kd.R_lit Kd.string _ 9 ?hg (N := 51) ?hd (xs := ([a0, t279, t280] : List ByteArray)) (inner := [.string a0, .string t279, .string t280]) (ok := fun _ => True) (okp := fun _ => True) ?hr ?hp (fun _ hk => hk) trivial (Below.refl _ _) (Nat.le_refl _) (by simp) ?_; (case hd => rfl); (case hg => rfl); (case hr => first | (go_simp; done) | (go_simp; rfl)); (case hp => exact (Reps.one (show Kd.M Kd.string _ _ _ a0 [.string a0] from rfl) (Reps.one (show Kd.M Kd.string _ _ _ t279 [.string t279] from rfl) (Reps.one (show Kd.M Kd.string _ _ _ t280 [.string t280] from rfl) (Reps.none _ _))))); intro v282 w30 ho31 hb hg_ hnew_; clear hg_ hnew_; (first | rw [← Ny281.out] at ho31 | (simp only [Int.reduceToNat] at ho31; rw [← Ny281.out] at ho31)); have n0_ := Aside0.mk (Kd.R_below (by (with_reducible repeat (first | apply Kd.R_alloc | apply Kd.R_drewN | apply Kd.R_drew)); exact HO276.out) hb); have n1_ := Aside0.mk (Kd.R_lower ho31 (below_size (by repeat (first | (with_reducible first | exact HB.out | apply below_alloc | apply pw_below_drewN | apply below_drew1 | refine below_set ?_ GE272.out) | exact HB.out)))); have n2_ := Aside0.mk (blk_below (g := gb272) (o := .cells #[.string a6_0, .string a6_1] 25 (0, 0)) (by (with_reducible repeat (first | refine blk_drewN ?_ _ | refine blk_drew ?_ | refine blk_alloc ?_ _)); exact BK272.out) hb); have n3_ := Aside0.mk (below_step (by repeat (first | (with_reducible first | exact HB.out | apply below_alloc | apply pw_below_drewN | apply below_drew1 | refine below_set ?_ GE272.out) | exact HB.out)) hb); clear HO276; clear BK272; clear HB; have HO276 := n0_; have HO283 := n1_; have BK272 := n2_; have HB := n3_; clear n0_ n1_ n2_ n3_; clear hb ho31; obtain ⟨Ao32, co32, eo32⟩ := Kd.R_slice HO283.out; subst eo32) | (go_at_call 7; (with_reducible refine (parallaxlaw9_known.calls k  true _ rfl A8.out).mono ?_); rintro e w22 ⟨rfl, hb⟩; have n0_ := Aside0.mk (blk_below (g := gb272) (o := .cells #[.string a6_0, .string a6_1] 25 (0, 0)) (by (with_reducible repeat (first | refine blk_drewN ?_ _ | refine blk_drew ?_ | refine blk_alloc ?_ _)); exact BK272.out) hb); have n1_ := Aside0.mk (below_step (by repeat (first | (with_reducible first | exact HB.out | apply below_alloc | apply pw_below_drewN | apply below_drew1 | refine below_set ?_ GE272.out) | exact HB.out)) hb); clear BK272; clear HB; have BK272 := n0_; have HB := n1_; clear n0_ n1_; (try clear hb); (try clear hb2); (try clear hk); (try clear hi); have hcz23_0 : w22.cell? ⟨gb272, 0, none⟩ = some (.string a6_0) := (blk_cell BK272.out 0).trans rfl; have hcz23_1 : w22.cell? ⟨gb272, 1, none⟩ = some (.string a6_1) := (blk_cell BK272.out 1).trans rfl; have hfz23_0 := blk_frozen BK272.out 0; have hfz23_1 := blk_frozen BK272.out 1) | (go_at_call 9; (with_reducible refine (parallaxseat_Profile.calls k a2 a3 t278 _ A18.out).mono ?_); rintro e w27 ⟨rfl, hb⟩; have n0_ := Aside0.mk (Kd.R_below (by (with_reducible repeat (first | apply Kd.R_alloc | apply Kd.R_drewN | apply Kd.R_drew)); exact HO276.out) hb); have n1_ := Aside0.mk (blk_below (g := gb272) (o := .cells #[.string a6_0, .string a6_1] 25 (0, 0)) (by (with_reducible repeat (first | refine blk_drewN ?_ _ | refine blk_drew ?_ | refine blk_alloc ?_ _)); exact BK272.out) hb); have n2_ := Aside0.mk (below_step (by repeat (first | (with_reducible first | exact HB.out | apply below_alloc | apply pw_below_drewN | apply below_drew1 | refine below_set ?_ GE272.out) | exact HB.out)) hb); clear HO276; clear BK272; clear HB; have HO276 := n0_; have BK272 := n1_; have HB := n2_; clear n0_ n1_ n2_; (try clear hb); (try clear hb2); (try clear hk); (try clear hi)) | (go_at_call 10; (with_reducible refine (parallaxlaw9_some.calls k _ _ l1 t279 _ ?side1 ?side2 A19.out).mono ?_); (case side1 => repeat (first | exact (Kd.C_below HR1.out HB.out) | (with_reducible refine Kd.C_alloc ?_ _) | (with_reducible refine Kd.C_drewN ?_ _) | (with_reducible refine Kd.C_drew ?_))); (case side2 => exact HC1.out); rintro e w28 ⟨rfl, hb⟩; have n0_ := Aside0.mk (Kd.R_below (by (with_reducible repeat (first | apply Kd.R_alloc | apply Kd.R_drewN | apply Kd.R_drew)); exact HO276.out) hb); have n1_ := Aside0.mk (blk_below (g := gb272) (o := .cells #[.string a6_0, .string a6_1] 25 (0, 0)) (by (with_reducible repeat (first | refine blk_drewN ?_ _ | refine blk_drew ?_ | refine blk_alloc ?_ _)); exact BK272.out) hb); have n2_ := Aside0.mk (below_step (by repeat (first | (with_reducible first | exact HB.out | apply below_alloc | apply pw_below_drewN | apply below_drew1 | refine below_set ?_ GE272.out) | exact HB.out)) hb); clear HO276; clear BK272; clear HB; have HO276 := n0_; have BK272 := n1_; have HB := n2_; clear n0_ n1_ n2_; (try clear hb); (try clear hb2); (try clear hk); (try clear hi)) | (go_at_call 11; (with_reducible refine (parallaxseat_Field.calls a4 a5 t280 _ A20.out).mono ?_); rintro e w29 ⟨rfl, hb⟩; have n0_ := Aside0.mk (Kd.R_below (by (with_reducible repeat (first | apply Kd.R_alloc | apply Kd.R_drewN | apply Kd.R_drew)); exact HO276.out) hb); have n1_ := Aside0.mk (blk_below (g := gb272) (o := .cells #[.string a6_0, .string a6_1] 25 (0, 0)) (by (with_reducible repeat (first | refine blk_drewN ?_ _ | refine blk_drew ?_ | refine blk_alloc ?_ _)); exact BK272.out) hb); have n2_ := Aside0.mk (below_step (by repeat (first | (with_reducible first | exact HB.out | apply below_alloc | apply pw_below_drewN | apply below_drew1 | refine below_set ?_ GE272.out) | exact HB.out)) hb); clear HO276; clear BK272; clear HB; have HO276 := n0_; have BK272 := n1_; have HB := n2_; clear n0_ n1_ n2_; (try clear hb); (try clear hb2); (try clear hk); (try clear hi)))
          go_loopg [53] k (fun kq v53 w' => ∃ (x53_1 : Int), v53 = .int .i64 x53_1 ∧ Aside0 (parallaxlaw9_FieldTells.l0 kq a2 t278 y281 (y281.length : Int) x53_1 a6_0 a6_1 = some r) ∧ Aside0 (kq ≤ k) ∧ Aside0 (Kd.R Kd.string 9 w' w.heap.size (fun _ => True) (.slice Ao32 y281.length co32) y281) ∧ Aside0 (w'.heap[gb272]? = some (.cells #[.string a6_0, .string a6_1] 25 (0, 0))) ∧ Aside0 (Below w.heap.size w w'))
          case atStart => exact ⟨(0), (by first | rfl | (simp; done) | (simp [*]; done)), H', ⟨Nat.le_refl _⟩, ⟨by (with_reducible repeat (first | apply Kd.R_alloc | apply Kd.R_drewN | apply Kd.R_drew)); exact HO283.out⟩, ⟨by (with_reducible repeat (first | refine blk_drewN ?_ _ | refine blk_drew ?_ | refine blk_alloc ?_ _)); exact BK272.out⟩, ⟨by repeat (first | (with_reducible first | exact HB.out | apply below_alloc | apply pw_below_drewN | apply below_drew1 | refine below_set ?_ GE272.out) | exact HB.out)⟩⟩
          case round =>
            clear H'
            try clear c1
            try clear c2
            try clear p2
            try clear q2
            try clear c3
            try clear q3
            try clear q4
            try clear q5
            try clear c7
            try clear c9
            try clear c10
            try clear c10b0
            try clear c10b1
            try clear c11
            try clear c13
            try clear c13b0
            try clear c13b1
            try clear c17
            try clear hcz23_0
            try clear hcz23_1
            try clear hfz23_0
            try clear hfz23_1
            obtain ⟨x53_1, rfl, HA, HK1, HO_51, BK272, HB⟩ := hrel
            cases gk with
            | zero => exact absurd HA.out (by simp [parallaxlaw9_FieldTells.l0])
            | succ k1 =>
              have H := HA.out
              clear HA
              simp only [parallaxlaw9_FieldTells.l0] at H
              by_cases c33 : x53_1 < (y281.length : Int)
              · rw [if_pos c33] at H
                have c33b0 : decide (x53_1 < (y281.length : Int)) = true := decide_eq_true c33
                clear c33
                by_cases c34 : 0 ≤ x53_1
                · rw [if_pos c34] at H
                  have c34b0 : decide (0 ≤ x53_1) = true := decide_eq_true c34
                  clear c34
                  by_cases c35 : x53_1 < (y281.length : Int)
                  · rw [if_pos c35] at H
                    have c35b0 : decide (x53_1 < (y281.length : Int)) = true := decide_eq_true c35
                    clear c35
                    obtain ⟨y285, hy285⟩ : ∃ y_ : List Int, y_ = (([9, 12] : List Int)) := ⟨_, rfl⟩
                    replace H : ((parallaxref4_Of.f k1 y285).bind fun t288 => ((parallaxref4_Of.f k1 (([10] : List Int))).bind fun t292 => ((some (([0, t278, Go.bits .and .u32 a2 1073741823, t288, t292] : List Int) : List Int)).bind fun y293 => (parallaxlaw9_FieldTells.l1 k1 a2 t278 (rdOf ByteArray.empty y281 x53_1) y281 (y281.length : Int) x53_1 y293 (y293.length : Int) 0 a6_0 a6_1)))) = some r := by first | (rw [hy285]; with_reducible exact H) | (have H2_ := (Option.bind_some _ _).symm.trans H; rw [hy285]; with_reducible exact H2_) | (have H2_ := (Option.bind_some _ _).symm.trans H; with_reducible exact H2_) | with_reducible exact H | (rw [hy285]; exact H) | exact H
                    have Ny285 := Aside0.mk hy285
                    clear hy285
                    replace H := Option.bind_eq_some_iff.mp H
                    obtain ⟨t288, A360, H⟩ := H
                    (try dsimp only at H)
                    have A36 := Aside0.mk A360
                    clear A360
                    obtain ⟨y289, hy289⟩ : ∃ y_ : List Int, y_ = (([10] : List Int)) := ⟨_, rfl⟩
                    replace H : ((parallaxref4_Of.f k1 y289).bind fun t292 => ((some (([0, t278, Go.bits .and .u32 a2 1073741823, t288, t292] : List Int) : List Int)).bind fun y293 => (parallaxlaw9_FieldTells.l1 k1 a2 t278 (rdOf ByteArray.empty y281 x53_1) y281 (y281.length : Int) x53_1 y293 (y293.length : Int) 0 a6_0 a6_1))) = some r := by first | (rw [hy289]; with_reducible exact H) | (have H2_ := (Option.bind_some _ _).symm.trans H; rw [hy289]; with_reducible exact H2_) | (have H2_ := (Option.bind_some _ _).symm.trans H; with_reducible exact H2_) | with_reducible exact H | (rw [hy289]; exact H) | exact H
                    have Ny289 := Aside0.mk hy289
                    clear hy289
                    replace H := Option.bind_eq_some_iff.mp H
                    obtain ⟨t292, A370, H⟩ := H
                    (try dsimp only at H)
                    have A37 := Aside0.mk A370
                    clear A370
                    obtain ⟨y293, hy293⟩ : ∃ y_ : List Int, y_ = (([0, t278, Go.bits .and .u32 a2 1073741823, t288, t292] : List Int)) := ⟨_, rfl⟩
                    replace H : (parallaxlaw9_FieldTells.l1 k1 a2 t278 (rdOf ByteArray.empty y281 x53_1) y281 (y281.length : Int) x53_1 y293 (y293.length : Int) 0 a6_0 a6_1) = some r := by first | (rw [hy293]; with_reducible exact H) | (have H2_ := (Option.bind_some _ _).symm.trans H; rw [hy293]; with_reducible exact H2_) | (have H2_ := (Option.bind_some _ _).symm.trans H; with_reducible exact H2_) | with_reducible exact H | (rw [hy293]; exact H) | exact H
                    have Ny293 := Aside0.mk hy293
                    clear hy293
                    have H' := Aside0.mk H
                    clear H
                    have p284 : 0 ≤ (x53_1 : Int) := of_decide_eq_true (by first | (with_reducible assumption) | assumption)
                    have q284 : x53_1 < (y281.length : Int) := of_decide_eq_true (by first | (with_reducible assumption) | assumption)
                    obtain ⟨ad284, e284, hx284_0⟩ := Kd.at_string (Kd.R_reads' HO_51.out).2.2 x53_1 p284 q284
                    cases e284
                    replace p284 := eq_true p284
                    replace q284 := eq_true q284
                    go_wp2_with (first | ((with_reducible refine gate_dst (N := 60) rfl ?_); (try (refine gate_guard (by rfl) ?_; dsimp only)); refine Kd.R_lit (Kd.int .i64) _ 3 ?hg (N := 60) ?hd (xs := ([9, 12] : List Int)) (inner := [.int .i64 9, .int .i64 12]) (ok := fun _ => True) (okp := fun _ => True) ?hr ?hp (fun _ hk => hk) trivial (Below.refl _ _) (Nat.le_refl _) (by simp) ?_; (case hd => rfl); (case hg => rfl); (case hr => first | (go_simp; done) | (go_simp; rfl)); (case hp => exact (Reps.one (show Kd.M (Kd.int .i64) _ _ _ 9 [.int .i64 9] from rfl) (Reps.one (show Kd.M (Kd.int .i64) _ _ _ 12 [.int .i64 12] from rfl) (Reps.none _ _)))); intro v286 w38 ho39 hb hg_ hnew_; clear hg_ hnew_; (first | rw [← Ny285.out] at ho39 | (simp only [Int.reduceToNat] at ho39; rw [← Ny285.out] at ho39)); have n0_ := Aside0.mk (Kd.R_below (by (with_reducible repeat (first | apply Kd.R_alloc | apply Kd.R_drewN | apply Kd.R_drew)); exact HO_51.out) hb); have n1_ := Aside0.mk (Kd.R_lower ho39 (below_size (by repeat (first | (with_reducible first | exact HB.out | apply below_alloc | apply pw_below_drewN | apply below_drew1 | refine below_set ?_ GE272.out) | exact HB.out)))); have n2_ := Aside0.mk (blk_below (g := gb272) (o := .cells #[.string a6_0, .string a6_1] 25 (0, 0)) (by (with_reducible repeat (first | refine blk_drewN ?_ _ | refine blk_drew ?_ | refine blk_alloc ?_ _)); exact BK272.out) hb); have n3_ := Aside0.mk (below_step (by repeat (first | (with_reducible first | exact HB.out | apply below_alloc | apply pw_below_drewN | apply below_drew1 | refine below_set ?_ GE272.out) | exact HB.out)) hb); clear HO_51; clear BK272; clear HB; have HO_51 := n0_; have HO287 := n1_; have BK272 := n2_; have HB := n3_; clear n0_ n1_ n2_ n3_; clear hb ho39; obtain ⟨Ao40, co40, eo40⟩ := Kd.R_slice HO287.out; subst eo40) | ((with_reducible refine gate_callee (f := 12) rfl ?_); refine goesL_ (some 61) rfl rfl Tryd.func12 (by kernel_rfl) rfl #[.slice Ao40 y285.length co40] rfl (by (try simp only [List.map_toArray, List.map_cons, List.map_nil]); first | done | rfl | (simp only [List.length_drop, List.length_take]; rfl)) ?_; (with_reducible refine (parallaxref4_Of.calls k1 _ _ y285 t288 _ ?side1 ?side2 A36.out).mono ?_); (case side1 => repeat (first | exact (Kd.R_reads' HO287.out).2.2 | (with_reducible refine Kd.C_alloc ?_ _) | (with_reducible refine Kd.C_drewN ?_ _) | (with_reducible refine Kd.C_drew ?_))); (case side2 => exact (Kd.R_reads' HO287.out).2.1); rintro e w' ⟨rfl, ⟨nd, rfl⟩⟩; refine ⟨_, rfl, ?_⟩) | ((with_reducible refine gate_dst (N := 62) rfl ?_); (try (refine gate_guard (by rfl) ?_; dsimp only)); refine Kd.R_lit (Kd.int .i64) _ 3 ?hg (N := 62) ?hd (xs := ([10] : List Int)) (inner := [.int .i64 10]) (ok := fun _ => True) (okp := fun _ => True) ?hr ?hp (fun _ hk => hk) trivial (Below.refl _ _) (Nat.le_refl _) (by simp) ?_; (case hd => rfl); (case hg => rfl); (case hr => first | (go_simp; done) | (go_simp; rfl)); (case hp => exact (Reps.one (show Kd.M (Kd.int .i64) _ _ _ 10 [.int .i64 10] from rfl) (Reps.none _ _))); intro v290 w41 ho42 hb hg_ hnew_; clear hg_ hnew_; (first | rw [← Ny289.out] at ho42 | (simp only [Int.reduceToNat] at ho42; rw [← Ny289.out] at ho42)); have n0_ := Aside0.mk (Kd.R_below (by (with_reducible repeat (first | apply Kd.R_alloc | apply Kd.R_drewN | apply Kd.R_drew)); exact HO_51.out) hb); have n1_ := Aside0.mk (Kd.R_elder' (by (with_reducible repeat (first | apply Kd.R_alloc | apply Kd.R_drewN | apply Kd.R_drew)); exact HO287.out) (Kd.R_base ho42) hb); have n2_ := Aside0.mk (Kd.R_lower (Kd.R_new' ho42 (Kd.R_lt (by (with_reducible repeat (first | apply Kd.R_alloc | apply Kd.R_drewN | apply Kd.R_drew)); exact HO287.out))) (below_size (by repeat (first | (with_reducible first | exact HB.out | apply below_alloc | apply pw_below_drewN | apply below_drew1 | refine below_set ?_ GE272.out) | exact HB.out)))); have n3_ := Aside0.mk (blk_below (g := gb272) (o := .cells #[.string a6_0, .string a6_1] 25 (0, 0)) (by (with_reducible repeat (first | refine blk_drewN ?_ _ | refine blk_drew ?_ | refine blk_alloc ?_ _)); exact BK272.out) hb); have n4_ := Aside0.mk (below_step (by repeat (first | (with_reducible first | exact HB.out | apply below_alloc | apply pw_below_drewN | apply below_drew1 | refine below_set ?_ GE272.out) | exact HB.out)) hb); clear HO_51; clear HO287; clear BK272; clear HB; have HO_51 := n0_; have HO287 := n1_; have HO291 := n2_; have BK272 := n3_; have HB := n4_; clear n0_ n1_ n2_ n3_ n4_; clear hb ho42; obtain ⟨Ao43, co43, eo43⟩ := Kd.R_slice HO291.out; subst eo43) | ((with_reducible refine gate_callee (f := 12) rfl ?_); refine goesL_ (some 63) rfl rfl Tryd.func12 (by kernel_rfl) rfl #[.slice Ao43 y289.length co43] rfl (by (try simp only [List.map_toArray, List.map_cons, List.map_nil]); first | done | rfl | (simp only [List.length_drop, List.length_take]; rfl)) ?_; (with_reducible refine (parallaxref4_Of.calls k1 _ _ y289 t292 _ ?side1 ?side2 A37.out).mono ?_); (case side1 => repeat (first | exact (Kd.R_reads' HO291.out).2.2 | (with_reducible refine Kd.C_alloc ?_ _) | (with_reducible refine Kd.C_drewN ?_ _) | (with_reducible refine Kd.C_drew ?_))); (case side2 => exact (Kd.R_reads' HO291.out).2.1); rintro e w' ⟨rfl, ⟨nd, rfl⟩⟩; refine ⟨_, rfl, ?_⟩) | ((with_reducible refine gate_dst (N := 64) rfl ?_); (try (refine gate_guard (by rfl) ?_; dsimp only)); refine Kd.R_lit (Kd.int .u32) _ 29 ?hg (N := 64) ?hd (xs := ([0, t278, Go.bits .and .u32 a2 1073741823, t288, t292] : List Int)) (inner := [.int .u32 0, .int .u32 t278, .int .u32 (Go.bits .and .u32 a2 1073741823), .int .u32 t288, .int .u32 t292]) (ok := fun _ => True) (okp := fun _ => True) ?hr ?hp (fun _ hk => hk) trivial (Below.refl _ _) (Nat.le_refl _) (by simp) ?_; (case hd => rfl); (case hg => rfl); (case hr => first | (go_simp; done) | (go_simp; rfl)); (case hp => exact (Reps.one (show Kd.M (Kd.int .u32) _ _ _ 0 [.int .u32 0] from rfl) (Reps.one (show Kd.M (Kd.int .u32) _ _ _ t278 [.int .u32 t278] from rfl) (Reps.one (show Kd.M (Kd.int .u32) _ _ _ (Go.bits .and .u32 a2 1073741823) [.int .u32 (Go.bits .and .u32 a2 1073741823)] from rfl) (Reps.one (show Kd.M (Kd.int .u32) _ _ _ t288 [.int .u32 t288] from rfl) (Reps.one (show Kd.M (Kd.int .u32) _ _ _ t292 [.int .u32 t292] from rfl) (Reps.none _ _))))))); intro v294 w44 ho45 hb hg_ hnew_; clear hg_ hnew_; (first | rw [← Ny293.out] at ho45 | (simp only [Int.reduceToNat] at ho45; rw [← Ny293.out] at ho45)); have n0_ := Aside0.mk (Kd.R_below (by (with_reducible repeat (first | apply Kd.R_alloc | apply Kd.R_drewN | apply Kd.R_drew)); exact HO_51.out) hb); have n1_ := Aside0.mk (Kd.R_below (by (with_reducible repeat (first | apply Kd.R_alloc | apply Kd.R_drewN | apply Kd.R_drew)); exact HO287.out) hb); have n2_ := Aside0.mk (Kd.R_below (by (with_reducible repeat (first | apply Kd.R_alloc | apply Kd.R_drewN | apply Kd.R_drew)); exact HO291.out) hb); have n3_ := Aside0.mk (Kd.R_lower ho45 (below_size (by repeat (first | (with_reducible first | exact HB.out | apply below_alloc | apply pw_below_drewN | apply below_drew1 | refine below_set ?_ GE272.out) | exact HB.out)))); have n4_ := Aside0.mk (blk_below (g := gb272) (o := .cells #[.string a6_0, .string a6_1] 25 (0, 0)) (by (with_reducible repeat (first | refine blk_drewN ?_ _ | refine blk_drew ?_ | refine blk_alloc ?_ _)); exact BK272.out) hb); have n5_ := Aside0.mk (below_step (by repeat (first | (with_reducible first | exact HB.out | apply below_alloc | apply pw_below_drewN | apply below_drew1 | refine below_set ?_ GE272.out) | exact HB.out)) hb); clear HO_51; clear HO287; clear HO291; clear BK272; clear HB; have HO_51 := n0_; have HO287 := n1_; have HO291 := n2_; have HO295 := n3_; have BK272 := n4_; have HB := n5_; clear n0_ n1_ n2_ n3_ n4_ n5_; clear hb ho45; obtain ⟨Ao46, co46, eo46⟩ := Kd.R_slice HO295.out; subst eo46) | (go_at_call 12; (with_reducible refine (parallaxref4_Of.calls k1 _ _ y285 t288 _ ?side1 ?side2 A36.out).mono ?_); (case side1 => repeat (first | exact (Kd.R_reads' HO287.out).2.2 | (with_reducible refine Kd.C_alloc ?_ _) | (with_reducible refine Kd.C_drewN ?_ _) | (with_reducible refine Kd.C_drew ?_))); (case side2 => exact (Kd.R_reads' HO287.out).2.1); rintro e w' ⟨rfl, ⟨nd, rfl⟩⟩) | (go_at_call 12; (with_reducible refine (parallaxref4_Of.calls k1 _ _ y289 t292 _ ?side1 ?side2 A37.out).mono ?_); (case side1 => repeat (first | exact (Kd.R_reads' HO291.out).2.2 | (with_reducible refine Kd.C_alloc ?_ _) | (with_reducible refine Kd.C_drewN ?_ _) | (with_reducible refine Kd.C_drew ?_))); (case side2 => exact (Kd.R_reads' HO291.out).2.1); rintro e w' ⟨rfl, ⟨nd, rfl⟩⟩))
                    go_loopg [66] k1 (fun kq v66 w' => ∃ (x66_2 : Int), v66 = .int .i64 x66_2 ∧ Aside0 (parallaxlaw9_FieldTells.l1 kq a2 t278 (rdOf ByteArray.empty y281 x53_1) y281 (y281.length : Int) x53_1 y293 (y293.length : Int) x66_2 a6_0 a6_1 = some r) ∧ Aside0 (kq ≤ k1) ∧ Aside0 (Kd.R Kd.string 9 w' w.heap.size (fun _ => True) (.slice (some ad284) y281.length co32) y281) ∧ Aside0 (Kd.R (Kd.int .u32) 29 w' w.heap.size (fun _ => True) (.slice Ao46 y293.length co46) y293) ∧ Aside0 (w'.heap[gb272]? = some (.cells #[.string a6_0, .string a6_1] 25 (0, 0))) ∧ Aside0 (Below w.heap.size w w'))
                    case atStart => exact ⟨(0), (by first | rfl | (simp; done) | (simp [*]; done)), H', ⟨Nat.le_refl _⟩, ⟨by (with_reducible repeat (first | apply Kd.R_alloc | apply Kd.R_drewN | apply Kd.R_drew)); exact HO_51.out⟩, ⟨by (with_reducible repeat (first | apply Kd.R_alloc | apply Kd.R_drewN | apply Kd.R_drew)); exact HO295.out⟩, ⟨by (with_reducible repeat (first | refine blk_drewN ?_ _ | refine blk_drew ?_ | refine blk_alloc ?_ _)); exact BK272.out⟩, ⟨by repeat (first | (with_reducible first | exact HB.out | apply below_alloc | apply pw_below_drewN | apply below_drew1 | refine below_set ?_ GE272.out) | exact HB.out)⟩⟩
                    case round =>
                      clear H'
                      try clear c1
                      try clear c2
                      try clear p2
                      try clear q2
                      try clear hx2
                      try clear c3
                      try clear q3
                      try clear q4
                      try clear q5
                      try clear c7
                      try clear c9
                      try clear c10
                      try clear c10b0
                      try clear c10b1
                      try clear c11
                      try clear c12
                      try clear c13
                      try clear c13b0
                      try clear c13b1
                      try clear c17
                      try clear p28
                      try clear q28
                      try clear hx28
                      try clear c33
                      try clear c33b0
                      try clear c34
                      try clear c34b0
                      try clear c35
                      try clear c35b0
                      try clear hcz23_0
                      try clear hcz23_1
                      try clear hfz23_0
                      try clear hfz23_1
                      try clear hx284_0
                      try clear p2
                      try clear p284
                      try clear q2
                      try clear q284
                      try clear q3
                      try clear q4
                      try clear q5
                      obtain ⟨x66_2, rfl, HA, HK2, HO_51, HO_64, BK272, HB⟩ := hrel
                      cases gk with
                      | zero => exact absurd HA.out (by simp [parallaxlaw9_FieldTells.l1])
                      | succ k2 =>
                        have H := HA.out
                        clear HA
                        simp only [parallaxlaw9_FieldTells.l1] at H
                        by_cases c47 : x66_2 < (y293.length : Int)
                        · rw [if_pos c47] at H
                          have c47b0 : decide (x66_2 < (y293.length : Int)) = true := decide_eq_true c47
                          clear c47
                          by_cases c48 : 0 ≤ x66_2
                          · rw [if_pos c48] at H
                            have c48b0 : decide (0 ≤ x66_2) = true := decide_eq_true c48
                            clear c48
                            by_cases c49 : x66_2 < (y293.length : Int)
                            · rw [if_pos c49] at H
                              have c49b0 : decide (x66_2 < (y293.length : Int)) = true := decide_eq_true c49
                              clear c49
                              replace H := Option.bind_eq_some_iff.mp H
                              obtain ⟨⟨t297, t298, t299, t300⟩, A500, H⟩ := H
                              (try dsimp only at H)
                              have A50 := Aside0.mk A500
                              clear A500
                              replace H := Option.bind_eq_some_iff.mp H
                              obtain ⟨⟨t302, t303, t304, t305⟩, A510, H⟩ := H
                              (try dsimp only at H)
                              have A51 := Aside0.mk A510
                              clear A510
                              by_cases c52 : (!(t297.toList == t302.toList) || (!(t298.toList == t303.toList))) = true
                              · rw [if_pos c52] at H
                                have c52b0 : (!(t297.toList == t302.toList) || (!(t298.toList == t303.toList))) = true := c52
                                clear c52
                                exact absurd ((Option.some.inj H).trans HT.out) (by decide)
                              · rw [if_neg c52] at H
                                have c52b0 : (!(t297.toList == t302.toList) || (!(t298.toList == t303.toList))) = false := by simpa using c52
                                clear c52
                                by_cases c53 : (t299 != t304) = true
                                · rw [if_pos c53] at H
                                  have c53b0 : (t299 != t304) = true := c53
                                  (try (have c53b1 : decide (t299 = t304) = false := by simpa using c53))
                                  (try (have c53b2 : (t299 == t304) = false := by simpa using c53))
                                  (try (have c53b3 : ¬ (t299 = t304) := by simpa using c53))
                                  clear c53
                                  exact absurd ((Option.some.inj H).trans HT.out) (by decide)
                                · rw [if_neg c53] at H
                                  have c53b0 : (t299 != t304) = false := by simpa using c53
                                  (try (have c53b1 : decide (t299 = t304) = true := by simpa using c53))
                                  (try (have c53b2 : (t299 == t304) = true := by simpa using c53))
                                  clear c53
                                  by_cases c54 : t300 = t305
                                  · rw [if_pos c54] at H
                                    have c54b0 : (t300 == t305) = true := beq_iff_eq.mpr c54
                                    have c54b1 : (t300 != t305) = false := bne_eq_false_iff_eq.mpr c54
                                    clear c54
                                    replace H := Option.bind_eq_some_iff.mp H
                                    obtain ⟨t307, A550, H⟩ := H
                                    (try dsimp only at H)
                                    have A55 := Aside0.mk A550
                                    clear A550
                                    replace H := Option.bind_eq_some_iff.mp H
                                    obtain ⟨t308, A560, H⟩ := H
                                    (try dsimp only at H)
                                    have A56 := Aside0.mk A560
                                    clear A560
                                    by_cases c57 : (t307 != t308) = true
                                    · rw [if_pos c57] at H
                                      have c57b0 : (t307 != t308) = true := c57
                                      (try (have c57b1 : decide (t307 = t308) = false := by simpa using c57))
                                      (try (have c57b2 : (t307 == t308) = false := by simpa using c57))
                                      (try (have c57b3 : ¬ (t307 = t308) := by simpa using c57))
                                      clear c57
                                      exact absurd ((Option.some.inj H).trans HT.out) (by decide)
                                    · rw [if_neg c57] at H
                                      have c57b0 : (t307 != t308) = false := by simpa using c57
                                      (try (have c57b1 : decide (t307 = t308) = true := by simpa using c57))
                                      (try (have c57b2 : (t307 == t308) = true := by simpa using c57))
                                      clear c57
                                      have H' := Aside0.mk H
                                      clear H
                                      have p296 : 0 ≤ (x66_2 : Int) := of_decide_eq_true (by first | (with_reducible assumption) | assumption)
                                      have q296 : x66_2 < (y293.length : Int) := of_decide_eq_true (by first | (with_reducible assumption) | assumption)
                                      obtain ⟨ad296, e296, hx296_0⟩ := Kd.at_int (Kd.R_reads' HO_64.out).2.2 x66_2 p296 q296
                                      cases e296
                                      replace p296 := eq_true p296
                                      replace q296 := eq_true q296
                                      go_wp2_with (first | ((with_reducible refine gate_callee (f := 13) rfl ?_); refine goesL_ (some 73) rfl rfl Tryd.func13 (by kernel_rfl) rfl #[.string (rdOf ByteArray.empty y281 x53_1), .int .u32 (rd y293 x66_2)] rfl (by (try simp only [List.map_toArray, List.map_cons, List.map_nil]); first | done | rfl | (simp only [List.length_drop, List.length_take]; rfl)) ?_; (with_reducible refine (field_Parse.calls k2 (rdOf ByteArray.empty y281 x53_1) (rd y293 x66_2) t297 t298 t299 t300 _ A50.out).mono ?_); rintro e w58 ⟨rfl, hb⟩; refine ⟨_, rfl, ?_⟩; have n0_ := Aside0.mk (Kd.R_below (by (with_reducible repeat (first | apply Kd.R_alloc | apply Kd.R_drewN | apply Kd.R_drew)); exact HO_51.out) hb); have n1_ := Aside0.mk (Kd.R_below (by (with_reducible repeat (first | apply Kd.R_alloc | apply Kd.R_drewN | apply Kd.R_drew)); exact HO_64.out) hb); have n2_ := Aside0.mk (blk_below (g := gb272) (o := .cells #[.string a6_0, .string a6_1] 25 (0, 0)) (by (with_reducible repeat (first | refine blk_drewN ?_ _ | refine blk_drew ?_ | refine blk_alloc ?_ _)); exact BK272.out) hb); have n3_ := Aside0.mk (below_step (by repeat (first | (with_reducible first | exact HB.out | apply below_alloc | apply pw_below_drewN | apply below_drew1 | refine below_set ?_ GE272.out) | exact HB.out)) hb); clear HO_51; clear HO_64; clear BK272; clear HB; have HO_51 := n0_; have HO_64 := n1_; have BK272 := n2_; have HB := n3_; clear n0_ n1_ n2_ n3_; (try clear hb); (try clear hb2); (try clear hk); (try clear hi)) | ((with_reducible refine gate_dst (N := 20) rfl ?_); (try (refine gate_guard (by rfl) ?_; dsimp only)); refine box_event ?hg (N := 20) ?hd (cs := #[.string (⟨#[]⟩ : ByteArray), .string (⟨#[]⟩ : ByteArray)]) (t := 25) ?hr ?_; (case hd => rfl); (case hg => rfl); (case hr => first | (go_simp; done) | (go_simp; rfl)); intro gb301 hg w59 hbox hb; have n0_ := Aside0.mk (Kd.R_below (by (with_reducible repeat (first | apply Kd.R_alloc | apply Kd.R_drewN | apply Kd.R_drew)); exact HO_51.out) hb); have n1_ := Aside0.mk (Kd.R_below (by (with_reducible repeat (first | apply Kd.R_alloc | apply Kd.R_drewN | apply Kd.R_drew)); exact HO_64.out) hb); have n2_ := Aside0.mk (blk_below (g := gb272) (o := .cells #[.string a6_0, .string a6_1] 25 (0, 0)) (by (with_reducible repeat (first | refine blk_drewN ?_ _ | refine blk_drew ?_ | refine blk_alloc ?_ _)); exact BK272.out) hb); have n3_ := Aside0.mk (below_step (by repeat (first | (with_reducible first | exact HB.out | apply below_alloc | apply pw_below_drewN | apply below_drew1 | refine below_set ?_ GE272.out) | exact HB.out)) hb); have n4_ := Aside0.mk (hbox); have n5_ := Aside0.mk ((by rw [hg]; exact (below_size (by repeat (first | (with_reducible first | exact HB.out | apply below_alloc | apply pw_below_drewN | apply below_drew1 | refine below_set ?_ GE272.out) | exact HB.out))) : w.heap.size ≤ gb301)); have n6_ := Aside0.mk ((by rw [hg]; exact (below_size (by repeat (first | (with_reducible first | exact HB.out | apply below_alloc | apply pw_below_drewN | apply below_drew1 | refine below_set ?_ GE272.out) | exact HB.out))) : w.heap.size ≤ gb301)); have n7_ := Aside0.mk ((by rw [hg]; exact Nat.ne_of_lt (blk_lt (g := gb272) (o := .cells #[.string a6_0, .string a6_1] 25 (0, 0)) (by (with_reducible repeat (first | refine blk_drewN ?_ _ | refine blk_drew ?_ | refine blk_alloc ?_ _)); exact BK272.out)) : gb272 ≠ gb301)); have n8_ := Aside0.mk ((by rw [hg]; exact Nat.ne_of_gt (blk_lt (g := gb272) (o := .cells #[.string a6_0, .string a6_1] 25 (0, 0)) (by (with_reducible repeat (first | refine blk_drewN ?_ _ | refine blk_drew ?_ | refine blk_alloc ?_ _)); exact BK272.out)) : gb301 ≠ gb272)); clear HO_51; clear HO_64; clear BK272; clear HB; have HO_51 := n0_; have HO_64 := n1_; have BK272 := n2_; have HB := n3_; have BK301 := n4_; have GW301 := n5_; have GE301 := n6_; have NB272_301 := n7_; have NB301_272 := n8_; clear n0_ n1_ n2_ n3_ n4_ n5_ n6_ n7_ n8_; clear hb hbox hg; have hnb60 := NB301_272.out; have hnc60 := NB272_301.out; have hcz61_0 : w59.cell? ⟨gb301, 0, none⟩ = some (.string (⟨#[]⟩ : ByteArray)) := (blk_cell BK301.out 0).trans rfl; have hcz61_1 : w59.cell? ⟨gb301, 1, none⟩ = some (.string (⟨#[]⟩ : ByteArray)) := (blk_cell BK301.out 1).trans rfl; have hfz61_0 := blk_frozen BK301.out 0; have hfz61_1 := blk_frozen BK301.out 1) | ((with_reducible refine gate_callee (f := 14) rfl ?_); refine goesL_ (some 80) rfl rfl Tryd.func14 (by kernel_rfl) rfl #[.string (rdOf ByteArray.empty y281 x53_1), .int .u32 (rd y293 x66_2)] rfl (by (try simp only [List.map_toArray, List.map_cons, List.map_nil]); first | done | rfl | (simp only [List.length_drop, List.length_take]; rfl)) ?_; (with_reducible refine (parallaxref9_Parse.calls k2 (rdOf ByteArray.empty y281 x53_1) (rd y293 x66_2) t302 t303 t304 t305 _ A51.out).mono ?_); rintro e w62 ⟨rfl, hb⟩; refine ⟨_, rfl, ?_⟩; have n0_ := Aside0.mk (Kd.R_below (by (with_reducible repeat (first | apply Kd.R_alloc | apply Kd.R_drewN | apply Kd.R_drew)); exact (Kd.R_mono (Kd.R_far (p := ⟨gb301, 1, none⟩) (Kd.R_far (p := ⟨gb301, 0, none⟩) (Kd.R_types HO_51.out BK301.out (by decide)) (fun _ hk => (by first | exact hk.2 | exact True.intro)) (.string t297)) (fun _ hk => (by first | exact hk.2 | exact True.intro)) (.string t298)) (fun _ h_ => h_.1))) hb); have n1_ := Aside0.mk (Kd.R_below (by (with_reducible repeat (first | apply Kd.R_alloc | apply Kd.R_drewN | apply Kd.R_drew)); exact (Kd.R_mono (Kd.R_far (p := ⟨gb301, 1, none⟩) (Kd.R_far (p := ⟨gb301, 0, none⟩) (Kd.R_types HO_64.out BK301.out (by decide)) (fun _ hk => (by first | exact hk.2 | exact True.intro)) (.string t297)) (fun _ hk => (by first | exact hk.2 | exact True.intro)) (.string t298)) (fun _ h_ => h_.1))) hb); have n2_ := Aside0.mk (blk_below (g := gb272) (o := .cells #[.string a6_0, .string a6_1] 25 (0, 0)) (by (with_reducible repeat (first | refine blk_drewN ?_ _ | refine blk_drew ?_ | refine blk_alloc ?_ _)); refine blk_far ?_ NB272_301.out _; (with_reducible repeat (first | refine blk_drewN ?_ _ | refine blk_drew ?_ | refine blk_alloc ?_ _)); refine blk_far ?_ NB272_301.out _; (with_reducible repeat (first | refine blk_drewN ?_ _ | refine blk_drew ?_ | refine blk_alloc ?_ _)); exact BK272.out) hb); have n3_ := Aside0.mk (blk_below (g := gb301) (o := .cells #[.string t297, .string t298] 25 (0, 0)) (by (with_reducible repeat (first | refine blk_drewN ?_ _ | refine blk_drew ?_ | refine blk_alloc ?_ _)); refine blk_put (cs := #[.string t297, .string (⟨#[]⟩ : ByteArray)]) ?_ 1 _ rfl; (with_reducible repeat (first | refine blk_drewN ?_ _ | refine blk_drew ?_ | refine blk_alloc ?_ _)); refine blk_put (cs := #[.string (⟨#[]⟩ : ByteArray), .string (⟨#[]⟩ : ByteArray)]) ?_ 0 _ rfl; (with_reducible repeat (first | refine blk_drewN ?_ _ | refine blk_drew ?_ | refine blk_alloc ?_ _)); exact BK301.out) hb); have n4_ := Aside0.mk (below_step (by repeat (first | (with_reducible first | exact HB.out | apply below_alloc | apply pw_below_drewN | apply below_drew1 | refine below_set ?_ GE272.out | refine below_set ?_ GE301.out) | exact HB.out)) hb); clear HO_51; clear HO_64; clear BK272; clear BK301; clear HB; have HO_51 := n0_; have HO_64 := n1_; have BK272 := n2_; have BK301 := n3_; have HB := n4_; clear n0_ n1_ n2_ n3_ n4_; (try clear hb); (try clear hb2); (try clear hk); (try clear hi)) | ((with_reducible refine gate_dst (N := 23) rfl ?_); (try (refine gate_guard (by rfl) ?_; dsimp only)); refine box_event ?hg (N := 23) ?hd (cs := #[.string (⟨#[]⟩ : ByteArray), .string (⟨#[]⟩ : ByteArray)]) (t := 25) ?hr ?_; (case hd => rfl); (case hg => rfl); (case hr => first | (go_simp; done) | (go_simp; rfl)); intro gb306 hg w63 hbox hb; have n0_ := Aside0.mk (Kd.R_below (by (with_reducible repeat (first | apply Kd.R_alloc | apply Kd.R_drewN | apply Kd.R_drew)); exact HO_51.out) hb); have n1_ := Aside0.mk (Kd.R_below (by (with_reducible repeat (first | apply Kd.R_alloc | apply Kd.R_drewN | apply Kd.R_drew)); exact HO_64.out) hb); have n2_ := Aside0.mk (blk_below (g := gb272) (o := .cells #[.string a6_0, .string a6_1] 25 (0, 0)) (by (with_reducible repeat (first | refine blk_drewN ?_ _ | refine blk_drew ?_ | refine blk_alloc ?_ _)); exact BK272.out) hb); have n3_ := Aside0.mk (blk_below (g := gb301) (o := .cells #[.string t297, .string t298] 25 (0, 0)) (by (with_reducible repeat (first | refine blk_drewN ?_ _ | refine blk_drew ?_ | refine blk_alloc ?_ _)); exact BK301.out) hb); have n4_ := Aside0.mk (below_step (by repeat (first | (with_reducible first | exact HB.out | apply below_alloc | apply pw_below_drewN | apply below_drew1 | refine below_set ?_ GE272.out | refine below_set ?_ GE301.out) | exact HB.out)) hb); have n5_ := Aside0.mk (hbox); have n6_ := Aside0.mk ((by rw [hg]; exact (below_size (by repeat (first | (with_reducible first | exact HB.out | apply below_alloc | apply pw_below_drewN | apply below_drew1 | refine below_set ?_ GE272.out | refine below_set ?_ GE301.out) | exact HB.out))) : w.heap.size ≤ gb306)); have n7_ := Aside0.mk ((by rw [hg]; exact (below_size (by repeat (first | (with_reducible first | exact HB.out | apply below_alloc | apply pw_below_drewN | apply below_drew1 | refine below_set ?_ GE272.out | refine below_set ?_ GE301.out) | exact HB.out))) : w.heap.size ≤ gb306)); have n8_ := Aside0.mk ((by rw [hg]; exact Nat.ne_of_lt (blk_lt (g := gb272) (o := .cells #[.string a6_0, .string a6_1] 25 (0, 0)) (by (with_reducible repeat (first | refine blk_drewN ?_ _ | refine blk_drew ?_ | refine blk_alloc ?_ _)); exact BK272.out)) : gb272 ≠ gb306)); have n9_ := Aside0.mk ((by rw [hg]; exact Nat.ne_of_gt (blk_lt (g := gb272) (o := .cells #[.string a6_0, .string a6_1] 25 (0, 0)) (by (with_reducible repeat (first | refine blk_drewN ?_ _ | refine blk_drew ?_ | refine blk_alloc ?_ _)); exact BK272.out)) : gb306 ≠ gb272)); have n10_ := Aside0.mk ((by rw [hg]; exact Nat.ne_of_lt (blk_lt (g := gb301) (o := .cells #[.string t297, .string t298] 25 (0, 0)) (by (with_reducible repeat (first | refine blk_drewN ?_ _ | refine blk_drew ?_ | refine blk_alloc ?_ _)); exact BK301.out)) : gb301 ≠ gb306)); have n11_ := Aside0.mk ((by rw [hg]; exact Nat.ne_of_gt (blk_lt (g := gb301) (o := .cells #[.string t297, .string t298] 25 (0, 0)) (by (with_reducible repeat (first | refine blk_drewN ?_ _ | refine blk_drew ?_ | refine blk_alloc ?_ _)); exact BK301.out)) : gb306 ≠ gb301)); clear HO_51; clear HO_64; clear BK272; clear BK301; clear HB; have HO_51 := n0_; have HO_64 := n1_; have BK272 := n2_; have BK301 := n3_; have HB := n4_; have BK306 := n5_; have GW306 := n6_; have GE306 := n7_; have NB272_306 := n8_; have NB306_272 := n9_; have NB301_306 := n10_; have NB306_301 := n11_; clear n0_ n1_ n2_ n3_ n4_ n5_ n6_ n7_ n8_ n9_ n10_ n11_; clear hb hbox hg; have hnb64 := NB306_272.out; have hnc64 := NB272_306.out; have hnb65 := NB306_301.out; have hnc65 := NB301_306.out; have hcz66_0 : w63.cell? ⟨gb306, 0, none⟩ = some (.string (⟨#[]⟩ : ByteArray)) := (blk_cell BK306.out 0).trans rfl; have hcz66_1 : w63.cell? ⟨gb306, 1, none⟩ = some (.string (⟨#[]⟩ : ByteArray)) := (blk_cell BK306.out 1).trans rfl; have hfz66_0 := blk_frozen BK306.out 0; have hfz66_1 := blk_frozen BK306.out 1; have hcz67_0 : w63.cell? ⟨gb301, 0, none⟩ = some (.string t297) := (blk_cell BK301.out 0).trans rfl; have hcz67_1 : w63.cell? ⟨gb301, 1, none⟩ = some (.string t298) := (blk_cell BK301.out 1).trans rfl; have hfz67_0 := blk_frozen BK301.out 0; have hfz67_1 := blk_frozen BK301.out 1) | (go_at_call 15; (with_reducible refine (field_Goes.calls (rdOf ByteArray.empty y281 x53_1) (rd y293 x66_2) t307 _ A55.out).mono ?_); rintro e w' ⟨rfl, ⟨nd, rfl⟩⟩) | (go_at_call 16; (with_reducible refine (parallaxref9_Goes.calls (rdOf ByteArray.empty y281 x53_1) (rd y293 x66_2) t308 _ A56.out).mono ?_); rintro e w' ⟨rfl, ⟨nd, rfl⟩⟩) | (go_at_call 13; (with_reducible refine (field_Parse.calls k2 (rdOf ByteArray.empty y281 x53_1) (rd y293 x66_2) t297 t298 t299 t300 _ A50.out).mono ?_); rintro e w58 ⟨rfl, hb⟩; have n0_ := Aside0.mk (Kd.R_below (by (with_reducible repeat (first | apply Kd.R_alloc | apply Kd.R_drewN | apply Kd.R_drew)); exact HO_51.out) hb); have n1_ := Aside0.mk (Kd.R_below (by (with_reducible repeat (first | apply Kd.R_alloc | apply Kd.R_drewN | apply Kd.R_drew)); exact HO_64.out) hb); have n2_ := Aside0.mk (blk_below (g := gb272) (o := .cells #[.string a6_0, .string a6_1] 25 (0, 0)) (by (with_reducible repeat (first | refine blk_drewN ?_ _ | refine blk_drew ?_ | refine blk_alloc ?_ _)); exact BK272.out) hb); have n3_ := Aside0.mk (below_step (by repeat (first | (with_reducible first | exact HB.out | apply below_alloc | apply pw_below_drewN | apply below_drew1 | refine below_set ?_ GE272.out) | exact HB.out)) hb); clear HO_51; clear HO_64; clear BK272; clear HB; have HO_51 := n0_; have HO_64 := n1_; have BK272 := n2_; have HB := n3_; clear n0_ n1_ n2_ n3_; (try clear hb); (try clear hb2); (try clear hk); (try clear hi)) | (go_at_call 14; (with_reducible refine (parallaxref9_Parse.calls k2 (rdOf ByteArray.empty y281 x53_1) (rd y293 x66_2) t302 t303 t304 t305 _ A51.out).mono ?_); rintro e w62 ⟨rfl, hb⟩; have n0_ := Aside0.mk (Kd.R_below (by (with_reducible repeat (first | apply Kd.R_alloc | apply Kd.R_drewN | apply Kd.R_drew)); exact (Kd.R_mono (Kd.R_far (p := ⟨gb301, 1, none⟩) (Kd.R_far (p := ⟨gb301, 0, none⟩) (Kd.R_types HO_51.out BK301.out (by decide)) (fun _ hk => (by first | exact hk.2 | exact True.intro)) (.string t297)) (fun _ hk => (by first | exact hk.2 | exact True.intro)) (.string t298)) (fun _ h_ => h_.1))) hb); have n1_ := Aside0.mk (Kd.R_below (by (with_reducible repeat (first | apply Kd.R_alloc | apply Kd.R_drewN | apply Kd.R_drew)); exact (Kd.R_mono (Kd.R_far (p := ⟨gb301, 1, none⟩) (Kd.R_far (p := ⟨gb301, 0, none⟩) (Kd.R_types HO_64.out BK301.out (by decide)) (fun _ hk => (by first | exact hk.2 | exact True.intro)) (.string t297)) (fun _ hk => (by first | exact hk.2 | exact True.intro)) (.string t298)) (fun _ h_ => h_.1))) hb); have n2_ := Aside0.mk (blk_below (g := gb272) (o := .cells #[.string a6_0, .string a6_1] 25 (0, 0)) (by (with_reducible repeat (first | refine blk_drewN ?_ _ | refine blk_drew ?_ | refine blk_alloc ?_ _)); refine blk_far ?_ NB272_301.out _; (with_reducible repeat (first | refine blk_drewN ?_ _ | refine blk_drew ?_ | refine blk_alloc ?_ _)); refine blk_far ?_ NB272_301.out _; (with_reducible repeat (first | refine blk_drewN ?_ _ | refine blk_drew ?_ | refine blk_alloc ?_ _)); exact BK272.out) hb); have n3_ := Aside0.mk (blk_below (g := gb301) (o := .cells #[.string t297, .string t298] 25 (0, 0)) (by (with_reducible repeat (first | refine blk_drewN ?_ _ | refine blk_drew ?_ | refine blk_alloc ?_ _)); refine blk_put (cs := #[.string t297, .string (⟨#[]⟩ : ByteArray)]) ?_ 1 _ rfl; (with_reducible repeat (first | refine blk_drewN ?_ _ | refine blk_drew ?_ | refine blk_alloc ?_ _)); refine blk_put (cs := #[.string (⟨#[]⟩ : ByteArray), .string (⟨#[]⟩ : ByteArray)]) ?_ 0 _ rfl; (with_reducible repeat (first | refine blk_drewN ?_ _ | refine blk_drew ?_ | refine blk_alloc ?_ _)); exact BK301.out) hb); have n4_ := Aside0.mk (below_step (by repeat (first | (with_reducible first | exact HB.out | apply below_alloc | apply pw_below_drewN | apply below_drew1 | refine below_set ?_ GE272.out | refine below_set ?_ GE301.out) | exact HB.out)) hb); clear HO_51; clear HO_64; clear BK272; clear BK301; clear HB; have HO_51 := n0_; have HO_64 := n1_; have BK272 := n2_; have BK301 := n3_; have HB := n4_; clear n0_ n1_ n2_ n3_ n4_; (try clear hb); (try clear hb2); (try clear hk); (try clear hi)))
                                      go_roundg k2
                                      case measure => have := HK1.out; have := HK2.out; omega
                                      case rel => exact ⟨(wrap64 (x66_2 + 1)), (by first | rfl | (simp; done) | (simp [*]; done)), H', ⟨by have := HK1.out; have := HK2.out; omega⟩, ⟨by (with_reducible repeat (first | apply Kd.R_alloc | apply Kd.R_drewN | apply Kd.R_drew)); exact Kd.R_mono (Kd.R_far (p := ⟨gb306, 1, none⟩) (Kd.R_far (p := ⟨gb306, 0, none⟩) (Kd.R_types HO_51.out BK306.out (by decide)) (fun _ hk => (by first | exact hk.2 | exact True.intro)) (.string t302)) (fun _ hk => (by first | exact hk.2 | exact True.intro)) (.string t303)) (fun _ hk => trivial)⟩, ⟨by (with_reducible repeat (first | apply Kd.R_alloc | apply Kd.R_drewN | apply Kd.R_drew)); exact Kd.R_mono (Kd.R_far (p := ⟨gb306, 1, none⟩) (Kd.R_far (p := ⟨gb306, 0, none⟩) (Kd.R_types HO_64.out BK306.out (by decide)) (fun _ hk => (by first | exact hk.2 | exact True.intro)) (.string t302)) (fun _ hk => (by first | exact hk.2 | exact True.intro)) (.string t303)) (fun _ hk => trivial)⟩, ⟨by (with_reducible repeat (first | refine blk_drewN ?_ _ | refine blk_drew ?_ | refine blk_alloc ?_ _)); refine blk_far ?_ NB272_306.out _; (with_reducible repeat (first | refine blk_drewN ?_ _ | refine blk_drew ?_ | refine blk_alloc ?_ _)); refine blk_far ?_ NB272_306.out _; (with_reducible repeat (first | refine blk_drewN ?_ _ | refine blk_drew ?_ | refine blk_alloc ?_ _)); exact BK272.out⟩, ⟨by repeat (first | (with_reducible first | exact HB.out | apply below_alloc | apply pw_below_drewN | apply below_drew1 | refine below_set ?_ GE272.out | refine below_set ?_ GE301.out | refine below_set ?_ GE306.out) | exact HB.out)⟩⟩
                                  · rw [if_neg c54] at H
                                    have c54b0 : (t300 == t305) = false := beq_eq_false_iff_ne.mpr c54
                                    have c54b1 : (t300 != t305) = true := bne_iff_ne.mpr c54
                                    exact absurd ((Option.some.inj H).trans HT.out) (by decide)
                            · rw [if_neg c49] at H
                              exact absurd H (by simp)
                          · rw [if_neg c48] at H
                            exact absurd H (by simp)
                        · rw [if_neg c47] at H
                          have c47b0 : decide (x66_2 < (y293.length : Int)) = false := decide_eq_false c47
                          clear c47
                          replace H := Option.bind_eq_some_iff.mp H
                          obtain ⟨⟨t309, t310⟩, A680, H⟩ := H
                          (try dsimp only at H)
                          have A68 := Aside0.mk A680
                          clear A680
                          replace H := Option.bind_eq_some_iff.mp H
                          obtain ⟨⟨t311, t312⟩, A690, H⟩ := H
                          (try dsimp only at H)
                          have A69 := Aside0.mk A690
                          clear A690
                          by_cases c70 : (!(t309.toList == t311.toList) || (!(t310.toList == t312.toList))) = true
                          · rw [if_pos c70] at H
                            have c70b0 : (!(t309.toList == t311.toList) || (!(t310.toList == t312.toList))) = true := c70
                            clear c70
                            exact absurd ((Option.some.inj H).trans HT.out) (by decide)
                          · rw [if_neg c70] at H
                            have c70b0 : (!(t309.toList == t311.toList) || (!(t310.toList == t312.toList))) = false := by simpa using c70
                            clear c70
                            have H' := Aside0.mk H
                            clear H
                            try go_wp2
                            have n0_ := Aside0.mk (Kd.R_drew HO_51.out)
                            have n1_ := Aside0.mk (Kd.R_drew HO_64.out)
                            have n2_ := Aside0.mk (blk_drew BK272.out)
                            have n3_ := Aside0.mk (below_drew1 HB.out)
                            clear HO_51
                            clear HO_64
                            clear BK272
                            clear HB
                            have HO_51 := n0_
                            have HO_64 := n1_
                            have BK272 := n2_
                            have HB := n3_
                            clear n0_ n1_ n2_ n3_
                            refine start_ (n := 7) (S := fun w' => w'.cell? ⟨gb272, 0, none⟩ = some (.string a6_0) ∧ w'.cell? ⟨gb272, 1, none⟩ = some (.string a6_1)) (ds := []) #[false, false, false, false, false, false, false] (by kernel_rfl) rfl rfl ⟨(blk_cell BK272.out 0).trans rfl, (blk_cell BK272.out 1).trans rfl⟩ (fun hHeld => ?_)
                            generalize wr.drew = w71 at HO_51 HO_64 BK272 HB hHeld ⊢
                            refine pure_ (i := 1) (N := some 108) (v := ?_) (a' := ?_) #[false, true, false, false, false, false, false] rfl rfl (by kernel_rfl) (fun _ _ _ h => h) (Or.inl ⟨by rfl, ?_⟩) ?_ ?_
                            rotate_left
                            · intro w'
                              go_simp
                              with_reducible rfl
                            rotate_left
                            · simp only [Act.put, List.setIfInBounds_toArray, List.set_cons_zero, List.set_cons_succ, i64_w, i32_w]
                              rfl
                            refine pure_ (i := 4) (N := some 111) (v := ?_) (a' := ?_) #[false, true, false, false, true, false, false] rfl rfl (by kernel_rfl) (fun _ _ _ h => h) (Or.inl ⟨by rfl, ?_⟩) ?_ ?_
                            rotate_left
                            · intro w'
                              go_simp
                              with_reducible rfl
                            rotate_left
                            · simp only [Act.put, List.setIfInBounds_toArray, List.set_cons_zero, List.set_cons_succ, i64_w, i32_w]
                              rfl
                            refine take_ (i := 0) (N := some 107) (v := ?_) (a' := ?_) #[true, true, false, false, true, false, false] rfl rfl (by kernel_rfl) (fun _ _ _ h => h) (Or.inl ⟨by rfl, ?_⟩) hHeld ?_ ?_
                            rotate_left
                            · rintro w' ⟨s0, s1⟩
                              go_simp
                              with_reducible rfl
                            rotate_left
                            · simp only [Act.put, List.setIfInBounds_toArray, List.set_cons_zero, List.set_cons_succ, i64_w, i32_w]
                              rfl
                            refine take_ (i := 3) (N := some 110) (v := ?_) (a' := ?_) #[true, true, false, true, true, false, false] rfl rfl (by kernel_rfl) (fun _ _ _ h => h) (Or.inl ⟨by rfl, ?_⟩) hHeld ?_ ?_
                            rotate_left
                            · rintro w' ⟨s0, s1⟩
                              go_simp
                              with_reducible rfl
                            rotate_left
                            · simp only [Act.put, List.setIfInBounds_toArray, List.set_cons_zero, List.set_cons_succ, i64_w, i32_w]
                              rfl
                            refine one_ (i := 2) (N := some 109) #[true, true, true, true, true, false, false] rfl rfl (by kernel_rfl) (by decide) (fun K hK => ?_)
                            refine goes_ Tryd.func17 (by kernel_rfl) rfl #[.agg #[.string a6_0, .string a6_1], .string (rdOf ByteArray.empty y281 x53_1)] (by rfl) rfl rfl (by (try simp only [List.map_toArray, List.map_cons, List.map_nil]); first | done | rfl | (simp only [List.length_drop, List.length_take]; rfl)) ?_
                            with_reducible refine (field_Join.calls a6_0 a6_1 (rdOf ByteArray.empty y281 x53_1) t309 t310 _ A68.out).mono ?_
                            rintro e w72 ⟨rfl, hb⟩
                            refine ⟨_, rfl, ?_⟩
                            have n0_ := Aside0.mk (Kd.R_below (by (with_reducible repeat (first | apply Kd.R_alloc | apply Kd.R_drewN | apply Kd.R_drew)); exact HO_51.out) hb)
                            have n1_ := Aside0.mk (Kd.R_below (by (with_reducible repeat (first | apply Kd.R_alloc | apply Kd.R_drewN | apply Kd.R_drew)); exact HO_64.out) hb)
                            have n2_ := Aside0.mk (blk_below (g := gb272) (o := .cells #[.string a6_0, .string a6_1] 25 (0, 0)) (by (with_reducible repeat (first | refine blk_drewN ?_ _ | refine blk_drew ?_ | refine blk_alloc ?_ _)); exact BK272.out) hb)
                            have n3_ := Aside0.mk (below_step (by repeat (first | (with_reducible first | exact HB.out | apply below_alloc | apply pw_below_drewN | apply below_drew1 | refine below_set ?_ GE272.out) | exact HB.out)) hb)
                            clear HO_51
                            clear HO_64
                            clear BK272
                            clear HB
                            have HO_51 := n0_
                            have HO_64 := n1_
                            have BK272 := n2_
                            have HB := n3_
                            clear n0_ n1_ n2_ n3_
                            (try clear hb)
                            (try clear hb2)
                            (try clear hk)
                            (try clear hi)
                            refine hK.out _ _ ⟨(blk_cell BK272.out 0).trans rfl, (blk_cell BK272.out 1).trans rfl⟩ (fun hHeld => ?_)
                            clear hK K
                            refine norm_ (a' := ?_) ?_ ?_
                            rotate_left
                            · show Act.put _ (some 109) _ = _
                              simp only [Act.put, List.setIfInBounds_toArray, List.set_cons_zero, List.set_cons_succ, i64_w, i32_w]
                              rfl
                            refine one_ (i := 5) (N := some 112) #[true, true, true, true, true, true, false] rfl rfl (by kernel_rfl) (by decide) (fun K hK => ?_)
                            refine goes_ Tryd.func18 (by kernel_rfl) rfl #[.agg #[.string a6_0, .string a6_1], .string (rdOf ByteArray.empty y281 x53_1)] (by rfl) rfl rfl (by (try simp only [List.map_toArray, List.map_cons, List.map_nil]); first | done | rfl | (simp only [List.length_drop, List.length_take]; rfl)) ?_
                            with_reducible refine (parallaxref9_Join.calls k2 a6_0 a6_1 (rdOf ByteArray.empty y281 x53_1) t311 t312 _ A69.out).mono ?_
                            rintro e w73 ⟨rfl, hb⟩
                            refine ⟨_, rfl, ?_⟩
                            have n0_ := Aside0.mk (Kd.R_below (by (with_reducible repeat (first | apply Kd.R_alloc | apply Kd.R_drewN | apply Kd.R_drew)); exact HO_51.out) hb)
                            have n1_ := Aside0.mk (Kd.R_below (by (with_reducible repeat (first | apply Kd.R_alloc | apply Kd.R_drewN | apply Kd.R_drew)); exact HO_64.out) hb)
                            have n2_ := Aside0.mk (blk_below (g := gb272) (o := .cells #[.string a6_0, .string a6_1] 25 (0, 0)) (by (with_reducible repeat (first | refine blk_drewN ?_ _ | refine blk_drew ?_ | refine blk_alloc ?_ _)); exact BK272.out) hb)
                            have n3_ := Aside0.mk (below_step (by repeat (first | (with_reducible first | exact HB.out | apply below_alloc | apply pw_below_drewN | apply below_drew1 | refine below_set ?_ GE272.out) | exact HB.out)) hb)
                            clear HO_51
                            clear HO_64
                            clear BK272
                            clear HB
                            have HO_51 := n0_
                            have HO_64 := n1_
                            have BK272 := n2_
                            have HB := n3_
                            clear n0_ n1_ n2_ n3_
                            (try clear hb)
                            (try clear hb2)
                            (try clear hk)
                            (try clear hi)
                            refine hK.out _ _ ⟨(blk_cell BK272.out 0).trans rfl, (blk_cell BK272.out 1).trans rfl⟩ (fun hHeld => ?_)
                            clear hK K
                            refine norm_ (a' := ?_) ?_ ?_
                            rotate_left
                            · show Act.put _ (some 112) _ = _
                              simp only [Act.put, List.setIfInBounds_toArray, List.set_cons_zero, List.set_cons_succ, i64_w, i32_w]
                              rfl
                            refine pure_ (i := 6) (N := some 113) (v := ?_) (a' := ?_) #[true, true, true, true, true, true, true] rfl rfl (by kernel_rfl) (fun _ _ _ h => h) (Or.inl ⟨by rfl, ?_⟩) ?_ ?_
                            rotate_left
                            · intro w'
                              go_simp
                              with_reducible rfl
                            rotate_left
                            · simp only [Act.put, List.setIfInBounds_toArray, List.set_cons_zero, List.set_cons_succ, i64_w, i32_w]
                              rfl
                            refine done_ (by kernel_rfl) ?_
                            try go_wp2
                            go_roundg k2
                            case measure => have := HK1.out; have := HK2.out; omega
                            case rel => exact ⟨(wrap64 (x53_1 + 1)), (by first | rfl | (simp; done) | (simp [*]; done)), H', ⟨by have := HK1.out; have := HK2.out; omega⟩, ⟨by (with_reducible repeat (first | apply Kd.R_alloc | apply Kd.R_drewN | apply Kd.R_drew)); exact HO_51.out⟩, ⟨by (with_reducible repeat (first | refine blk_drewN ?_ _ | refine blk_drew ?_ | refine blk_alloc ?_ _)); exact BK272.out⟩, ⟨by repeat (first | (with_reducible first | exact HB.out | apply below_alloc | apply pw_below_drewN | apply below_drew1 | refine below_set ?_ GE272.out) | exact HB.out)⟩⟩
                  · rw [if_neg c35] at H
                    exact absurd H (by simp)
                · rw [if_neg c34] at H
                  exact absurd H (by simp)
              · rw [if_neg c33] at H
                have c33b0 : decide (x53_1 < (y281.length : Int)) = false := decide_eq_false c33
                clear c33
                replace H := Option.bind_eq_some_iff.mp H
                obtain ⟨t313, A740, H⟩ := H
                (try dsimp only at H)
                have A74 := Aside0.mk A740
                clear A740
                replace H := Option.bind_eq_some_iff.mp H
                obtain ⟨t314, A750, H⟩ := H
                (try dsimp only at H)
                have A75 := Aside0.mk A750
                clear A750
                by_cases c76 : (t313 == t314) = true
                · rw [if_pos c76] at H
                  have c76b0 : (t313 == t314) = true := c76
                  (try (have c76b1 : decide (t313 = t314) = true := by simpa using c76))
                  (try (have c76b2 : (t313 == t314) = true := by simpa using c76))
                  clear c76
                  obtain ⟨y315, hy315⟩ : ∃ y_ : List (S25), y_ = (([(⟨a6_0, a6_1⟩ : S25), (⟨a6_0, a6_1⟩ : S25)] : List (S25))) := ⟨_, rfl⟩
                  replace H : ((field_Put.f y315).bind fun t318 => ((parallaxref9_Put.f k1 (([(⟨a6_0, a6_1⟩ : S25), (⟨a6_0, a6_1⟩ : S25)] : List (S25)))).bind fun t322 => (some (t318.toList == t322.toList)))) = some r := by first | (rw [hy315]; with_reducible exact H) | (have H2_ := (Option.bind_some _ _).symm.trans H; rw [hy315]; with_reducible exact H2_) | (have H2_ := (Option.bind_some _ _).symm.trans H; with_reducible exact H2_) | with_reducible exact H | (rw [hy315]; exact H) | exact H
                  have Ny315 := Aside0.mk hy315
                  clear hy315
                  replace H := Option.bind_eq_some_iff.mp H
                  obtain ⟨t318, A770, H⟩ := H
                  (try dsimp only at H)
                  have A77 := Aside0.mk A770
                  clear A770
                  obtain ⟨y319, hy319⟩ : ∃ y_ : List (S25), y_ = (([(⟨a6_0, a6_1⟩ : S25), (⟨a6_0, a6_1⟩ : S25)] : List (S25))) := ⟨_, rfl⟩
                  replace H : ((parallaxref9_Put.f k1 y319).bind fun t322 => (some (t318.toList == t322.toList))) = some r := by first | (rw [hy319]; with_reducible exact H) | (have H2_ := (Option.bind_some _ _).symm.trans H; rw [hy319]; with_reducible exact H2_) | (have H2_ := (Option.bind_some _ _).symm.trans H; with_reducible exact H2_) | with_reducible exact H | (rw [hy319]; exact H) | exact H
                  have Ny319 := Aside0.mk hy319
                  clear hy319
                  replace H := Option.bind_eq_some_iff.mp H
                  obtain ⟨t322, A780, H⟩ := H
                  (try dsimp only at H)
                  have A78 := Aside0.mk A780
                  clear A780
                  obtain rfl := Option.some.inj H
                  try go_wp2
                  have n0_ := Aside0.mk (Kd.R_drew HO_51.out)
                  have n1_ := Aside0.mk (blk_drew BK272.out)
                  have n2_ := Aside0.mk (below_drew1 HB.out)
                  clear HO_51
                  clear BK272
                  clear HB
                  have HO_51 := n0_
                  have BK272 := n1_
                  have HB := n2_
                  clear n0_ n1_ n2_
                  refine start_ (n := 17) (S := fun w' => w'.cell? ⟨gb272, 0, none⟩ = some (.string a6_0) ∧ w'.cell? ⟨gb272, 1, none⟩ = some (.string a6_1)) (ds := []) #[false, false, false, false, false, false, false, false, false, false, false, false, false, false, false, false, false] (by kernel_rfl) rfl rfl ⟨(blk_cell BK272.out 0).trans rfl, (blk_cell BK272.out 1).trans rfl⟩ (fun hHeld => ?_); refine with_tabW parallaxlaw9_FieldTells.tab20 parallaxlaw9_FieldTells.bits20 (fun HT_ HW_ => ?_)
                  generalize wr.drew = w79 at HO_51 BK272 HB hHeld ⊢
                  refine take_ (i := 0) (N := some 115) (v := ?_) (a' := ?_) #[true, false, false, false, false, false, false, false, false, false, false, false, false, false, false, false, false] rfl rfl (take_ofW HT_.out HW_.out (by kernel_rfl)) (fun _ _ _ h => h) (Or.inl ⟨by rfl, ?_⟩) hHeld ?_ ?_
                  rotate_left
                  · rintro w' ⟨s0, s1⟩
                    go_simp
                    with_reducible rfl
                  rotate_left
                  · simp only [Act.put, List.setIfInBounds_toArray, List.set_cons_zero, List.set_cons_succ, i64_w, i32_w]
                    rfl
                  refine take_ (i := 2) (N := some 117) (v := ?_) (a' := ?_) #[true, false, true, false, false, false, false, false, false, false, false, false, false, false, false, false, false] rfl rfl (take_ofW HT_.out HW_.out (by kernel_rfl)) (fun _ _ _ h => h) (Or.inl ⟨by rfl, ?_⟩) hHeld ?_ ?_
                  rotate_left
                  · rintro w' ⟨s0, s1⟩
                    go_simp
                    with_reducible rfl
                  rotate_left
                  · simp only [Act.put, List.setIfInBounds_toArray, List.set_cons_zero, List.set_cons_succ, i64_w, i32_w]
                    rfl
                  refine one_ (i := 1) (N := some 116) #[true, true, true, false, false, false, false, false, false, false, false, false, false, false, false, false, false] rfl rfl (one_of HT_.out (by kernel_rfl)) (by decide) (fun K hK => ?_)
                  refine goes_ Tryd.func19 (by kernel_rfl) rfl #[.agg #[.string a6_0, .string a6_1]] (by rfl) rfl rfl (by (try simp only [List.map_toArray, List.map_cons, List.map_nil]); first | done | rfl | (simp only [List.length_drop, List.length_take]; rfl)) ?_
                  with_reducible refine (field_Right.calls k1 a6_0 a6_1 t313 _ A74.out).mono ?_
                  rintro e w80 ⟨rfl, hb⟩
                  refine ⟨_, rfl, ?_⟩
                  have n0_ := Aside0.mk (Kd.R_below (by (with_reducible repeat (first | apply Kd.R_alloc | apply Kd.R_drewN | apply Kd.R_drew)); exact HO_51.out) hb)
                  have n1_ := Aside0.mk (blk_below (g := gb272) (o := .cells #[.string a6_0, .string a6_1] 25 (0, 0)) (by (with_reducible repeat (first | refine blk_drewN ?_ _ | refine blk_drew ?_ | refine blk_alloc ?_ _)); exact BK272.out) hb)
                  have n2_ := Aside0.mk (below_step (by repeat (first | (with_reducible first | exact HB.out | apply below_alloc | apply pw_below_drewN | apply below_drew1 | refine below_set ?_ GE272.out) | exact HB.out)) hb)
                  clear HO_51
                  clear BK272
                  clear HB
                  have HO_51 := n0_
                  have BK272 := n1_
                  have HB := n2_
                  clear n0_ n1_ n2_
                  (try clear hb)
                  (try clear hb2)
                  (try clear hk)
                  (try clear hi)
                  refine hK.out _ _ ⟨(blk_cell BK272.out 0).trans rfl, (blk_cell BK272.out 1).trans rfl⟩ (fun hHeld => ?_)
                  clear hK K
                  refine norm_ (a' := ?_) ?_ ?_
                  rotate_left
                  · show Act.put _ (some 116) _ = _
                    simp only [Act.put, List.setIfInBounds_toArray, List.set_cons_zero, List.set_cons_succ, i64_w, i32_w]
                    rfl
                  refine one_ (i := 3) (N := some 118) #[true, true, true, true, false, false, false, false, false, false, false, false, false, false, false, false, false] rfl rfl (one_of HT_.out (by kernel_rfl)) (by decide) (fun K hK => ?_)
                  refine goes_ Tryd.func20 (by kernel_rfl) rfl #[.agg #[.string a6_0, .string a6_1]] (by rfl) rfl rfl (by (try simp only [List.map_toArray, List.map_cons, List.map_nil]); first | done | rfl | (simp only [List.length_drop, List.length_take]; rfl)) ?_
                  with_reducible refine (parallaxref9_Right.calls k1 a6_0 a6_1 t314 _ A75.out).mono ?_
                  rintro e w81 ⟨rfl, hb⟩
                  refine ⟨_, rfl, ?_⟩
                  have n0_ := Aside0.mk (Kd.R_below (by (with_reducible repeat (first | apply Kd.R_alloc | apply Kd.R_drewN | apply Kd.R_drew)); exact HO_51.out) hb)
                  have n1_ := Aside0.mk (blk_below (g := gb272) (o := .cells #[.string a6_0, .string a6_1] 25 (0, 0)) (by (with_reducible repeat (first | refine blk_drewN ?_ _ | refine blk_drew ?_ | refine blk_alloc ?_ _)); exact BK272.out) hb)
                  have n2_ := Aside0.mk (below_step (by repeat (first | (with_reducible first | exact HB.out | apply below_alloc | apply pw_below_drewN | apply below_drew1 | refine below_set ?_ GE272.out) | exact HB.out)) hb)
                  clear HO_51
                  clear BK272
                  clear HB
                  have HO_51 := n0_
                  have BK272 := n1_
                  have HB := n2_
                  clear n0_ n1_ n2_
                  (try clear hb)
                  (try clear hb2)
                  (try clear hk)
                  (try clear hi)
                  refine hK.out _ _ ⟨(blk_cell BK272.out 0).trans rfl, (blk_cell BK272.out 1).trans rfl⟩ (fun hHeld => ?_)
                  clear hK K
                  refine norm_ (a' := ?_) ?_ ?_
                  rotate_left
                  · show Act.put _ (some 118) _ = _
                    simp only [Act.put, List.setIfInBounds_toArray, List.set_cons_zero, List.set_cons_succ, i64_w, i32_w]
                    rfl
                  refine pure_ (i := 4) (N := some 119) (v := ?_) (a' := ?_) #[true, true, true, true, true, false, false, false, false, false, false, false, false, false, false, false, false] rfl rfl (any_of HT_.out (by kernel_rfl)) (fun _ _ _ h => h) (Or.inl ⟨by rfl, ?_⟩) ?_ ?_
                  rotate_left
                  · intro w'
                    go_simp
                    with_reducible rfl
                  rotate_left
                  · simp only [Act.put, List.setIfInBounds_toArray, List.set_cons_zero, List.set_cons_succ, i64_w, i32_w]
                    rfl
                  refine pure_ (i := 5) (N := some 120) (v := ?_) (a' := ?_) #[true, true, true, true, true, true, false, false, false, false, false, false, false, false, false, false, false] rfl rfl (any_of HT_.out (by kernel_rfl)) (fun _ _ _ h => h) (Or.inl ⟨by rfl, ?_⟩) ?_ ?_
                  rotate_left
                  · intro w'
                    go_simp
                    with_reducible rfl
                  rotate_left
                  · simp only [Act.put, List.setIfInBounds_toArray, List.set_cons_zero, List.set_cons_succ, i64_w, i32_w]
                    rfl
                  refine take_ (i := 6) (N := some 121) (v := ?_) (a' := ?_) #[true, true, true, true, true, true, true, false, false, false, false, false, false, false, false, false, false] rfl rfl (take_ofW HT_.out HW_.out (by kernel_rfl)) (fun _ _ _ h => h) (Or.inl ⟨by rfl, ?_⟩) hHeld ?_ ?_
                  rotate_left
                  · rintro w' ⟨s0, s1⟩
                    go_simp
                    with_reducible rfl
                  rotate_left
                  · simp only [Act.put, List.setIfInBounds_toArray, List.set_cons_zero, List.set_cons_succ, i64_w, i32_w]
                    rfl
                  refine take_ (i := 7) (N := some 122) (v := ?_) (a' := ?_) #[true, true, true, true, true, true, true, true, false, false, false, false, false, false, false, false, false] rfl rfl (take_ofW HT_.out HW_.out (by kernel_rfl)) (fun _ _ _ h => h) (Or.inl ⟨by rfl, ?_⟩) hHeld ?_ ?_
                  rotate_left
                  · rintro w' ⟨s0, s1⟩
                    go_simp
                    with_reducible rfl
                  rotate_left
                  · simp only [Act.put, List.setIfInBounds_toArray, List.set_cons_zero, List.set_cons_succ, i64_w, i32_w]
                    rfl
                  refine take_ (i := 10) (N := some 125) (v := ?_) (a' := ?_) #[true, true, true, true, true, true, true, true, false, false, true, false, false, false, false, false, false] rfl rfl (take_ofW HT_.out HW_.out (by kernel_rfl)) (fun _ _ _ h => h) (Or.inl ⟨by rfl, ?_⟩) hHeld ?_ ?_
                  rotate_left
                  · rintro w' ⟨s0, s1⟩
                    go_simp
                    with_reducible rfl
                  rotate_left
                  · simp only [Act.put, List.setIfInBounds_toArray, List.set_cons_zero, List.set_cons_succ, i64_w, i32_w]
                    rfl
                  refine take_ (i := 11) (N := some 126) (v := ?_) (a' := ?_) #[true, true, true, true, true, true, true, true, false, false, true, true, false, false, false, false, false] rfl rfl (take_ofW HT_.out HW_.out (by kernel_rfl)) (fun _ _ _ h => h) (Or.inl ⟨by rfl, ?_⟩) hHeld ?_ ?_
                  rotate_left
                  · rintro w' ⟨s0, s1⟩
                    go_simp
                    with_reducible rfl
                  rotate_left
                  · simp only [Act.put, List.setIfInBounds_toArray, List.set_cons_zero, List.set_cons_succ, i64_w, i32_w]
                    rfl
                  refine join_ (σ := Value × Value) 4 #[true, true, true, true, true, true, true, true, true, true, true, true, true, false, false, false, false] (fun s_ => [(123, s_.1), (124, .string t318), (127, s_.2)]) (fun s_ w' => (w'.cell? ⟨gb272, 0, none⟩ = some (.string a6_0) ∧ w'.cell? ⟨gb272, 1, none⟩ = some (.string a6_1)) ∧ (Kd.R k25 25 w' w.heap.size (fun k_ => some k_ ≠ (s_.2 : Value).ownBlock ∧ k_ ≠ gb272) s_.1 y315) ∧ (Kd.R k25 25 w' w.heap.size (fun k_ => some k_ ≠ (s_.1 : Value).ownBlock ∧ k_ ≠ gb272) s_.2 y319) ∧ (Kd.R Kd.string 9 w' w.heap.size (fun _ => True) (.slice Ao32 y281.length co32) y281) ∧ (w'.heap[gb272]? = some (.cells #[.string a6_0, .string a6_1] 25 (0, 0))) ∧ (Below w.heap.size w w')) ?_ ?_
                  rotate_left
                  · intro hCont
                    refine two_ (i := 8) (j := 12) (Ni := some 123) (Nj := some 127) #[true, true, true, true, true, true, true, true, true, false, true, true, false, false, false, false, false] #[true, true, true, true, true, true, true, true, false, false, true, true, true, false, false, false, false] rfl rfl rfl rfl (two_of HT_.out (by kernel_rfl)) (by decide) (by decide) (fun K hK => ?_) (fun K hK => ?_)
                    · skip
                      refine Kd.R_lit_step k25 _ 25 ?hg (N := 123) ?hd (xs := ([(⟨a6_0, a6_1⟩ : S25), (⟨a6_0, a6_1⟩ : S25)] : List (S25))) (inner := [.string a6_0, .string a6_1, .string a6_0, .string a6_1]) (ok := fun _ => True) (okp := fun _ => True) ?hr ?hp (fun _ hk => hk) trivial (Below.refl _ _) (Nat.le_refl _) (by simp) ?_; (case hd => rfl); (case hg => rfl); (case hr => first | (go_simp; done) | (go_simp; rfl)); (case hp => exact (Reps.c2 (show Kd.M k25 _ _ _ (⟨a6_0, a6_1⟩ : S25) [.string a6_0, .string a6_1] from (k25_mkM _ _ _ (⟨a6_0, a6_1⟩ : S25) )) (Reps.c2 (show Kd.M k25 _ _ _ (⟨a6_0, a6_1⟩ : S25) [.string a6_0, .string a6_1] from (k25_mkM _ _ _ (⟨a6_0, a6_1⟩ : S25) )) (Reps.none _ _))))
                      intro v316 w82 ho83 hb hg_ hnew_
                      clear hg_ hnew_
                      (first | rw [← Ny315.out] at ho83 | (simp only [Int.reduceToNat] at ho83; rw [← Ny315.out] at ho83))
                      have n0_ := Aside0.mk (Kd.R_below (by (with_reducible repeat (first | apply Kd.R_alloc | apply Kd.R_drewN | apply Kd.R_drew)); exact HO_51.out) hb)
                      have n1_ := Aside0.mk (Kd.R_lower (Kd.R_newB ho83 (g := gb272) (o := .cells #[.string a6_0, .string a6_1] 25 (0, 0)) (by (with_reducible repeat (first | refine blk_drewN ?_ _ | refine blk_drew ?_ | refine blk_alloc ?_ _)); exact BK272.out)) (below_size (by repeat (first | (with_reducible first | exact HB.out | apply below_alloc | apply pw_below_drewN | apply below_drew1 | refine below_set ?_ GE272.out) | exact HB.out))))
                      have n2_ := Aside0.mk (blk_below (g := gb272) (o := .cells #[.string a6_0, .string a6_1] 25 (0, 0)) (by (with_reducible repeat (first | refine blk_drewN ?_ _ | refine blk_drew ?_ | refine blk_alloc ?_ _)); exact BK272.out) hb)
                      have n3_ := Aside0.mk (below_step (by repeat (first | (with_reducible first | exact HB.out | apply below_alloc | apply pw_below_drewN | apply below_drew1 | refine below_set ?_ GE272.out) | exact HB.out)) hb)
                      clear HO_51
                      clear BK272
                      clear HB
                      have HO_51 := n0_
                      have HO317 := n1_
                      have BK272 := n2_
                      have HB := n3_
                      clear n0_ n1_ n2_ n3_
                      clear hb ho83
                      obtain ⟨Ao84, co84, eo84⟩ := Kd.R_slice HO317.out
                      (first | subst eo84 | (injection eo84 with f1_ f2_ f3_; have f4_ := f1_.symm; have f5_ := f3_.symm; clear f1_ f2_ f3_; subst f4_; subst f5_))
                      refine hK.out _ _ ⟨(blk_cell BK272.out 0).trans rfl, (blk_cell BK272.out 1).trans rfl⟩ (fun hHeld => ?_)
                      clear hK K
                      refine norm_ (a' := ?_) ?_ ?_
                      rotate_left
                      · show Act.put _ (some 123) _ = _
                        simp only [Act.put, List.setIfInBounds_toArray, List.set_cons_zero, List.set_cons_succ, i64_w, i32_w]
                        rfl
                      refine two_ (i := 9) (j := 12) (Ni := some 124) (Nj := some 127) #[true, true, true, true, true, true, true, true, true, true, true, true, false, false, false, false, false] #[true, true, true, true, true, true, true, true, true, false, true, true, true, false, false, false, false] rfl rfl rfl rfl (two_of HT_.out (by kernel_rfl)) (by decide) (by decide) (fun K hK => ?_) (fun K hK => ?_)
                      · skip
                        refine goes_ Tryd.func21 (by kernel_rfl) rfl #[.slice Ao84 y315.length co84] (by rfl) rfl rfl (by (try simp only [List.map_toArray, List.map_cons, List.map_nil]); first | done | rfl | (simp only [List.length_drop, List.length_take]; rfl)) ?_
                        with_reducible refine (field_Put.calls _ _ y315 t318 _ ?side1 ?side2 A77.out).mono ?_
                        (case side1 => repeat (first | exact (Kd.R_reads' HO317.out).2.2 | (with_reducible refine Kd.C_alloc ?_ _) | (with_reducible refine Kd.C_drewN ?_ _) | (with_reducible refine Kd.C_drew ?_)))
                        (case side2 => exact (Kd.R_reads' HO317.out).2.1)
                        rintro e w85 ⟨rfl, hb⟩
                        refine ⟨_, rfl, ?_⟩
                        have n0_ := Aside0.mk (Kd.R_below (by (with_reducible repeat (first | apply Kd.R_alloc | apply Kd.R_drewN | apply Kd.R_drew)); exact HO_51.out) hb)
                        have n1_ := Aside0.mk (Kd.R_below (by (with_reducible repeat (first | apply Kd.R_alloc | apply Kd.R_drewN | apply Kd.R_drew)); exact HO317.out) hb)
                        have n2_ := Aside0.mk (blk_below (g := gb272) (o := .cells #[.string a6_0, .string a6_1] 25 (0, 0)) (by (with_reducible repeat (first | refine blk_drewN ?_ _ | refine blk_drew ?_ | refine blk_alloc ?_ _)); exact BK272.out) hb)
                        have n3_ := Aside0.mk (below_step (by repeat (first | (with_reducible first | exact HB.out | apply below_alloc | apply pw_below_drewN | apply below_drew1 | refine below_set ?_ GE272.out) | exact HB.out)) hb)
                        clear HO_51
                        clear HO317
                        clear BK272
                        clear HB
                        have HO_51 := n0_
                        have HO317 := n1_
                        have BK272 := n2_
                        have HB := n3_
                        clear n0_ n1_ n2_ n3_
                        (try clear hb)
                        (try clear hb2)
                        (try clear hk)
                        (try clear hi)
                        refine hK.out _ _ ⟨(blk_cell BK272.out 0).trans rfl, (blk_cell BK272.out 1).trans rfl⟩ (fun hHeld => ?_)
                        clear hK K
                        refine norm_ (a' := ?_) ?_ ?_
                        rotate_left
                        · show Act.put _ (some 124) _ = _
                          simp only [Act.put, List.setIfInBounds_toArray, List.set_cons_zero, List.set_cons_succ, i64_w, i32_w]
                          rfl
                        refine one_ (i := 12) (N := some 127) #[true, true, true, true, true, true, true, true, true, true, true, true, true, false, false, false, false] rfl rfl (one_of HT_.out (by kernel_rfl)) (by decide) (fun K hK => ?_)
                        refine Kd.R_lit_step k25 _ 25 ?hg (N := 127) ?hd (xs := ([(⟨a6_0, a6_1⟩ : S25), (⟨a6_0, a6_1⟩ : S25)] : List (S25))) (inner := [.string a6_0, .string a6_1, .string a6_0, .string a6_1]) (ok := fun _ => True) (okp := fun _ => True) ?hr ?hp (fun _ hk => hk) trivial (Below.refl _ _) (Nat.le_refl _) (by simp) ?_; (case hd => rfl); (case hg => rfl); (case hr => first | (go_simp; done) | (go_simp; rfl)); (case hp => exact (Reps.c2 (show Kd.M k25 _ _ _ (⟨a6_0, a6_1⟩ : S25) [.string a6_0, .string a6_1] from (k25_mkM _ _ _ (⟨a6_0, a6_1⟩ : S25) )) (Reps.c2 (show Kd.M k25 _ _ _ (⟨a6_0, a6_1⟩ : S25) [.string a6_0, .string a6_1] from (k25_mkM _ _ _ (⟨a6_0, a6_1⟩ : S25) )) (Reps.none _ _))))
                        intro v320 w86 ho87 hb hg_ hnew_
                        clear hg_ hnew_
                        (first | rw [← Ny319.out] at ho87 | (simp only [Int.reduceToNat] at ho87; rw [← Ny319.out] at ho87))
                        have n0_ := Aside0.mk (Kd.R_below (by (with_reducible repeat (first | apply Kd.R_alloc | apply Kd.R_drewN | apply Kd.R_drew)); exact HO_51.out) hb)
                        have n1_ := Aside0.mk (Kd.R_elder' (by (with_reducible repeat (first | apply Kd.R_alloc | apply Kd.R_drewN | apply Kd.R_drew)); exact HO317.out) (Kd.R_base ho87) hb)
                        have n2_ := Aside0.mk (Kd.R_lower (Kd.R_newB (Kd.R_new' ho87 (Kd.R_lt (by (with_reducible repeat (first | apply Kd.R_alloc | apply Kd.R_drewN | apply Kd.R_drew)); exact HO317.out))) (g := gb272) (o := .cells #[.string a6_0, .string a6_1] 25 (0, 0)) (by (with_reducible repeat (first | refine blk_drewN ?_ _ | refine blk_drew ?_ | refine blk_alloc ?_ _)); exact BK272.out)) (below_size (by repeat (first | (with_reducible first | exact HB.out | apply below_alloc | apply pw_below_drewN | apply below_drew1 | refine below_set ?_ GE272.out) | exact HB.out))))
                        have n3_ := Aside0.mk (blk_below (g := gb272) (o := .cells #[.string a6_0, .string a6_1] 25 (0, 0)) (by (with_reducible repeat (first | refine blk_drewN ?_ _ | refine blk_drew ?_ | refine blk_alloc ?_ _)); exact BK272.out) hb)
                        have n4_ := Aside0.mk (below_step (by repeat (first | (with_reducible first | exact HB.out | apply below_alloc | apply pw_below_drewN | apply below_drew1 | refine below_set ?_ GE272.out) | exact HB.out)) hb)
                        clear HO_51
                        clear HO317
                        clear BK272
                        clear HB
                        have HO_51 := n0_
                        have HO317 := n1_
                        have HO321 := n2_
                        have BK272 := n3_
                        have HB := n4_
                        clear n0_ n1_ n2_ n3_ n4_
                        clear hb ho87
                        refine hK.out _ _ ⟨(blk_cell BK272.out 0).trans rfl, (blk_cell BK272.out 1).trans rfl⟩ (fun hHeld => ?_)
                        clear hK K
                        refine norm_ (a' := ?_) ?_ ?_
                        rotate_left
                        · show Act.put _ (some 127) _ = _
                          simp only [Act.put, List.setIfInBounds_toArray, List.set_cons_zero, List.set_cons_succ, i64_w, i32_w]
                          rfl
                        exact norm_ (by simp only [putAll, Act.put, List.setIfInBounds_toArray, List.set_cons_zero, List.set_cons_succ]) (hCont (.slice Ao84 y315.length co84, v320) _ ⟨hHeld, (by (with_reducible repeat (first | apply Kd.R_alloc | apply Kd.R_drewN | apply Kd.R_drew)); exact Kd.R_mono HO317.out (fun _ hk => ⟨hk.2, hk.1.2⟩)), (by (with_reducible repeat (first | apply Kd.R_alloc | apply Kd.R_drewN | apply Kd.R_drew)); exact Kd.R_mono HO321.out (fun _ hk => ⟨hk.1.2, hk.2⟩)), (by (with_reducible repeat (first | apply Kd.R_alloc | apply Kd.R_drewN | apply Kd.R_drew)); exact HO_51.out), (by (with_reducible repeat (first | refine blk_drewN ?_ _ | refine blk_drew ?_ | refine blk_alloc ?_ _)); exact BK272.out), (by repeat (first | (with_reducible first | exact HB.out | apply below_alloc | apply pw_below_drewN | apply below_drew1 | refine below_set ?_ GE272.out) | exact HB.out))⟩)
                      · skip
                        refine Kd.R_lit_step k25 _ 25 ?hg (N := 127) ?hd (xs := ([(⟨a6_0, a6_1⟩ : S25), (⟨a6_0, a6_1⟩ : S25)] : List (S25))) (inner := [.string a6_0, .string a6_1, .string a6_0, .string a6_1]) (ok := fun _ => True) (okp := fun _ => True) ?hr ?hp (fun _ hk => hk) trivial (Below.refl _ _) (Nat.le_refl _) (by simp) ?_; (case hd => rfl); (case hg => rfl); (case hr => first | (go_simp; done) | (go_simp; rfl)); (case hp => exact (Reps.c2 (show Kd.M k25 _ _ _ (⟨a6_0, a6_1⟩ : S25) [.string a6_0, .string a6_1] from (k25_mkM _ _ _ (⟨a6_0, a6_1⟩ : S25) )) (Reps.c2 (show Kd.M k25 _ _ _ (⟨a6_0, a6_1⟩ : S25) [.string a6_0, .string a6_1] from (k25_mkM _ _ _ (⟨a6_0, a6_1⟩ : S25) )) (Reps.none _ _))))
                        intro v320 w84 ho85 hb hg_ hnew_
                        clear hg_ hnew_
                        (first | rw [← Ny319.out] at ho85 | (simp only [Int.reduceToNat] at ho85; rw [← Ny319.out] at ho85))
                        have n0_ := Aside0.mk (Kd.R_below (by (with_reducible repeat (first | apply Kd.R_alloc | apply Kd.R_drewN | apply Kd.R_drew)); exact HO_51.out) hb)
                        have n1_ := Aside0.mk (Kd.R_elder' (by (with_reducible repeat (first | apply Kd.R_alloc | apply Kd.R_drewN | apply Kd.R_drew)); exact HO317.out) (Kd.R_base ho85) hb)
                        have n2_ := Aside0.mk (Kd.R_lower (Kd.R_newB (Kd.R_new' ho85 (Kd.R_lt (by (with_reducible repeat (first | apply Kd.R_alloc | apply Kd.R_drewN | apply Kd.R_drew)); exact HO317.out))) (g := gb272) (o := .cells #[.string a6_0, .string a6_1] 25 (0, 0)) (by (with_reducible repeat (first | refine blk_drewN ?_ _ | refine blk_drew ?_ | refine blk_alloc ?_ _)); exact BK272.out)) (below_size (by repeat (first | (with_reducible first | exact HB.out | apply below_alloc | apply pw_below_drewN | apply below_drew1 | refine below_set ?_ GE272.out) | exact HB.out))))
                        have n3_ := Aside0.mk (blk_below (g := gb272) (o := .cells #[.string a6_0, .string a6_1] 25 (0, 0)) (by (with_reducible repeat (first | refine blk_drewN ?_ _ | refine blk_drew ?_ | refine blk_alloc ?_ _)); exact BK272.out) hb)
                        have n4_ := Aside0.mk (below_step (by repeat (first | (with_reducible first | exact HB.out | apply below_alloc | apply pw_below_drewN | apply below_drew1 | refine below_set ?_ GE272.out) | exact HB.out)) hb)
                        clear HO_51
                        clear HO317
                        clear BK272
                        clear HB
                        have HO_51 := n0_
                        have HO317 := n1_
                        have HO321 := n2_
                        have BK272 := n3_
                        have HB := n4_
                        clear n0_ n1_ n2_ n3_ n4_
                        clear hb ho85
                        obtain ⟨Ao86, co86, eo86⟩ := Kd.R_slice HO317.out
                        (first | subst eo86 | (injection eo86 with f1_ f2_ f3_; have f4_ := f1_.symm; have f5_ := f3_.symm; clear f1_ f2_ f3_; subst f4_; subst f5_))
                        refine hK.out _ _ ⟨(blk_cell BK272.out 0).trans rfl, (blk_cell BK272.out 1).trans rfl⟩ (fun hHeld => ?_)
                        clear hK K
                        refine norm_ (a' := ?_) ?_ ?_
                        rotate_left
                        · show Act.put _ (some 127) _ = _
                          simp only [Act.put, List.setIfInBounds_toArray, List.set_cons_zero, List.set_cons_succ, i64_w, i32_w]
                          rfl
                        refine one_ (i := 9) (N := some 124) #[true, true, true, true, true, true, true, true, true, true, true, true, true, false, false, false, false] rfl rfl (one_of HT_.out (by kernel_rfl)) (by decide) (fun K hK => ?_)
                        refine goes_ Tryd.func21 (by kernel_rfl) rfl #[.slice Ao86 y315.length co86] (by rfl) rfl rfl (by (try simp only [List.map_toArray, List.map_cons, List.map_nil]); first | done | rfl | (simp only [List.length_drop, List.length_take]; rfl)) ?_
                        with_reducible refine (field_Put.calls _ _ y315 t318 _ ?side1 ?side2 A77.out).mono ?_
                        (case side1 => repeat (first | exact (Kd.R_reads' HO317.out).2.2 | (with_reducible refine Kd.C_alloc ?_ _) | (with_reducible refine Kd.C_drewN ?_ _) | (with_reducible refine Kd.C_drew ?_)))
                        (case side2 => exact (Kd.R_reads' HO317.out).2.1)
                        rintro e w87 ⟨rfl, hb⟩
                        refine ⟨_, rfl, ?_⟩
                        have n0_ := Aside0.mk (Kd.R_below (by (with_reducible repeat (first | apply Kd.R_alloc | apply Kd.R_drewN | apply Kd.R_drew)); exact HO_51.out) hb)
                        have n1_ := Aside0.mk (Kd.R_below (by (with_reducible repeat (first | apply Kd.R_alloc | apply Kd.R_drewN | apply Kd.R_drew)); exact HO317.out) hb)
                        have n2_ := Aside0.mk (Kd.R_below (by (with_reducible repeat (first | apply Kd.R_alloc | apply Kd.R_drewN | apply Kd.R_drew)); exact HO321.out) hb)
                        have n3_ := Aside0.mk (blk_below (g := gb272) (o := .cells #[.string a6_0, .string a6_1] 25 (0, 0)) (by (with_reducible repeat (first | refine blk_drewN ?_ _ | refine blk_drew ?_ | refine blk_alloc ?_ _)); exact BK272.out) hb)
                        have n4_ := Aside0.mk (below_step (by repeat (first | (with_reducible first | exact HB.out | apply below_alloc | apply pw_below_drewN | apply below_drew1 | refine below_set ?_ GE272.out) | exact HB.out)) hb)
                        clear HO_51
                        clear HO317
                        clear HO321
                        clear BK272
                        clear HB
                        have HO_51 := n0_
                        have HO317 := n1_
                        have HO321 := n2_
                        have BK272 := n3_
                        have HB := n4_
                        clear n0_ n1_ n2_ n3_ n4_
                        (try clear hb)
                        (try clear hb2)
                        (try clear hk)
                        (try clear hi)
                        refine hK.out _ _ ⟨(blk_cell BK272.out 0).trans rfl, (blk_cell BK272.out 1).trans rfl⟩ (fun hHeld => ?_)
                        clear hK K
                        refine norm_ (a' := ?_) ?_ ?_
                        rotate_left
                        · show Act.put _ (some 124) _ = _
                          simp only [Act.put, List.setIfInBounds_toArray, List.set_cons_zero, List.set_cons_succ, i64_w, i32_w]
                          rfl
                        exact norm_ (by simp only [putAll, Act.put, List.setIfInBounds_toArray, List.set_cons_zero, List.set_cons_succ]) (hCont (.slice Ao86 y315.length co86, v320) _ ⟨hHeld, (by (with_reducible repeat (first | apply Kd.R_alloc | apply Kd.R_drewN | apply Kd.R_drew)); exact Kd.R_mono HO317.out (fun _ hk => ⟨hk.2, hk.1.2⟩)), (by (with_reducible repeat (first | apply Kd.R_alloc | apply Kd.R_drewN | apply Kd.R_drew)); exact Kd.R_mono HO321.out (fun _ hk => ⟨hk.1.2, hk.2⟩)), (by (with_reducible repeat (first | apply Kd.R_alloc | apply Kd.R_drewN | apply Kd.R_drew)); exact HO_51.out), (by (with_reducible repeat (first | refine blk_drewN ?_ _ | refine blk_drew ?_ | refine blk_alloc ?_ _)); exact BK272.out), (by repeat (first | (with_reducible first | exact HB.out | apply below_alloc | apply pw_below_drewN | apply below_drew1 | refine below_set ?_ GE272.out) | exact HB.out))⟩)
                    · skip
                      refine Kd.R_lit_step k25 _ 25 ?hg (N := 127) ?hd (xs := ([(⟨a6_0, a6_1⟩ : S25), (⟨a6_0, a6_1⟩ : S25)] : List (S25))) (inner := [.string a6_0, .string a6_1, .string a6_0, .string a6_1]) (ok := fun _ => True) (okp := fun _ => True) ?hr ?hp (fun _ hk => hk) trivial (Below.refl _ _) (Nat.le_refl _) (by simp) ?_; (case hd => rfl); (case hg => rfl); (case hr => first | (go_simp; done) | (go_simp; rfl)); (case hp => exact (Reps.c2 (show Kd.M k25 _ _ _ (⟨a6_0, a6_1⟩ : S25) [.string a6_0, .string a6_1] from (k25_mkM _ _ _ (⟨a6_0, a6_1⟩ : S25) )) (Reps.c2 (show Kd.M k25 _ _ _ (⟨a6_0, a6_1⟩ : S25) [.string a6_0, .string a6_1] from (k25_mkM _ _ _ (⟨a6_0, a6_1⟩ : S25) )) (Reps.none _ _))))
                      intro v320 w82 ho83 hb hg_ hnew_
                      clear hg_ hnew_
                      (first | rw [← Ny319.out] at ho83 | (simp only [Int.reduceToNat] at ho83; rw [← Ny319.out] at ho83))
                      have n0_ := Aside0.mk (Kd.R_below (by (with_reducible repeat (first | apply Kd.R_alloc | apply Kd.R_drewN | apply Kd.R_drew)); exact HO_51.out) hb)
                      have n1_ := Aside0.mk (Kd.R_lower (Kd.R_newB ho83 (g := gb272) (o := .cells #[.string a6_0, .string a6_1] 25 (0, 0)) (by (with_reducible repeat (first | refine blk_drewN ?_ _ | refine blk_drew ?_ | refine blk_alloc ?_ _)); exact BK272.out)) (below_size (by repeat (first | (with_reducible first | exact HB.out | apply below_alloc | apply pw_below_drewN | apply below_drew1 | refine below_set ?_ GE272.out) | exact HB.out))))
                      have n2_ := Aside0.mk (blk_below (g := gb272) (o := .cells #[.string a6_0, .string a6_1] 25 (0, 0)) (by (with_reducible repeat (first | refine blk_drewN ?_ _ | refine blk_drew ?_ | refine blk_alloc ?_ _)); exact BK272.out) hb)
                      have n3_ := Aside0.mk (below_step (by repeat (first | (with_reducible first | exact HB.out | apply below_alloc | apply pw_below_drewN | apply below_drew1 | refine below_set ?_ GE272.out) | exact HB.out)) hb)
                      clear HO_51
                      clear BK272
                      clear HB
                      have HO_51 := n0_
                      have HO321 := n1_
                      have BK272 := n2_
                      have HB := n3_
                      clear n0_ n1_ n2_ n3_
                      clear hb ho83
                      refine hK.out _ _ ⟨(blk_cell BK272.out 0).trans rfl, (blk_cell BK272.out 1).trans rfl⟩ (fun hHeld => ?_)
                      clear hK K
                      refine norm_ (a' := ?_) ?_ ?_
                      rotate_left
                      · show Act.put _ (some 127) _ = _
                        simp only [Act.put, List.setIfInBounds_toArray, List.set_cons_zero, List.set_cons_succ, i64_w, i32_w]
                        rfl
                      refine one_ (i := 8) (N := some 123) #[true, true, true, true, true, true, true, true, true, false, true, true, true, false, false, false, false] rfl rfl (one_of HT_.out (by kernel_rfl)) (by decide) (fun K hK => ?_)
                      refine Kd.R_lit_step k25 _ 25 ?hg (N := 123) ?hd (xs := ([(⟨a6_0, a6_1⟩ : S25), (⟨a6_0, a6_1⟩ : S25)] : List (S25))) (inner := [.string a6_0, .string a6_1, .string a6_0, .string a6_1]) (ok := fun _ => True) (okp := fun _ => True) ?hr ?hp (fun _ hk => hk) trivial (Below.refl _ _) (Nat.le_refl _) (by simp) ?_; (case hd => rfl); (case hg => rfl); (case hr => first | (go_simp; done) | (go_simp; rfl)); (case hp => exact (Reps.c2 (show Kd.M k25 _ _ _ (⟨a6_0, a6_1⟩ : S25) [.string a6_0, .string a6_1] from (k25_mkM _ _ _ (⟨a6_0, a6_1⟩ : S25) )) (Reps.c2 (show Kd.M k25 _ _ _ (⟨a6_0, a6_1⟩ : S25) [.string a6_0, .string a6_1] from (k25_mkM _ _ _ (⟨a6_0, a6_1⟩ : S25) )) (Reps.none _ _))))
                      intro v316 w84 ho85 hb hg_ hnew_
                      clear hg_ hnew_
                      (first | rw [← Ny315.out] at ho85 | (simp only [Int.reduceToNat] at ho85; rw [← Ny315.out] at ho85))
                      have n0_ := Aside0.mk (Kd.R_below (by (with_reducible repeat (first | apply Kd.R_alloc | apply Kd.R_drewN | apply Kd.R_drew)); exact HO_51.out) hb)
                      have n1_ := Aside0.mk (Kd.R_elder' (by (with_reducible repeat (first | apply Kd.R_alloc | apply Kd.R_drewN | apply Kd.R_drew)); exact HO321.out) (Kd.R_base ho85) hb)
                      have n2_ := Aside0.mk (Kd.R_lower (Kd.R_newB (Kd.R_new' ho85 (Kd.R_lt (by (with_reducible repeat (first | apply Kd.R_alloc | apply Kd.R_drewN | apply Kd.R_drew)); exact HO321.out))) (g := gb272) (o := .cells #[.string a6_0, .string a6_1] 25 (0, 0)) (by (with_reducible repeat (first | refine blk_drewN ?_ _ | refine blk_drew ?_ | refine blk_alloc ?_ _)); exact BK272.out)) (below_size (by repeat (first | (with_reducible first | exact HB.out | apply below_alloc | apply pw_below_drewN | apply below_drew1 | refine below_set ?_ GE272.out) | exact HB.out))))
                      have n3_ := Aside0.mk (blk_below (g := gb272) (o := .cells #[.string a6_0, .string a6_1] 25 (0, 0)) (by (with_reducible repeat (first | refine blk_drewN ?_ _ | refine blk_drew ?_ | refine blk_alloc ?_ _)); exact BK272.out) hb)
                      have n4_ := Aside0.mk (below_step (by repeat (first | (with_reducible first | exact HB.out | apply below_alloc | apply pw_below_drewN | apply below_drew1 | refine below_set ?_ GE272.out) | exact HB.out)) hb)
                      clear HO_51
                      clear HO321
                      clear BK272
                      clear HB
                      have HO_51 := n0_
                      have HO321 := n1_
                      have HO317 := n2_
                      have BK272 := n3_
                      have HB := n4_
                      clear n0_ n1_ n2_ n3_ n4_
                      clear hb ho85
                      obtain ⟨Ao86, co86, eo86⟩ := Kd.R_slice HO317.out
                      (first | subst eo86 | (injection eo86 with f1_ f2_ f3_; have f4_ := f1_.symm; have f5_ := f3_.symm; clear f1_ f2_ f3_; subst f4_; subst f5_))
                      refine hK.out _ _ ⟨(blk_cell BK272.out 0).trans rfl, (blk_cell BK272.out 1).trans rfl⟩ (fun hHeld => ?_)
                      clear hK K
                      refine norm_ (a' := ?_) ?_ ?_
                      rotate_left
                      · show Act.put _ (some 123) _ = _
                        simp only [Act.put, List.setIfInBounds_toArray, List.set_cons_zero, List.set_cons_succ, i64_w, i32_w]
                        rfl
                      refine one_ (i := 9) (N := some 124) #[true, true, true, true, true, true, true, true, true, true, true, true, true, false, false, false, false] rfl rfl (one_of HT_.out (by kernel_rfl)) (by decide) (fun K hK => ?_)
                      refine goes_ Tryd.func21 (by kernel_rfl) rfl #[.slice Ao86 y315.length co86] (by rfl) rfl rfl (by (try simp only [List.map_toArray, List.map_cons, List.map_nil]); first | done | rfl | (simp only [List.length_drop, List.length_take]; rfl)) ?_
                      with_reducible refine (field_Put.calls _ _ y315 t318 _ ?side1 ?side2 A77.out).mono ?_
                      (case side1 => repeat (first | exact (Kd.R_reads' HO317.out).2.2 | (with_reducible refine Kd.C_alloc ?_ _) | (with_reducible refine Kd.C_drewN ?_ _) | (with_reducible refine Kd.C_drew ?_)))
                      (case side2 => exact (Kd.R_reads' HO317.out).2.1)
                      rintro e w87 ⟨rfl, hb⟩
                      refine ⟨_, rfl, ?_⟩
                      have n0_ := Aside0.mk (Kd.R_below (by (with_reducible repeat (first | apply Kd.R_alloc | apply Kd.R_drewN | apply Kd.R_drew)); exact HO_51.out) hb)
                      have n1_ := Aside0.mk (Kd.R_below (by (with_reducible repeat (first | apply Kd.R_alloc | apply Kd.R_drewN | apply Kd.R_drew)); exact HO321.out) hb)
                      have n2_ := Aside0.mk (Kd.R_below (by (with_reducible repeat (first | apply Kd.R_alloc | apply Kd.R_drewN | apply Kd.R_drew)); exact HO317.out) hb)
                      have n3_ := Aside0.mk (blk_below (g := gb272) (o := .cells #[.string a6_0, .string a6_1] 25 (0, 0)) (by (with_reducible repeat (first | refine blk_drewN ?_ _ | refine blk_drew ?_ | refine blk_alloc ?_ _)); exact BK272.out) hb)
                      have n4_ := Aside0.mk (below_step (by repeat (first | (with_reducible first | exact HB.out | apply below_alloc | apply pw_below_drewN | apply below_drew1 | refine below_set ?_ GE272.out) | exact HB.out)) hb)
                      clear HO_51
                      clear HO321
                      clear HO317
                      clear BK272
                      clear HB
                      have HO_51 := n0_
                      have HO321 := n1_
                      have HO317 := n2_
                      have BK272 := n3_
                      have HB := n4_
                      clear n0_ n1_ n2_ n3_ n4_
                      (try clear hb)
                      (try clear hb2)
                      (try clear hk)
                      (try clear hi)
                      refine hK.out _ _ ⟨(blk_cell BK272.out 0).trans rfl, (blk_cell BK272.out 1).trans rfl⟩ (fun hHeld => ?_)
                      clear hK K
                      refine norm_ (a' := ?_) ?_ ?_
                      rotate_left
                      · show Act.put _ (some 124) _ = _
                        simp only [Act.put, List.setIfInBounds_toArray, List.set_cons_zero, List.set_cons_succ, i64_w, i32_w]
                        rfl
                      exact norm_ (by simp only [putAll, Act.put, List.setIfInBounds_toArray, List.set_cons_zero, List.set_cons_succ]) (hCont (.slice Ao86 y315.length co86, v320) _ ⟨hHeld, (by (with_reducible repeat (first | apply Kd.R_alloc | apply Kd.R_drewN | apply Kd.R_drew)); exact Kd.R_mono HO317.out (fun _ hk => ⟨hk.1.2, hk.2⟩)), (by (with_reducible repeat (first | apply Kd.R_alloc | apply Kd.R_drewN | apply Kd.R_drew)); exact Kd.R_mono HO321.out (fun _ hk => ⟨hk.2, hk.1.2⟩)), (by (with_reducible repeat (first | apply Kd.R_alloc | apply Kd.R_drewN | apply Kd.R_drew)); exact HO_51.out), (by (with_reducible repeat (first | refine blk_drewN ?_ _ | refine blk_drew ?_ | refine blk_alloc ?_ _)); exact BK272.out), (by repeat (first | (with_reducible first | exact HB.out | apply below_alloc | apply pw_below_drewN | apply below_drew1 | refine below_set ?_ GE272.out) | exact HB.out))⟩)
                  rintro ⟨v316, v320⟩ w88 ⟨hS_, h0_, h1_, h2_, h3_, h4_⟩
                  have n0_ : Aside0 (Kd.R k25 25 w88 w.heap.size (fun k_ => some k_ ≠ (v320 : Value).ownBlock ∧ k_ ≠ gb272) v316 y315) := ⟨h0_⟩
                  have n1_ : Aside0 (Kd.R k25 25 w88 w.heap.size (fun k_ => some k_ ≠ (v316 : Value).ownBlock ∧ k_ ≠ gb272) v320 y319) := ⟨h1_⟩
                  have n2_ : Aside0 (Kd.R Kd.string 9 w88 w.heap.size (fun _ => True) (.slice Ao32 y281.length co32) y281) := ⟨h2_⟩
                  have n3_ : Aside0 (w88.heap[gb272]? = some (.cells #[.string a6_0, .string a6_1] 25 (0, 0))) := ⟨h3_⟩
                  have n4_ : Aside0 (Below w.heap.size w w88) := ⟨h4_⟩
                  clear HO_51
                  clear BK272
                  clear HB
                  clear h0_ h1_ h2_ h3_ h4_
                  have HO317 := n0_
                  have HO321 := n1_
                  have HO_51 := n2_
                  have BK272 := n3_
                  have HB := n4_
                  clear n0_ n1_ n2_ n3_ n4_
                  have hHeld : w88.cell? ⟨gb272, 0, none⟩ = some (.string a6_0) ∧ w88.cell? ⟨gb272, 1, none⟩ = some (.string a6_1) := hS_
                  obtain ⟨Ao89, co89, eo89⟩ := Kd.R_slice HO321.out
                  (first | subst eo89 | (injection eo89 with f1_ f2_ f3_; have f4_ := f1_.symm; have f5_ := f3_.symm; clear f1_ f2_ f3_; subst f4_; subst f5_))
                  refine norm_ (a' := ?_) ?_ ?_
                  rotate_left
                  · simp only [putAll, Act.put, List.setIfInBounds_toArray, List.set_cons_zero, List.set_cons_succ]
                    rfl
                  refine one_ (i := 13) (N := some 128) #[true, true, true, true, true, true, true, true, true, true, true, true, true, true, false, false, false] rfl rfl (one_of HT_.out (by kernel_rfl)) (by decide) (fun K hK => ?_)
                  refine goes_ Tryd.func22 (by kernel_rfl) rfl #[.slice Ao89 y319.length co89] (by rfl) rfl rfl (by (try simp only [List.map_toArray, List.map_cons, List.map_nil]); first | done | rfl | (simp only [List.length_drop, List.length_take]; rfl)) ?_
                  with_reducible refine (parallaxref9_Put.calls k1 _ _ y319 t322 _ ?side1 ?side2 A78.out).mono ?_
                  (case side1 => repeat (first | exact (Kd.R_reads' HO321.out).2.2 | (with_reducible refine Kd.C_alloc ?_ _) | (with_reducible refine Kd.C_drewN ?_ _) | (with_reducible refine Kd.C_drew ?_)))
                  (case side2 => exact (Kd.R_reads' HO321.out).2.1)
                  rintro e w' ⟨rfl, ⟨nd, rfl⟩⟩
                  refine ⟨_, rfl, ?_⟩
                  refine hK.out _ _ ⟨(blk_cell BK272.out 0).trans rfl, (blk_cell BK272.out 1).trans rfl⟩ (fun hHeld => ?_)
                  clear hK K
                  refine norm_ (a' := ?_) ?_ ?_
                  rotate_left
                  · show Act.put _ (some 128) _ = _
                    simp only [Act.put, List.setIfInBounds_toArray, List.set_cons_zero, List.set_cons_succ, i64_w, i32_w]
                    rfl
                  refine pure_ (i := 14) (N := some 129) (v := ?_) (a' := ?_) #[true, true, true, true, true, true, true, true, true, true, true, true, true, true, true, false, false] rfl rfl (any_of HT_.out (by kernel_rfl)) (fun _ _ _ h => h) (Or.inl ⟨by rfl, ?_⟩) ?_ ?_
                  rotate_left
                  · intro w'
                    go_simp
                    with_reducible rfl
                  rotate_left
                  · simp only [Act.put, List.setIfInBounds_toArray, List.set_cons_zero, List.set_cons_succ, i64_w, i32_w]
                    rfl
                  refine pure_ (i := 15) (N := some 130) (v := ?_) (a' := ?_) #[true, true, true, true, true, true, true, true, true, true, true, true, true, true, true, true, false] rfl rfl (any_of HT_.out (by kernel_rfl)) (fun _ _ _ h => h) (Or.inl ⟨by rfl, ?_⟩) ?_ ?_
                  rotate_left
                  · intro w'
                    go_simp
                    with_reducible rfl
                  rotate_left
                  · simp only [Act.put, List.setIfInBounds_toArray, List.set_cons_zero, List.set_cons_succ, i64_w, i32_w]
                    rfl
                  refine pure_ (i := 16) (N := some 14) (v := ?_) (a' := ?_) #[true, true, true, true, true, true, true, true, true, true, true, true, true, true, true, true, true] rfl rfl (any_of HT_.out (by kernel_rfl)) (fun _ _ _ h => h) (Or.inl ⟨by rfl, ?_⟩) ?_ ?_
                  rotate_left
                  · intro w'
                    go_simp
                    with_reducible rfl
                  rotate_left
                  · simp only [Act.put, List.setIfInBounds_toArray, List.set_cons_zero, List.set_cons_succ, i64_w, i32_w]
                    rfl
                  refine done_ (done_of HT_.out (by kernel_rfl)) ?_
                  try go_wp2
                  go_ret
                  exact ⟨by first | rfl | (simp [errW_none, errW_some] <;> rfl) | (simp [*, errW_none, errW_some] <;> rfl), by repeat (first | (with_reducible first | exact HB.out | apply below_alloc | apply pw_below_drewN | apply below_drew1 | refine below_set ?_ GE272.out) | exact HB.out)⟩
                · rw [if_neg c76] at H
                  have c76b0 : (t313 == t314) = false := by simpa using c76
                  (try (have c76b1 : decide (t313 = t314) = false := by simpa using c76))
                  (try (have c76b2 : (t313 == t314) = false := by simpa using c76))
                  (try (have c76b3 : ¬ (t313 = t314) := by simpa using c76))
                  clear c76
                  exact absurd ((Option.some.inj H).trans HT.out) (by decide)
        · replace c17 := Bool.eq_false_iff.mpr c17
          subst c17
          rw [if_neg (show ¬ (false = true) by decide)] at H
          obtain rfl := Option.some.inj H
          go_enter Tryd.func3, Tryd.ntmps3
          go_wp2_with (first | ((with_reducible refine gate_dst (N := 13) rfl ?_); (try (refine gate_guard (by rfl) ?_; dsimp only)); refine box_event ?hg (N := 13) ?hd (cs := #[.string a6_0, .string a6_1]) (t := 25) ?hr ?_; (case hd => rfl); (case hg => rfl); (case hr => first | (go_simp; done) | (go_simp; rfl)); intro gb272 hg w90 hbox hb; have n0_ := Aside0.mk (below_step (by repeat (first | (with_reducible first | exact HB.out | apply below_alloc | apply pw_below_drewN | apply below_drew1) | exact HB.out)) hb); have n1_ := Aside0.mk (hbox); have n2_ := Aside0.mk ((by rw [hg]; exact (below_size (by repeat (first | (with_reducible first | exact HB.out | apply below_alloc | apply pw_below_drewN | apply below_drew1) | exact HB.out))) : w.heap.size ≤ gb272)); have n3_ := Aside0.mk ((by rw [hg]; exact (below_size (by repeat (first | (with_reducible first | exact HB.out | apply below_alloc | apply pw_below_drewN | apply below_drew1) | exact HB.out))) : w.heap.size ≤ gb272)); clear HB; have HB := n0_; have BK272 := n1_; have GW272 := n2_; have GE272 := n3_; clear n0_ n1_ n2_ n3_; clear hb hbox hg) | ((with_reducible refine gate_callee (f := 7) rfl ?_); refine goesL_ (some 26) rfl rfl Tryd.func7 (by kernel_rfl) rfl #[] rfl (by (try simp only [List.map_toArray, List.map_cons, List.map_nil]); first | done | rfl | (simp only [List.length_drop, List.length_take]; rfl)) ?_; (with_reducible refine (parallaxlaw9_known.calls k  true _ rfl A8.out).mono ?_); rintro e w91 ⟨rfl, hb⟩; refine ⟨_, rfl, ?_⟩; have n0_ := Aside0.mk (blk_below (g := gb272) (o := .cells #[.string a6_0, .string a6_1] 25 (0, 0)) (by (with_reducible repeat (first | refine blk_drewN ?_ _ | refine blk_drew ?_ | refine blk_alloc ?_ _)); exact BK272.out) hb); have n1_ := Aside0.mk (below_step (by repeat (first | (with_reducible first | exact HB.out | apply below_alloc | apply pw_below_drewN | apply below_drew1 | refine below_set ?_ GE272.out) | exact HB.out)) hb); clear BK272; clear HB; have BK272 := n0_; have HB := n1_; clear n0_ n1_; (try clear hb); (try clear hb2); (try clear hk); (try clear hi); have hcz92_0 : w91.cell? ⟨gb272, 0, none⟩ = some (.string a6_0) := (blk_cell BK272.out 0).trans rfl; have hcz92_1 : w91.cell? ⟨gb272, 1, none⟩ = some (.string a6_1) := (blk_cell BK272.out 1).trans rfl; have hfz92_0 := blk_frozen BK272.out 0; have hfz92_1 := blk_frozen BK272.out 1) | ((with_reducible refine gate_dst (N := 38) rfl ?_); (try (refine gate_guard (by rfl) ?_; dsimp only)); refine Kd.R_lit k25 _ 25 ?hg (N := 38) ?hd (xs := ([(⟨a6_0, a6_1⟩ : S25)] : List (S25))) (inner := [.string a6_0, .string a6_1]) (ok := fun _ => True) (okp := fun _ => True) ?hr ?hp (fun _ hk => hk) trivial (Below.refl _ _) (Nat.le_refl _) (by simp) ?_; (case hd => rfl); (case hg => rfl); (case hr => first | (go_simp; done) | (go_simp; rfl)); (case hp => exact (Reps.c2 (show Kd.M k25 _ _ _ (⟨a6_0, a6_1⟩ : S25) [.string a6_0, .string a6_1] from (k25_mkM _ _ _ (⟨a6_0, a6_1⟩ : S25) )) (Reps.none _ _))); intro v275 w93 ho94 hb hg_ hnew_; clear hg_ hnew_; (first | rw [← Ny274.out] at ho94 | (simp only [Int.reduceToNat] at ho94; rw [← Ny274.out] at ho94)); have n0_ := Aside0.mk (Kd.R_lower (Kd.R_newB ho94 (g := gb272) (o := .cells #[.string a6_0, .string a6_1] 25 (0, 0)) (by (with_reducible repeat (first | refine blk_drewN ?_ _ | refine blk_drew ?_ | refine blk_alloc ?_ _)); exact BK272.out)) (below_size (by repeat (first | (with_reducible first | exact HB.out | apply below_alloc | apply pw_below_drewN | apply below_drew1 | refine below_set ?_ GE272.out) | exact HB.out)))); have n1_ := Aside0.mk (blk_below (g := gb272) (o := .cells #[.string a6_0, .string a6_1] 25 (0, 0)) (by (with_reducible repeat (first | refine blk_drewN ?_ _ | refine blk_drew ?_ | refine blk_alloc ?_ _)); exact BK272.out) hb); have n2_ := Aside0.mk (below_step (by repeat (first | (with_reducible first | exact HB.out | apply below_alloc | apply pw_below_drewN | apply below_drew1 | refine below_set ?_ GE272.out) | exact HB.out)) hb); clear BK272; clear HB; have HO276 := n0_; have BK272 := n1_; have HB := n2_; clear n0_ n1_ n2_; clear hb ho94; obtain ⟨Ao95, co95, eo95⟩ := Kd.R_slice HO276.out; subst eo95) | (go_at_call 8; (with_reducible refine (parallaxhelp_Fields.calls k _ _ y274 false _ ?side1 ?side2 A16.out).mono ?_); (case side1 => repeat (first | exact (Kd.R_reads' HO276.out).2.2 | (with_reducible refine Kd.C_alloc ?_ _) | (with_reducible refine Kd.C_drewN ?_ _) | (with_reducible refine Kd.C_drew ?_))); (case side2 => exact (Kd.R_reads' HO276.out).2.1); rintro e w' ⟨rfl, ⟨nd, rfl⟩⟩) | (go_at_call 7; (with_reducible refine (parallaxlaw9_known.calls k  true _ rfl A8.out).mono ?_); rintro e w91 ⟨rfl, hb⟩; have n0_ := Aside0.mk (blk_below (g := gb272) (o := .cells #[.string a6_0, .string a6_1] 25 (0, 0)) (by (with_reducible repeat (first | refine blk_drewN ?_ _ | refine blk_drew ?_ | refine blk_alloc ?_ _)); exact BK272.out) hb); have n1_ := Aside0.mk (below_step (by repeat (first | (with_reducible first | exact HB.out | apply below_alloc | apply pw_below_drewN | apply below_drew1 | refine below_set ?_ GE272.out) | exact HB.out)) hb); clear BK272; clear HB; have BK272 := n0_; have HB := n1_; clear n0_ n1_; (try clear hb); (try clear hb2); (try clear hk); (try clear hi); have hcz92_0 : w91.cell? ⟨gb272, 0, none⟩ = some (.string a6_0) := (blk_cell BK272.out 0).trans rfl; have hcz92_1 : w91.cell? ⟨gb272, 1, none⟩ = some (.string a6_1) := (blk_cell BK272.out 1).trans rfl; have hfz92_0 := blk_frozen BK272.out 0; have hfz92_1 := blk_frozen BK272.out 1))
          go_ret
          exact ⟨by first | rfl | (simp [errW_none, errW_some] <;> rfl) | (simp [*, errW_none, errW_some] <;> rfl), by repeat (first | (with_reducible first | exact HB.out | apply below_alloc | apply pw_below_drewN | apply below_drew1 | refine below_set ?_ GE272.out) | exact HB.out)⟩
  · replace c9 := Bool.eq_false_iff.mpr c9
    subst c9
    rw [if_neg (show ¬ (false = true) by decide)] at H
    exact absurd ((Option.some.inj H).trans HT.out) (by decide)

/-- THE ONE PURE STATEMENT of parallaxlaw9_FieldTells: yours. -/
def parallaxlaw9_FieldTells.Pure : Prop := ∀ (a0 : ByteArray) (l1 : List Int) (a2 : Int) (a3 : Int) (a4 : Int) (a5 : Int) (a6_0 : ByteArray) (a6_1 : ByteArray), a0.size ≤ 140737488351232 → l1.length ≤ maxLen → l1.length * 1 ≤ 140737488351232 → (∀ x ∈ l1, (Lit.int .u8 x).wf = true) → (Lit.int .u32 a2).wf = true → (Lit.int .u8 a3).wf = true → (Lit.int .u8 a4).wf = true → (Lit.int .u8 a5).wf = true → (a6_0.size ≤ 140737488351232 ∧ a6_1.size ≤ 140737488351232) → ∃ k, parallaxlaw9_FieldTells.f k a0 l1 a2 a3 a4 a5 a6_0 a6_1 = some true

end Go.Proofs.YtijcibdpcolfpaaDoor.PFieldTells
