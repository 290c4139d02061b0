-- Written by a program of this session (wip/tools/myprint.sh)
import Derived.Test.YtclaaacdmaeblaaDoorPRequestMethodsx0
import Derived.Test.YtclaaacdmaeblaaDoorPRequestMethodsx8
namespace Go.Proofs.YtclaaacdmaeblaaDoor.PRequestMethods
open Go.RowKit Go.Proofs.YtclaaacdmaeblaaDoorW.PrintWords Go.Proofs.YtclaaacdmaeblaaDoorW.PrintLast Go.Proofs.YtclaaacdmaeblaaDoorW.PrintMore
attribute [local go_sem] max2_int min2_int max_two min_two max_three min_three max_four min_four   -- for this text's walks alone
set_option linter.unusedVariables false
set_option linter.unusedSimpArgs false

/-! ### parallaxlaw8_RequestMethods: function 6 -/
mutual
def parallaxlaw8_RequestMethods.l0 : Nat → List Int → Int → ByteArray → Bool → Int → Int → Int → Int → Int → Int → Int → Int → Int → Bool → Bool → Option (Bool)
  | 0, _, _, _, _, _, _, _, _, _, _, _, _, _, _, _ => none
  | k + 1, x0, x1, x6, x7, x8, x287000, x287001, x287002, x287003, x287004, x287005, x287006, x287007, x287008, x287009 => if x8 < (x0.length : Int) then (if 0 ≤ x8 then (if 0 ≤ (Int.tmod (rd x0 x8) 12) then (if (Int.tmod (rd x0 x8) 12) < 12 then ((some (([bt (⟨#[71, 69, 84, 120, 45, 33, 126, 55, 40, 47, 58, 64]⟩ : ByteArray) (Int.tmod (rd x0 x8) 12)] : List Int) : List Int)).bind fun y288 => (if x6.size + (strOfNums y288).size ≤ 9223372036854775807 then (if x7 = true then (parallaxlaw8_RequestMethods.j1 k x0 x1 (x6 ++ (strOfNums y288)) (decide ((Int.tmod (rd x0 x8) 12) < 8)) x8 x287000 x287001 x287002 x287003 x287004 x287005 x287006 x287007 x287008 x287009) else (parallaxlaw8_RequestMethods.j1 k x0 x1 (x6 ++ (strOfNums y288)) false x8 x287000 x287001 x287002 x287003 x287004 x287005 x287006 x287007 x287008 x287009)) else (none))) else (none)) else (none)) else (none)) else (parallaxlaw8_RequestMethods.l1 k x1 x6 x7 (⟨#[]⟩ : ByteArray) 0 x287000 x287001 x287002 x287003 x287004 x287005 x287006 x287007 x287008 x287009)
def parallaxlaw8_RequestMethods.j1 : Nat → List Int → Int → ByteArray → Bool → Int → Int → Int → Int → Int → Int → Int → Int → Int → Bool → Bool → Option (Bool)
  | 0, _, _, _, _, _, _, _, _, _, _, _, _, _, _, _ => none
  | k + 1, x0, x1, x6, x7, x8, x287000, x287001, x287002, x287003, x287004, x287005, x287006, x287007, x287008, x287009 => parallaxlaw8_RequestMethods.l0 k x0 x1 x6 x7 (wrap64 (x8 + 1)) x287000 x287001 x287002 x287003 x287004 x287005 x287006 x287007 x287008 x287009
def parallaxlaw8_RequestMethods.l1 : Nat → Int → ByteArray → Bool → ByteArray → Int → Int → Int → Int → Int → Int → Int → Int → Int → Bool → Bool → Option (Bool)
  | 0, _, _, _, _, _, _, _, _, _, _, _, _, _, _, _ => none
  | k + 1, x1, x6, x7, x9, x10, x287000, x287001, x287002, x287003, x287004, x287005, x287006, x287007, x287008, x287009 => if x10 < (wrap64 (30 + (wrap64 (Int.tmod x1 5)))) then (if x9.size + 1 ≤ 9223372036854775807 then (parallaxlaw8_RequestMethods.l1 k x1 x6 x7 (x9 ++ (⟨#[77]⟩ : ByteArray)) (wrap64 (x10 + 1)) x287000 x287001 x287002 x287003 x287004 x287005 x287006 x287007 x287008 x287009) else (none)) else (if x6.size + 12 ≤ 9223372036854775807 then ((request_Parse.f k (x6 ++ (⟨#[32, 47, 97, 32, 72, 84, 84, 80, 47, 49, 46, 49]⟩ : ByteArray)) 0 x287000 x287001 x287002 x287003 x287004 x287005 x287006 x287007 x287008 x287009).bind fun bt292 => (if x9.size + 12 ≤ 9223372036854775807 then ((request_Parse.f k (x9 ++ (⟨#[32, 47, 97, 32, 72, 84, 84, 80, 47, 49, 46, 49]⟩ : ByteArray)) 0 x287000 x287001 x287002 x287003 x287004 x287005 x287006 x287007 x287008 x287009).bind fun bt296 => (if ((bt292.2.2.2 == 0) == x7) = true then (if x7 = true then (if bt292.1.toList = x6.toList then (parallaxlaw8_RequestMethods.j3 k ((bt296.2.2.2 == 0) == (decide ((x9.size : Int) ≤ 32)))) else (parallaxlaw8_RequestMethods.j3 k false)) else (if bt292.2.2.2 = 400 then (parallaxlaw8_RequestMethods.j3 k ((bt296.2.2.2 == 0) == (decide ((x9.size : Int) ≤ 32)))) else (parallaxlaw8_RequestMethods.j3 k false))) else (parallaxlaw8_RequestMethods.j3 k false))) else (none))) else (none))
def parallaxlaw8_RequestMethods.j3 : Nat → Bool → Option (Bool)
  | 0, _ => none
  | k + 1, x4 => some x4
end
def parallaxlaw8_RequestMethods.f (k : Nat) (l0 : List Int) (a1 : Int) : Option (Bool) := (parallaxlaw8_known.f k).bind fun t275 => (if t275 = true then (if (l0.length : Int) > 20 then (some true) else ((parallaxref4_Usual.f).bind fun bt276 => (parallaxlaw8_RequestMethods.l0 k l0 a1 (⟨#[]⟩ : ByteArray) (decide ((l0.length : Int) > 0)) 0 bt276.1 bt276.2.1 bt276.2.2.1 bt276.2.2.2.1 bt276.2.2.2.2.1 bt276.2.2.2.2.2.1 bt276.2.2.2.2.2.2.1 bt276.2.2.2.2.2.2.2.1 bt276.2.2.2.2.2.2.2.2.1 bt276.2.2.2.2.2.2.2.2.2))) else (some false))
theorem parallaxlaw8_RequestMethods.mono_l : ∀ k, (∀ y0 y1 y2 y3 y4 y5 y6 y7 y8 y9 y10 y11 y12 y13 y14, LeO (parallaxlaw8_RequestMethods.l0 k y0 y1 y2 y3 y4 y5 y6 y7 y8 y9 y10 y11 y12 y13 y14) (parallaxlaw8_RequestMethods.l0 (k + 1) y0 y1 y2 y3 y4 y5 y6 y7 y8 y9 y10 y11 y12 y13 y14)) ∧ (∀ y0 y1 y2 y3 y4 y5 y6 y7 y8 y9 y10 y11 y12 y13 y14, LeO (parallaxlaw8_RequestMethods.j1 k y0 y1 y2 y3 y4 y5 y6 y7 y8 y9 y10 y11 y12 y13 y14) (parallaxlaw8_RequestMethods.j1 (k + 1) y0 y1 y2 y3 y4 y5 y6 y7 y8 y9 y10 y11 y12 y13 y14)) ∧ (∀ y0 y1 y2 y3 y4 y5 y6 y7 y8 y9 y10 y11 y12 y13 y14, LeO (parallaxlaw8_RequestMethods.l1 k y0 y1 y2 y3 y4 y5 y6 y7 y8 y9 y10 y11 y12 y13 y14) (parallaxlaw8_RequestMethods.l1 (k + 1) y0 y1 y2 y3 y4 y5 y6 y7 y8 y9 y10 y11 y12 y13 y14)) ∧ (∀ y0, LeO (parallaxlaw8_RequestMethods.j3 k y0) (parallaxlaw8_RequestMethods.j3 (k + 1) y0))
  | 0 => ⟨fun _ _ _ _ _ _ _ _ _ _ _ _ _ _ _ r h => by simp [parallaxlaw8_RequestMethods.l0] at h, fun _ _ _ _ _ _ _ _ _ _ _ _ _ _ _ r h => by simp [parallaxlaw8_RequestMethods.j1] at h, fun _ _ _ _ _ _ _ _ _ _ _ _ _ _ _ r h => by simp [parallaxlaw8_RequestMethods.l1] at h, fun _ r h => by simp [parallaxlaw8_RequestMethods.j3] at h⟩
  | k + 1 => by
    obtain ⟨ih0, ih1, ih2, ih3⟩ := parallaxlaw8_RequestMethods.mono_l k
    refine ⟨?_, ?_, ?_, ?_⟩
    · intro y0 y1 y2 y3 y4 y5 y6 y7 y8 y9 y10 y11 y12 y13 y14
      unfold parallaxlaw8_RequestMethods.l0
      repeat' first
      | (with_reducible exact ih0 _ _ _ _ _ _ _ _ _ _ _ _ _ _ _)
      | (with_reducible exact ih1 _ _ _ _ _ _ _ _ _ _ _ _ _ _ _)
      | (with_reducible exact ih2 _ _ _ _ _ _ _ _ _ _ _ _ _ _ _)
      | (with_reducible exact ih3 _)
      | (with_reducible exact parallaxlaw8_known.mono _)
      | (with_reducible exact request_Parse.mono _ _ _ _ _ _ _ _ _ _ _ _ _)
      | (with_reducible exact LeO.refl _)
      | (with_reducible exact LeO.none _)
      | (with_reducible refine LeO.ite ?_ ?_)
      | (with_reducible refine LeO.bind ?_ (fun _ => ?_))
      | exact ih0 _ _ _ _ _ _ _ _ _ _ _ _ _ _ _
      | exact ih1 _ _ _ _ _ _ _ _ _ _ _ _ _ _ _
      | exact ih2 _ _ _ _ _ _ _ _ _ _ _ _ _ _ _
      | exact ih3 _
      | exact parallaxlaw8_known.mono _
      | exact request_Parse.mono _ _ _ _ _ _ _ _ _ _ _ _ _
      | exact LeO.none _
      | refine LeO.ite ?_ ?_
      | refine LeO.bind ?_ (fun _ => ?_)
    · intro y0 y1 y2 y3 y4 y5 y6 y7 y8 y9 y10 y11 y12 y13 y14
      unfold parallaxlaw8_RequestMethods.j1
      repeat' first
      | (with_reducible exact ih0 _ _ _ _ _ _ _ _ _ _ _ _ _ _ _)
      | (with_reducible exact ih1 _ _ _ _ _ _ _ _ _ _ _ _ _ _ _)
      | (with_reducible exact ih2 _ _ _ _ _ _ _ _ _ _ _ _ _ _ _)
      | (with_reducible exact ih3 _)
      | (with_reducible exact parallaxlaw8_known.mono _)
      | (with_reducible exact request_Parse.mono _ _ _ _ _ _ _ _ _ _ _ _ _)
      | (with_reducible exact LeO.refl _)
      | (with_reducible exact LeO.none _)
      | (with_reducible refine LeO.ite ?_ ?_)
      | (with_reducible refine LeO.bind ?_ (fun _ => ?_))
      | exact ih0 _ _ _ _ _ _ _ _ _ _ _ _ _ _ _
      | exact ih1 _ _ _ _ _ _ _ _ _ _ _ _ _ _ _
      | exact ih2 _ _ _ _ _ _ _ _ _ _ _ _ _ _ _
      | exact ih3 _
      | exact parallaxlaw8_known.mono _
      | exact request_Parse.mono _ _ _ _ _ _ _ _ _ _ _ _ _
      | exact LeO.none _
      | refine LeO.ite ?_ ?_
      | refine LeO.bind ?_ (fun _ => ?_)
    · intro y0 y1 y2 y3 y4 y5 y6 y7 y8 y9 y10 y11 y12 y13 y14
      unfold parallaxlaw8_RequestMethods.l1
      repeat' first
      | (with_reducible exact ih0 _ _ _ _ _ _ _ _ _ _ _ _ _ _ _)
      | (with_reducible exact ih1 _ _ _ _ _ _ _ _ _ _ _ _ _ _ _)
      | (with_reducible exact ih2 _ _ _ _ _ _ _ _ _ _ _ _ _ _ _)
      | (with_reducible exact ih3 _)
      | (with_reducible exact parallaxlaw8_known.mono _)
      | (with_reducible exact request_Parse.mono _ _ _ _ _ _ _ _ _ _ _ _ _)
      | (with_reducible exact LeO.refl _)
      | (with_reducible exact LeO.none _)
      | (with_reducible refine LeO.ite ?_ ?_)
      | (with_reducible refine LeO.bind ?_ (fun _ => ?_))
      | exact ih0 _ _ _ _ _ _ _ _ _ _ _ _ _ _ _
      | exact ih1 _ _ _ _ _ _ _ _ _ _ _ _ _ _ _
      | exact ih2 _ _ _ _ _ _ _ _ _ _ _ _ _ _ _
      | exact ih3 _
      | exact parallaxlaw8_known.mono _
      | exact request_Parse.mono _ _ _ _ _ _ _ _ _ _ _ _ _
      | exact LeO.none _
      | refine LeO.ite ?_ ?_
      | refine LeO.bind ?_ (fun _ => ?_)
    · intro y0
      unfold parallaxlaw8_RequestMethods.j3
      repeat' first
      | (with_reducible exact ih0 _ _ _ _ _ _ _ _ _ _ _ _ _ _ _)
      | (with_reducible exact ih1 _ _ _ _ _ _ _ _ _ _ _ _ _ _ _)
      | (with_reducible exact ih2 _ _ _ _ _ _ _ _ _ _ _ _ _ _ _)
      | (with_reducible exact ih3 _)
      | (with_reducible exact parallaxlaw8_known.mono _)
      | (with_reducible exact request_Parse.mono _ _ _ _ _ _ _ _ _ _ _ _ _)
      | (with_reducible exact LeO.refl _)
      | (with_reducible exact LeO.none _)
      | (with_reducible refine LeO.ite ?_ ?_)
      | (with_reducible refine LeO.bind ?_ (fun _ => ?_))
      | exact ih0 _ _ _ _ _ _ _ _ _ _ _ _ _ _ _
      | exact ih1 _ _ _ _ _ _ _ _ _ _ _ _ _ _ _
      | exact ih2 _ _ _ _ _ _ _ _ _ _ _ _ _ _ _
      | exact ih3 _
      | exact parallaxlaw8_known.mono _
      | exact request_Parse.mono _ _ _ _ _ _ _ _ _ _ _ _ _
      | exact LeO.none _
      | refine LeO.ite ?_ ?_
      | refine LeO.bind ?_ (fun _ => ?_)
theorem parallaxlaw8_RequestMethods.mono : ∀ a0 a1 k, LeO (parallaxlaw8_RequestMethods.f k a0 a1) (parallaxlaw8_RequestMethods.f (k + 1) a0 a1) := by
  intro a0 a1 k
  obtain ⟨ih0, ih1, ih2, ih3⟩ := parallaxlaw8_RequestMethods.mono_l k
  unfold parallaxlaw8_RequestMethods.f
  repeat' first
      | (with_reducible exact ih0 _ _ _ _ _ _ _ _ _ _ _ _ _ _ _)
      | (with_reducible exact ih1 _ _ _ _ _ _ _ _ _ _ _ _ _ _ _)
      | (with_reducible exact ih2 _ _ _ _ _ _ _ _ _ _ _ _ _ _ _)
      | (with_reducible exact ih3 _)
      | (with_reducible exact parallaxlaw8_known.mono _)
      | (with_reducible exact request_Parse.mono _ _ _ _ _ _ _ _ _ _ _ _ _)
      | (with_reducible exact LeO.refl _)
      | (with_reducible exact LeO.none _)
      | (with_reducible refine LeO.ite ?_ ?_)
      | (with_reducible refine LeO.bind ?_ (fun _ => ?_))
      | exact ih0 _ _ _ _ _ _ _ _ _ _ _ _ _ _ _
      | exact ih1 _ _ _ _ _ _ _ _ _ _ _ _ _ _ _
      | exact ih2 _ _ _ _ _ _ _ _ _ _ _ _ _ _ _
      | exact ih3 _
      | exact parallaxlaw8_known.mono _
      | exact request_Parse.mono _ _ _ _ _ _ _ _ _ _ _ _ _
      | exact LeO.none _
      | refine LeO.ite ?_ ?_
      | refine LeO.bind ?_ (fun _ => ?_)
set_option maxHeartbeats 8000000 in
set_option maxRecDepth 100000 in
theorem parallaxlaw8_RequestMethods.calls (k : Nat) (A0 : Option Addr) (c0 : Nat) (l0 : List Int) (a1 : Int) (r : Bool) (w : World) (hr0 : Kd.C (Kd.int .u8) w A0 l0.length l0) (hc0 : l0.length ≤ c0) (hq1 : (Lit.int .u8 a1).wf = true) (hT : r = true) (h : parallaxlaw8_RequestMethods.f k l0 a1 = some r) :
    Calls Tryd.prog 6 #[.slice A0 l0.length c0, .int .u8 a1] w fun e w' => e = .returned (.bool r) ∧ Below w.heap.size w w' := by
  have hu28 := Tryd.underlying28
  have HQ1 := Aside0.mk hq1
  clear hq1
  have HT := Aside0.mk hT
  clear hT
  have HR0 := Aside0.mk hr0
  have HC0 := Aside0.mk hc0
  clear hr0 hc0
  have HB := Aside0.mk (Below.refl w.heap.size w)
  have H : ((parallaxlaw8_known.f k).bind fun t275 => (if t275 = true then (if (l0.length : Int) > 20 then (some true) else ((parallaxref4_Usual.f).bind fun bt276 => (parallaxlaw8_RequestMethods.l0 k l0 a1 (⟨#[]⟩ : ByteArray) (decide ((l0.length : Int) > 0)) 0 bt276.1 bt276.2.1 bt276.2.2.1 bt276.2.2.2.1 bt276.2.2.2.2.1 bt276.2.2.2.2.2.1 bt276.2.2.2.2.2.2.1 bt276.2.2.2.2.2.2.2.1 bt276.2.2.2.2.2.2.2.2.1 bt276.2.2.2.2.2.2.2.2.2))) else (some false))) = some r := h
  clear h
  replace H := Option.bind_eq_some_iff.mp H
  obtain ⟨t275, A30, H⟩ := H
  (try dsimp only at H)
  have A3 := Aside0.mk A30
  clear A30
  by_cases c4 : t275 = true
  · subst c4
    rw [if_pos rfl] at H
    by_cases c5 : (l0.length : Int) > 20
    · rw [if_pos c5] at H
      have c5b0 : decide (20 < (l0.length : Int)) = true := decide_eq_true c5
      have c5b1 : decide (20 < l0.length) = true := decide_eq_true (by omega)
      clear c5
      obtain rfl := Option.some.inj H
      go_enter Tryd.func6, Tryd.ntmps6
      go_wp2_with (first | ((with_reducible refine gate_callee (f := 7) rfl ?_); refine goesL_ (some 19) rfl rfl Tryd.func7 (by kernel_rfl) rfl #[] rfl (by (try simp only [List.map_toArray, List.map_cons, List.map_nil]); first | done | rfl | (simp only [List.length_drop, List.length_take]; rfl)) ?_; (with_reducible refine (parallaxlaw8_known.calls k  true _ rfl A3.out).mono ?_); rintro e w6 ⟨rfl, hb⟩; refine ⟨_, rfl, ?_⟩; have n0_ := Aside0.mk (below_step (by repeat (first | (with_reducible first | exact HB.out | apply below_alloc | apply pw_below_drewN | apply below_drew1) | exact HB.out)) hb); clear HB; have HB := n0_; clear n0_; (try clear hb); (try clear hb2); (try clear hk); (try clear hi)) | (go_at_call 7; (with_reducible refine (parallaxlaw8_known.calls k  true _ rfl A3.out).mono ?_); rintro e w6 ⟨rfl, hb⟩; have n0_ := Aside0.mk (below_step (by repeat (first | (with_reducible first | exact HB.out | apply below_alloc | apply pw_below_drewN | apply below_drew1) | exact HB.out)) hb); clear HB; have HB := n0_; clear n0_; (try clear hb); (try clear hb2); (try clear hk); (try clear hi)))
      (try any_goals (exfalso; have h_ := ‹some undef = some (Value.bool _)›; revert h_; simp [undef]; done))
      go_ret
      exact ⟨by first | rfl | (simp [errW_none, errW_some] <;> rfl) | (simp [*, errW_none, errW_some] <;> rfl), by repeat (first | (with_reducible first | exact HB.out | apply below_alloc | apply pw_below_drewN | apply below_drew1) | exact HB.out)⟩
    · rw [if_neg c5] at H
      have c5b0 : decide (20 < (l0.length : Int)) = false := decide_eq_false c5
      have c5b1 : decide (20 < l0.length) = false := decide_eq_false (by omega)
      clear c5
      replace H := Option.bind_eq_some_iff.mp H
      obtain ⟨⟨t276, t277, t278, t279, t280, t281, t282, t283, t284, t285⟩, A70, H⟩ := H
      (try dsimp only at H)
      have A7 := Aside0.mk A70
      clear A70
      have H' := Aside0.mk H
      clear H
      go_enter Tryd.func6, Tryd.ntmps6
      go_wp2_with (first | ((with_reducible refine gate_callee (f := 7) rfl ?_); refine goesL_ (some 19) rfl rfl Tryd.func7 (by kernel_rfl) rfl #[] rfl (by (try simp only [List.map_toArray, List.map_cons, List.map_nil]); first | done | rfl | (simp only [List.length_drop, List.length_take]; rfl)) ?_; (with_reducible refine (parallaxlaw8_known.calls k  true _ rfl A3.out).mono ?_); rintro e w8 ⟨rfl, hb⟩; refine ⟨_, rfl, ?_⟩; have n0_ := Aside0.mk (below_step (by repeat (first | (with_reducible first | exact HB.out | apply below_alloc | apply pw_below_drewN | apply below_drew1) | exact HB.out)) hb); clear HB; have HB := n0_; clear n0_; (try clear hb); (try clear hb2); (try clear hk); (try clear hi)) | ((with_reducible refine gate_callee (f := 17) rfl ?_); refine goesL_ (some 24) rfl rfl Tryd.func17 (by kernel_rfl) rfl #[] rfl (by (try simp only [List.map_toArray, List.map_cons, List.map_nil]); first | done | rfl | (simp only [List.length_drop, List.length_take]; rfl)) ?_; (with_reducible refine (parallaxref4_Usual.calls  t276 t277 t278 t279 t280 t281 t282 t283 t284 t285 _ A7.out).mono ?_); rintro e w9 ⟨rfl, hb⟩; refine ⟨_, rfl, ?_⟩; have n0_ := Aside0.mk (below_step (by repeat (first | (with_reducible first | exact HB.out | apply below_alloc | apply pw_below_drewN | apply below_drew1) | exact HB.out)) hb); clear HB; have HB := n0_; clear n0_; (try clear hb); (try clear hb2); (try clear hk); (try clear hi)) | ((with_reducible refine gate_dst (N := 5) rfl ?_); (try (refine gate_guard (by rfl) ?_; dsimp only)); refine box_event ?hg (N := 5) ?hd (cs := #[.int .i64 0, .int .i64 0, .int .i64 0, .int .i64 0, .int .i64 0, .int .i64 0, .int .i64 0, .int .i64 0, .bool false, .bool false]) (t := 28) ?hr ?_; (case hd => rfl); (case hg => rfl); (case hr => first | (go_simp; done) | (go_simp; rfl)); intro gb286 hg w10 hbox hb; have n0_ := Aside0.mk (below_step (by repeat (first | (with_reducible first | exact HB.out | apply below_alloc | apply pw_below_drewN | apply below_drew1) | exact HB.out)) hb); have n1_ := Aside0.mk (hbox); have n2_ := Aside0.mk ((by rw [hg]; exact (below_size (by repeat (first | (with_reducible first | exact HB.out | apply below_alloc | apply pw_below_drewN | apply below_drew1) | exact HB.out))) : w.heap.size ≤ gb286)); have n3_ := Aside0.mk ((by rw [hg]; exact (below_size (by repeat (first | (with_reducible first | exact HB.out | apply below_alloc | apply pw_below_drewN | apply below_drew1) | exact HB.out))) : w.heap.size ≤ gb286)); clear HB; have HB := n0_; have BK286 := n1_; have GW286 := n2_; have GE286 := n3_; clear n0_ n1_ n2_ n3_; clear hb hbox hg; have hcz11_0 : w10.cell? ⟨gb286, 0, none⟩ = some (.int .i64 0) := (blk_cell BK286.out 0).trans rfl; have hcz11_1 : w10.cell? ⟨gb286, 1, none⟩ = some (.int .i64 0) := (blk_cell BK286.out 1).trans rfl; have hcz11_2 : w10.cell? ⟨gb286, 2, none⟩ = some (.int .i64 0) := (blk_cell BK286.out 2).trans rfl; have hcz11_3 : w10.cell? ⟨gb286, 3, none⟩ = some (.int .i64 0) := (blk_cell BK286.out 3).trans rfl; have hcz11_4 : w10.cell? ⟨gb286, 4, none⟩ = some (.int .i64 0) := (blk_cell BK286.out 4).trans rfl; have hcz11_5 : w10.cell? ⟨gb286, 5, none⟩ = some (.int .i64 0) := (blk_cell BK286.out 5).trans rfl; have hcz11_6 : w10.cell? ⟨gb286, 6, none⟩ = some (.int .i64 0) := (blk_cell BK286.out 6).trans rfl; have hcz11_7 : w10.cell? ⟨gb286, 7, none⟩ = some (.int .i64 0) := (blk_cell BK286.out 7).trans rfl; have hcz11_8 : w10.cell? ⟨gb286, 8, none⟩ = some (.bool false) := (blk_cell BK286.out 8).trans rfl; have hcz11_9 : w10.cell? ⟨gb286, 9, none⟩ = some (.bool false) := (blk_cell BK286.out 9).trans rfl; have hfz11_0 := blk_frozen BK286.out 0; have hfz11_1 := blk_frozen BK286.out 1; have hfz11_2 := blk_frozen BK286.out 2; have hfz11_3 := blk_frozen BK286.out 3; have hfz11_4 := blk_frozen BK286.out 4; have hfz11_5 := blk_frozen BK286.out 5; have hfz11_6 := blk_frozen BK286.out 6; have hfz11_7 := blk_frozen BK286.out 7; have hfz11_8 := blk_frozen BK286.out 8; have hfz11_9 := blk_frozen BK286.out 9) | (go_at_call 7; (with_reducible refine (parallaxlaw8_known.calls k  true _ rfl A3.out).mono ?_); rintro e w8 ⟨rfl, hb⟩; have n0_ := Aside0.mk (below_step (by repeat (first | (with_reducible first | exact HB.out | apply below_alloc | apply pw_below_drewN | apply below_drew1) | exact HB.out)) hb); clear HB; have HB := n0_; clear n0_; (try clear hb); (try clear hb2); (try clear hk); (try clear hi)) | (go_at_call 17; (with_reducible refine (parallaxref4_Usual.calls  t276 t277 t278 t279 t280 t281 t282 t283 t284 t285 _ A7.out).mono ?_); rintro e w9 ⟨rfl, hb⟩; have n0_ := Aside0.mk (below_step (by repeat (first | (with_reducible first | exact HB.out | apply below_alloc | apply pw_below_drewN | apply below_drew1) | exact HB.out)) hb); clear HB; have HB := n0_; clear n0_; (try clear hb); (try clear hb2); (try clear hk); (try clear hi)))
      (try any_goals (exfalso; have h_ := ‹some undef = some (Value.bool _)›; revert h_; simp [undef]; done))
      go_loopg [6, 7, 8] k (fun kq v6 v7 v8 w' => ∃ (x6_1 : ByteArray) (x7_1 : Bool) (x8_1 : Int), v6 = .string x6_1 ∧ v7 = .bool x7_1 ∧ v8 = .int .i64 x8_1 ∧ Aside0 (parallaxlaw8_RequestMethods.l0 kq l0 a1 x6_1 x7_1 x8_1 t276 t277 t278 t279 t280 t281 t282 t283 t284 t285 = some r) ∧ Aside0 (kq ≤ k) ∧ Aside0 (w'.heap[gb286]? = some (.cells #[.int .i64 t276, .int .i64 t277, .int .i64 t278, .int .i64 t279, .int .i64 t280, .int .i64 t281, .int .i64 t282, .int .i64 t283, .bool t284, .bool t285] 28 (0, 0))) ∧ Aside0 (Below w.heap.size w w'))
      case atStart => exact ⟨((⟨#[]⟩ : ByteArray)), (decide ((l0.length : Int) > 0)), (0), (by first | rfl | (simp; done) | (simp [*]; done)), (by first | rfl | (simp; done) | (simp [*]; done)), (by first | rfl | (simp; done) | (simp [*]; done)), H', ⟨Nat.le_refl _⟩, ⟨by (with_reducible repeat (first | refine blk_drewN ?_ _ | refine blk_drew ?_ | refine blk_alloc ?_ _)); refine blk_put (cs := #[.int .i64 t276, .int .i64 t277, .int .i64 t278, .int .i64 t279, .int .i64 t280, .int .i64 t281, .int .i64 t282, .int .i64 t283, .bool t284, .bool false]) ?_ 9 _ rfl; (with_reducible repeat (first | refine blk_drewN ?_ _ | refine blk_drew ?_ | refine blk_alloc ?_ _)); refine blk_put (cs := #[.int .i64 t276, .int .i64 t277, .int .i64 t278, .int .i64 t279, .int .i64 t280, .int .i64 t281, .int .i64 t282, .int .i64 t283, .bool false, .bool false]) ?_ 8 _ rfl; (with_reducible repeat (first | refine blk_drewN ?_ _ | refine blk_drew ?_ | refine blk_alloc ?_ _)); refine blk_put (cs := #[.int .i64 t276, .int .i64 t277, .int .i64 t278, .int .i64 t279, .int .i64 t280, .int .i64 t281, .int .i64 t282, .int .i64 0, .bool false, .bool false]) ?_ 7 _ rfl; (with_reducible repeat (first | refine blk_drewN ?_ _ | refine blk_drew ?_ | refine blk_alloc ?_ _)); refine blk_put (cs := #[.int .i64 t276, .int .i64 t277, .int .i64 t278, .int .i64 t279, .int .i64 t280, .int .i64 t281, .int .i64 0, .int .i64 0, .bool false, .bool false]) ?_ 6 _ rfl; (with_reducible repeat (first | refine blk_drewN ?_ _ | refine blk_drew ?_ | refine blk_alloc ?_ _)); refine blk_put (cs := #[.int .i64 t276, .int .i64 t277, .int .i64 t278, .int .i64 t279, .int .i64 t280, .int .i64 0, .int .i64 0, .int .i64 0, .bool false, .bool false]) ?_ 5 _ rfl; (with_reducible repeat (first | refine blk_drewN ?_ _ | refine blk_drew ?_ | refine blk_alloc ?_ _)); refine blk_put (cs := #[.int .i64 t276, .int .i64 t277, .int .i64 t278, .int .i64 t279, .int .i64 0, .int .i64 0, .int .i64 0, .int .i64 0, .bool false, .bool false]) ?_ 4 _ rfl; (with_reducible repeat (first | refine blk_drewN ?_ _ | refine blk_drew ?_ | refine blk_alloc ?_ _)); refine blk_put (cs := #[.int .i64 t276, .int .i64 t277, .int .i64 t278, .int .i64 0, .int .i64 0, .int .i64 0, .int .i64 0, .int .i64 0, .bool false, .bool false]) ?_ 3 _ rfl; (with_reducible repeat (first | refine blk_drewN ?_ _ | refine blk_drew ?_ | refine blk_alloc ?_ _)); refine blk_put (cs := #[.int .i64 t276, .int .i64 t277, .int .i64 0, .int .i64 0, .int .i64 0, .int .i64 0, .int .i64 0, .int .i64 0, .bool false, .bool false]) ?_ 2 _ rfl; (with_reducible repeat (first | refine blk_drewN ?_ _ | refine blk_drew ?_ | refine blk_alloc ?_ _)); refine blk_put (cs := #[.int .i64 t276, .int .i64 0, .int .i64 0, .int .i64 0, .int .i64 0, .int .i64 0, .int .i64 0, .int .i64 0, .bool false, .bool false]) ?_ 1 _ rfl; (with_reducible repeat (first | refine blk_drewN ?_ _ | refine blk_drew ?_ | refine blk_alloc ?_ _)); refine blk_put (cs := #[.int .i64 0, .int .i64 0, .int .i64 0, .int .i64 0, .int .i64 0, .int .i64 0, .int .i64 0, .int .i64 0, .bool false, .bool false]) ?_ 0 _ rfl; (with_reducible repeat (first | refine blk_drewN ?_ _ | refine blk_drew ?_ | refine blk_alloc ?_ _)); exact BK286.out⟩, ⟨by repeat (first | (with_reducible first | exact HB.out | apply below_alloc | apply pw_below_drewN | apply below_drew1 | refine below_set ?_ GE286.out) | exact HB.out)⟩⟩
      case round =>
        clear H'
        try clear c1
        try clear q1
        try clear p2
        try clear c4
        try clear c5
        try clear c5b0
        try clear c5b1
        try clear c6
        try clear c7
        try clear hcz11_0
        try clear hcz11_1
        try clear hcz11_2
        try clear hcz11_3
        try clear hcz11_4
        try clear hcz11_5
        try clear hcz11_6
        try clear hcz11_7
        try clear hcz11_8
        try clear hcz11_9
        try clear hfz11_0
        try clear hfz11_1
        try clear hfz11_2
        try clear hfz11_3
        try clear hfz11_4
        try clear hfz11_5
        try clear hfz11_6
        try clear hfz11_7
        try clear hfz11_8
        try clear hfz11_9
        obtain ⟨x6_1, x7_1, x8_1, rfl, rfl, rfl, HA, HK1, BK286, HB⟩ := hrel
        cases gk with
        | zero => exact absurd HA.out (by simp [parallaxlaw8_RequestMethods.l0])
        | succ k1 =>
          have H := HA.out
          clear HA
          simp only [parallaxlaw8_RequestMethods.l0] at H
          by_cases c12 : x8_1 < (l0.length : Int)
          · rw [if_pos c12] at H
            have c12b0 : decide (x8_1 < (l0.length : Int)) = true := decide_eq_true c12
            clear c12
            have HC13 := Aside0.mk H
            clear H
            go_upto_block 1 with (fail)
            go_cut [6, 7] (fun v6 v7 wc => ∃ (kq : Nat) (x6_12 : ByteArray) (x7_12 : Bool), v6 = .string x6_12 ∧ v7 = .bool x7_12 ∧ Aside0 (parallaxlaw8_RequestMethods.j1 kq l0 a1 x6_12 x7_12 x8_1 t276 t277 t278 t279 t280 t281 t282 t283 t284 t285 = some r) ∧ Aside0 (kq ≤ k1) ∧ Aside0 (wc.heap[gb286]? = some (.cells #[.int .i64 t276, .int .i64 t277, .int .i64 t278, .int .i64 t279, .int .i64 t280, .int .i64 t281, .int .i64 t282, .int .i64 t283, .bool t284, .bool t285] 28 (0, 0))) ∧ Aside0 (Below w.heap.size w wc))
            case first =>
              have H := HC13.out
              clear HC13
              by_cases c14 : 0 ≤ x8_1
              · rw [if_pos c14] at H
                have c14b0 : decide (0 ≤ x8_1) = true := decide_eq_true c14
                clear c14
                (first | rw [c14b0] | (simp only [i64_w, i32_w]; rw [c14b0]) | skip)
                obtain ⟨ji15, hji15⟩ : ∃ j_ : Int, (Int.tmod (rd l0 x8_1) 12) = j_ := ⟨_, rfl⟩
                replace H : (if 0 ≤ (ji15) then (if (ji15) < 12 then ((some (([bt (⟨#[71, 69, 84, 120, 45, 33, 126, 55, 40, 47, 58, 64]⟩ : ByteArray) (ji15)] : List Int) : List Int)).bind fun y288 => (if x6_1.size + (strOfNums y288).size ≤ 9223372036854775807 then (if x7_1 = true then (parallaxlaw8_RequestMethods.j1 k1 l0 a1 (x6_1 ++ (strOfNums y288)) (decide ((ji15) < 8)) x8_1 t276 t277 t278 t279 t280 t281 t282 t283 t284 t285) else (parallaxlaw8_RequestMethods.j1 k1 l0 a1 (x6_1 ++ (strOfNums y288)) false x8_1 t276 t277 t278 t279 t280 t281 t282 t283 t284 t285)) else (none))) else (none)) else (none)) = some r := by first | (rw [hji15] at H; exact H) | (simp only [hji15] at H ⊢; exact H)
                by_cases c16 : 0 ≤ (ji15)
                · rw [if_pos c16] at H
                  have c16b0 : decide (0 ≤ (ji15)) = true := decide_eq_true c16
                  clear c16
                  by_cases c17 : (ji15) < 12
                  · rw [if_pos c17] at H
                    have c17b0 : decide ((ji15) < 12) = true := decide_eq_true c17
                    clear c17
                    obtain ⟨y288, hy288⟩ : ∃ y_ : List Int, y_ = (([bt (⟨#[71, 69, 84, 120, 45, 33, 126, 55, 40, 47, 58, 64]⟩ : ByteArray) (ji15)] : List Int)) := ⟨_, rfl⟩
                    replace H : (if x6_1.size + (strOfNums y288).size ≤ 9223372036854775807 then (if x7_1 = true then (parallaxlaw8_RequestMethods.j1 k1 l0 a1 (x6_1 ++ (strOfNums y288)) (decide ((ji15) < 8)) x8_1 t276 t277 t278 t279 t280 t281 t282 t283 t284 t285) else (parallaxlaw8_RequestMethods.j1 k1 l0 a1 (x6_1 ++ (strOfNums y288)) false x8_1 t276 t277 t278 t279 t280 t281 t282 t283 t284 t285)) else (none)) = some r := by first | (rw [hy288]; with_reducible exact H) | (have H2_ := (Option.bind_some _ _).symm.trans H; rw [hy288]; with_reducible exact H2_) | (have H2_ := (Option.bind_some _ _).symm.trans H; with_reducible exact H2_) | with_reducible exact H | (rw [hy288]; exact H) | exact H
                    have Ny288 := Aside0.mk hy288
                    clear hy288
                    by_cases c19 : x6_1.size + (strOfNums y288).size ≤ 9223372036854775807
                    · rw [if_pos c19] at H
                      have c19b0 := eq_true c19
                      have c19b1 : decide (x6_1.size + (strOfNums y288).size ≤ 9223372036854775807) = true := decide_eq_true c19
                      try have c19b2 : (9223372036854775807 < x6_1.size + (strOfNums y288).size) = False := eq_false (Nat.not_lt.2 c19)
                      by_cases c20 : x7_1 = true
                      · subst c20
                        rw [if_pos rfl] at H
                        have H' := Aside0.mk H
                        clear H
                        have p287 : 0 ≤ (x8_1 : Int) := of_decide_eq_true (by first | (with_reducible assumption) | assumption)
                        have q287 : x8_1 < (l0.length : Int) := of_decide_eq_true (by first | (with_reducible assumption) | assumption)
                        obtain ⟨ad287, e287, hx287_0⟩ := Kd.at_int HR0.out x8_1 p287 q287
                        cases e287
                        replace hx287_0 := (HB.out.cell (World.block_lt_of_cell? w _ hx287_0)).trans hx287_0
                        replace p287 := eq_true p287
                        replace q287 := eq_true q287
                        have p18 : 0 ≤ ((ji15) : Int) := of_decide_eq_true (by first | (with_reducible assumption) | assumption)
                        have q18 : (ji15) < (12 : Int) := of_decide_eq_true (by first | (with_reducible assumption) | assumption)
                        have hx18 := bt_at (⟨#[71, 69, 84, 120, 45, 33, 126, 55, 40, 47, 58, 64]⟩ : ByteArray) (ji15)
                        replace p18 := eq_true p18
                        replace q18 := eq_true q18
                        go_wp2_with (first | ((with_reducible refine gate_dst (N := 41) rfl ?_); (try (refine gate_guard (by rfl) ?_; dsimp only)); refine Kd.R_lit (Kd.int .u8) _ 5 ?hg (N := 41) ?hd (xs := ([bt (⟨#[71, 69, 84, 120, 45, 33, 126, 55, 40, 47, 58, 64]⟩ : ByteArray) (ji15)] : List Int)) (inner := [.int .u8 (bt (⟨#[71, 69, 84, 120, 45, 33, 126, 55, 40, 47, 58, 64]⟩ : ByteArray) (ji15))]) (ok := fun _ => True) (okp := fun _ => True) ?hr ?hp (fun _ hk => hk) trivial (Below.refl _ _) (Nat.le_refl _) (by simp) ?_; (case hd => rfl); (case hg => rfl); (case hr => first | (go_simp; done) | (go_simp; rfl)); (case hp => exact (Reps.one (show Kd.M (Kd.int .u8) _ _ _ (bt (⟨#[71, 69, 84, 120, 45, 33, 126, 55, 40, 47, 58, 64]⟩ : ByteArray) (ji15)) [.int .u8 (bt (⟨#[71, 69, 84, 120, 45, 33, 126, 55, 40, 47, 58, 64]⟩ : ByteArray) (ji15))] from rfl) (Reps.none _ _))); intro v289 w21 ho22 hb hg_ hnew_; clear hg_ hnew_; (first | rw [← Ny288.out] at ho22 | (simp only [Int.reduceToNat] at ho22; rw [← Ny288.out] at ho22)); have n0_ := Aside0.mk (Kd.R_lower ho22 (below_size (by repeat (first | (with_reducible first | exact HB.out | apply below_alloc | apply pw_below_drewN | apply below_drew1 | refine below_set ?_ GE286.out) | exact HB.out)))); have n1_ := Aside0.mk (blk_below (g := gb286) (o := .cells #[.int .i64 t276, .int .i64 t277, .int .i64 t278, .int .i64 t279, .int .i64 t280, .int .i64 t281, .int .i64 t282, .int .i64 t283, .bool t284, .bool t285] 28 (0, 0)) (by (with_reducible repeat (first | refine blk_drewN ?_ _ | refine blk_drew ?_ | refine blk_alloc ?_ _)); exact BK286.out) hb); have n2_ := Aside0.mk (below_step (by repeat (first | (with_reducible first | exact HB.out | apply below_alloc | apply pw_below_drewN | apply below_drew1 | refine below_set ?_ GE286.out) | exact HB.out)) hb); clear BK286; clear HB; have HO290 := n0_; have BK286 := n1_; have HB := n2_; clear n0_ n1_ n2_; clear hb ho22; have hcv23 := own_string (P := Tryd.prog) Tryd.underlying22 Tryd.underlying5 Tryd.underlying9 (Kd.own_of_R HO290.out); have p291 : 0 ≤ (x8_1 : Int) := of_decide_eq_true (by first | (with_reducible assumption) | assumption); have q291 : x8_1 < (l0.length : Int) := of_decide_eq_true (by first | (with_reducible assumption) | assumption); obtain ⟨ad291, e291, hx291_0⟩ := Kd.at_int HR0.out x8_1 p291 q291; obtain rfl : ad287 = ad291 := (by injection e291); replace hx291_0 := (HB.out.cell (World.block_lt_of_cell? w _ hx291_0)).trans hx291_0; replace p291 := eq_true p291; replace q291 := eq_true q291))
                        (try any_goals (exfalso; have h_ := ‹some undef = some (Value.bool _)›; revert h_; simp [undef]; done))
                        go_meet
                        case rel => exact ⟨_, (x6_1 ++ (strOfNums y288)), (decide ((ji15) < 8)), (by first | rfl | (simp; done) | (simp [*]; done)), (by first | rfl | (simp; done) | (simp only [← hji15] <;> (first | rfl | simp)) | (simp [*]; done)), H', ⟨by have := HK1.out; first | omega | exact Nat.le_refl _⟩, ⟨by (with_reducible repeat (first | refine blk_drewN ?_ _ | refine blk_drew ?_ | refine blk_alloc ?_ _)); exact BK286.out⟩, ⟨by repeat (first | (with_reducible first | exact HB.out | apply below_alloc | apply pw_below_drewN | apply below_drew1 | refine below_set ?_ GE286.out) | exact HB.out)⟩⟩
                      · replace c20 := Bool.eq_false_iff.mpr c20
                        subst c20
                        rw [if_neg (show ¬ (false = true) by decide)] at H
                        have H' := Aside0.mk H
                        clear H
                        have p287 : 0 ≤ (x8_1 : Int) := of_decide_eq_true (by first | (with_reducible assumption) | assumption)
                        have q287 : x8_1 < (l0.length : Int) := of_decide_eq_true (by first | (with_reducible assumption) | assumption)
                        obtain ⟨ad287, e287, hx287_0⟩ := Kd.at_int HR0.out x8_1 p287 q287
                        cases e287
                        replace hx287_0 := (HB.out.cell (World.block_lt_of_cell? w _ hx287_0)).trans hx287_0
                        replace p287 := eq_true p287
                        replace q287 := eq_true q287
                        have p18 : 0 ≤ ((ji15) : Int) := of_decide_eq_true (by first | (with_reducible assumption) | assumption)
                        have q18 : (ji15) < (12 : Int) := of_decide_eq_true (by first | (with_reducible assumption) | assumption)
                        have hx18 := bt_at (⟨#[71, 69, 84, 120, 45, 33, 126, 55, 40, 47, 58, 64]⟩ : ByteArray) (ji15)
                        replace p18 := eq_true p18
                        replace q18 := eq_true q18
                        go_wp2_with (first | ((with_reducible refine gate_dst (N := 41) rfl ?_); (try (refine gate_guard (by rfl) ?_; dsimp only)); refine Kd.R_lit (Kd.int .u8) _ 5 ?hg (N := 41) ?hd (xs := ([bt (⟨#[71, 69, 84, 120, 45, 33, 126, 55, 40, 47, 58, 64]⟩ : ByteArray) (ji15)] : List Int)) (inner := [.int .u8 (bt (⟨#[71, 69, 84, 120, 45, 33, 126, 55, 40, 47, 58, 64]⟩ : ByteArray) (ji15))]) (ok := fun _ => True) (okp := fun _ => True) ?hr ?hp (fun _ hk => hk) trivial (Below.refl _ _) (Nat.le_refl _) (by simp) ?_; (case hd => rfl); (case hg => rfl); (case hr => first | (go_simp; done) | (go_simp; rfl)); (case hp => exact (Reps.one (show Kd.M (Kd.int .u8) _ _ _ (bt (⟨#[71, 69, 84, 120, 45, 33, 126, 55, 40, 47, 58, 64]⟩ : ByteArray) (ji15)) [.int .u8 (bt (⟨#[71, 69, 84, 120, 45, 33, 126, 55, 40, 47, 58, 64]⟩ : ByteArray) (ji15))] from rfl) (Reps.none _ _))); intro v289 w24 ho25 hb hg_ hnew_; clear hg_ hnew_; (first | rw [← Ny288.out] at ho25 | (simp only [Int.reduceToNat] at ho25; rw [← Ny288.out] at ho25)); have n0_ := Aside0.mk (Kd.R_lower ho25 (below_size (by repeat (first | (with_reducible first | exact HB.out | apply below_alloc | apply pw_below_drewN | apply below_drew1 | refine below_set ?_ GE286.out) | exact HB.out)))); have n1_ := Aside0.mk (blk_below (g := gb286) (o := .cells #[.int .i64 t276, .int .i64 t277, .int .i64 t278, .int .i64 t279, .int .i64 t280, .int .i64 t281, .int .i64 t282, .int .i64 t283, .bool t284, .bool t285] 28 (0, 0)) (by (with_reducible repeat (first | refine blk_drewN ?_ _ | refine blk_drew ?_ | refine blk_alloc ?_ _)); exact BK286.out) hb); have n2_ := Aside0.mk (below_step (by repeat (first | (with_reducible first | exact HB.out | apply below_alloc | apply pw_below_drewN | apply below_drew1 | refine below_set ?_ GE286.out) | exact HB.out)) hb); clear BK286; clear HB; have HO290 := n0_; have BK286 := n1_; have HB := n2_; clear n0_ n1_ n2_; clear hb ho25; have hcv26 := own_string (P := Tryd.prog) Tryd.underlying22 Tryd.underlying5 Tryd.underlying9 (Kd.own_of_R HO290.out)))
                        (try any_goals (exfalso; have h_ := ‹some undef = some (Value.bool _)›; revert h_; simp [undef]; done))
                        go_meet
                        case rel => exact ⟨_, (x6_1 ++ (strOfNums y288)), (false), (by first | rfl | (simp; done) | (simp [*]; done)), (by first | rfl | (simp; done) | (simp [*]; done)), H', ⟨by have := HK1.out; first | omega | exact Nat.le_refl _⟩, ⟨by (with_reducible repeat (first | refine blk_drewN ?_ _ | refine blk_drew ?_ | refine blk_alloc ?_ _)); exact BK286.out⟩, ⟨by repeat (first | (with_reducible first | exact HB.out | apply below_alloc | apply pw_below_drewN | apply below_drew1 | refine below_set ?_ GE286.out) | exact HB.out)⟩⟩
                    · rw [if_neg c19] at H
                      exact absurd H (by simp)
                  · rw [if_neg c17] at H
                    exact absurd H (by simp)
                · rw [if_neg c16] at H
                  exact absurd H (by simp)
              · rw [if_neg c14] at H
                exact absurd H (by simp)
            case rest =>
              clear HC13
              try clear c1
              try clear p1
              try clear q1
              try clear hx1
              try clear c2
              try clear p2
              try clear q2
              try clear hx2
              try clear hcv2
              try clear c4
              try clear c5
              try clear c5b0
              try clear c5b1
              try clear c6
              try clear c7
              try clear c12
              try clear c12b0
              try clear c14
              try clear c14b0
              try clear c16
              try clear c16b0
              try clear c17
              try clear c17b0
              try clear p18
              try clear q18
              try clear hx18
              try clear c19
              try clear c19b0
              try clear c19b1
              try clear c19b2
              try clear c20
              try clear hcv23
              try clear hcv26
              try clear hcz11_0
              try clear hcz11_1
              try clear hcz11_2
              try clear hcz11_3
              try clear hcz11_4
              try clear hcz11_5
              try clear hcz11_6
              try clear hcz11_7
              try clear hcz11_8
              try clear hcz11_9
              try clear hfz11_0
              try clear hfz11_1
              try clear hfz11_2
              try clear hfz11_3
              try clear hfz11_4
              try clear hfz11_5
              try clear hfz11_6
              try clear hfz11_7
              try clear hfz11_8
              try clear hfz11_9
              try clear hx287_0
              try clear hx291_0
              try clear p18
              try clear p2
              try clear p287
              try clear p291
              try clear q1
              try clear q18
              try clear q287
              try clear q291
              obtain ⟨kq, x6_12, x7_12, rfl, rfl, HA, HJ12, BK286, HB⟩ := hcut
              cases kq with
              | zero => exact absurd HA.out (by simp [parallaxlaw8_RequestMethods.j1])
              | succ kj12 =>
                have H := HA.out
                clear HA
                simp only [parallaxlaw8_RequestMethods.j1] at H
                have H' := Aside0.mk H
                clear H
                go_wp2
                (try any_goals (exfalso; have h_ := ‹some undef = some (Value.bool _)›; revert h_; simp [undef]; done))
                go_roundg kj12
                case measure => have := HK1.out; have := HJ12.out; omega
                case rel => exact ⟨(x6_12), (x7_12), (wrap64 (x8_1 + 1)), (by first | rfl | (simp; done) | (simp [*]; done)), (by first | rfl | (simp; done) | (simp [*]; done)), (by first | rfl | (simp; done) | (simp [*]; done)), H', ⟨by have := HK1.out; have := HJ12.out; omega⟩, ⟨by (with_reducible repeat (first | refine blk_drewN ?_ _ | refine blk_drew ?_ | refine blk_alloc ?_ _)); exact BK286.out⟩, ⟨by repeat (first | (with_reducible first | exact HB.out | apply below_alloc | apply pw_below_drewN | apply below_drew1 | refine below_set ?_ GE286.out) | exact HB.out)⟩⟩
          · rw [if_neg c12] at H
            have c12b0 : decide (x8_1 < (l0.length : Int)) = false := decide_eq_false c12
            clear c12
            have H' := Aside0.mk H
            clear H
            go_wp2
            (try any_goals (exfalso; have h_ := ‹some undef = some (Value.bool _)›; revert h_; simp [undef]; done))
            go_loopg [9, 10] k1 (fun kq v9 v10 w' => ∃ (x9_2 : ByteArray) (x10_2 : Int), v9 = .string x9_2 ∧ v10 = .int .i64 x10_2 ∧ Aside0 (parallaxlaw8_RequestMethods.l1 kq a1 x6_1 x7_1 x9_2 x10_2 t276 t277 t278 t279 t280 t281 t282 t283 t284 t285 = some r) ∧ Aside0 (kq ≤ k1) ∧ Aside0 (w'.heap[gb286]? = some (.cells #[.int .i64 t276, .int .i64 t277, .int .i64 t278, .int .i64 t279, .int .i64 t280, .int .i64 t281, .int .i64 t282, .int .i64 t283, .bool t284, .bool t285] 28 (0, 0))) ∧ Aside0 (Below w.heap.size w w'))
            case atStart => exact ⟨((⟨#[]⟩ : ByteArray)), (0), (by first | rfl | (simp; done) | (simp [*]; done)), (by first | rfl | (simp; done) | (simp [*]; done)), H', ⟨Nat.le_refl _⟩, ⟨by (with_reducible repeat (first | refine blk_drewN ?_ _ | refine blk_drew ?_ | refine blk_alloc ?_ _)); exact BK286.out⟩, ⟨by repeat (first | (with_reducible first | exact HB.out | apply below_alloc | apply pw_below_drewN | apply below_drew1 | refine below_set ?_ GE286.out) | exact HB.out)⟩⟩
            case round =>
              clear H'
              try clear c1
              try clear p1
              try clear q1
              try clear hx1
              try clear c2
              try clear p2
              try clear q2
              try clear hx2
              try clear hcv2
              try clear c4
              try clear c5
              try clear c5b0
              try clear c5b1
              try clear c6
              try clear p6
              try clear c7
              try clear c12
              try clear c12b0
              try clear c14
              try clear c14b0
              try clear c16
              try clear c16b0
              try clear c17
              try clear c17b0
              try clear p18
              try clear q18
              try clear hx18
              try clear c19
              try clear c19b0
              try clear c19b1
              try clear c19b2
              try clear c20
              try clear hcv23
              try clear hcv26
              try clear hcz11_0
              try clear hcz11_1
              try clear hcz11_2
              try clear hcz11_3
              try clear hcz11_4
              try clear hcz11_5
              try clear hcz11_6
              try clear hcz11_7
              try clear hcz11_8
              try clear hcz11_9
              try clear hfz11_0
              try clear hfz11_1
              try clear hfz11_2
              try clear hfz11_3
              try clear hfz11_4
              try clear hfz11_5
              try clear hfz11_6
              try clear hfz11_7
              try clear hfz11_8
              try clear hfz11_9
              try clear hx287_0
              try clear hx291_0
              try clear p1
              try clear p18
              try clear p2
              try clear p287
              try clear p291
              try clear q1
              try clear q18
              try clear q2
              try clear q287
              try clear q291
              obtain ⟨x9_2, x10_2, rfl, rfl, HA, HK2, BK286, HB⟩ := hrel
              cases gk with
              | zero => exact absurd HA.out (by simp [parallaxlaw8_RequestMethods.l1])
              | succ k2 =>
                have H := HA.out
                clear HA
                simp only [parallaxlaw8_RequestMethods.l1] at H
                by_cases c27 : x10_2 < (wrap64 (30 + (wrap64 (Int.tmod a1 5))))
                · rw [if_pos c27] at H
                  have c27b0 : decide (x10_2 < (wrap64 (30 + (wrap64 (Int.tmod a1 5))))) = true := decide_eq_true c27
                  clear c27
                  by_cases c28 : x9_2.size + 1 ≤ 9223372036854775807
                  · rw [if_pos c28] at H
                    have c28b0 := eq_true c28
                    have c28b1 : decide (x9_2.size + 1 ≤ 9223372036854775807) = true := decide_eq_true c28
                    try have c28b2 : (9223372036854775807 < x9_2.size + 1) = False := eq_false (Nat.not_lt.2 c28)
                    have H' := Aside0.mk H
                    clear H
                    go_wp2
                    (try any_goals (exfalso; have h_ := ‹some undef = some (Value.bool _)›; revert h_; simp [undef]; done))
                    go_roundg k2
                    case measure => have := HK1.out; have := HK2.out; omega
                    case rel => exact ⟨(x9_2 ++ (⟨#[77]⟩ : ByteArray)), (wrap64 (x10_2 + 1)), (by first | rfl | (simp; done) | (simp [*]; done)), (by first | rfl | (simp; done) | (simp [*]; done)), H', ⟨by have := HK1.out; have := HK2.out; omega⟩, ⟨by (with_reducible repeat (first | refine blk_drewN ?_ _ | refine blk_drew ?_ | refine blk_alloc ?_ _)); exact BK286.out⟩, ⟨by repeat (first | (with_reducible first | exact HB.out | apply below_alloc | apply pw_below_drewN | apply below_drew1 | refine below_set ?_ GE286.out) | exact HB.out)⟩⟩
                  · rw [if_neg c28] at H
                    exact absurd H (by simp)
                · rw [if_neg c27] at H
                  have c27b0 : decide (x10_2 < (wrap64 (30 + (wrap64 (Int.tmod a1 5))))) = false := decide_eq_false c27
                  clear c27
                  by_cases c29 : x6_1.size + 12 ≤ 9223372036854775807
                  · rw [if_pos c29] at H
                    have c29b0 := eq_true c29
                    have c29b1 : decide (x6_1.size + 12 ≤ 9223372036854775807) = true := decide_eq_true c29
                    try have c29b2 : (9223372036854775807 < x6_1.size + 12) = False := eq_false (Nat.not_lt.2 c29)
                    replace H := Option.bind_eq_some_iff.mp H
                    obtain ⟨⟨t292, t293, t294, t295⟩, A300, H⟩ := H
                    (try dsimp only at H)
                    have A30 := Aside0.mk A300
                    clear A300
                    by_cases c31 : x9_2.size + 12 ≤ 9223372036854775807
                    · rw [if_pos c31] at H
                      have c31b0 := eq_true c31
                      have c31b1 : decide (x9_2.size + 12 ≤ 9223372036854775807) = true := decide_eq_true c31
                      try have c31b2 : (9223372036854775807 < x9_2.size + 12) = False := eq_false (Nat.not_lt.2 c31)
                      replace H := Option.bind_eq_some_iff.mp H
                      obtain ⟨⟨t296, t297, t298, t299⟩, A320, H⟩ := H
                      (try dsimp only at H)
                      have A32 := Aside0.mk A320
                      clear A320
                      have HC33 := Aside0.mk H
                      clear H
                      have hcz34_0 : wr.cell? ⟨gb286, 0, none⟩ = some (.int .i64 t276) := (blk_cell BK286.out 0).trans rfl
                      have hcz34_1 : wr.cell? ⟨gb286, 1, none⟩ = some (.int .i64 t277) := (blk_cell BK286.out 1).trans rfl
                      have hcz34_2 : wr.cell? ⟨gb286, 2, none⟩ = some (.int .i64 t278) := (blk_cell BK286.out 2).trans rfl
                      have hcz34_3 : wr.cell? ⟨gb286, 3, none⟩ = some (.int .i64 t279) := (blk_cell BK286.out 3).trans rfl
                      have hcz34_4 : wr.cell? ⟨gb286, 4, none⟩ = some (.int .i64 t280) := (blk_cell BK286.out 4).trans rfl
                      have hcz34_5 : wr.cell? ⟨gb286, 5, none⟩ = some (.int .i64 t281) := (blk_cell BK286.out 5).trans rfl
                      have hcz34_6 : wr.cell? ⟨gb286, 6, none⟩ = some (.int .i64 t282) := (blk_cell BK286.out 6).trans rfl
                      have hcz34_7 : wr.cell? ⟨gb286, 7, none⟩ = some (.int .i64 t283) := (blk_cell BK286.out 7).trans rfl
                      have hcz34_8 : wr.cell? ⟨gb286, 8, none⟩ = some (.bool t284) := (blk_cell BK286.out 8).trans rfl
                      have hcz34_9 : wr.cell? ⟨gb286, 9, none⟩ = some (.bool t285) := (blk_cell BK286.out 9).trans rfl
                      have hfz34_0 := blk_frozen BK286.out 0
                      have hfz34_1 := blk_frozen BK286.out 1
                      have hfz34_2 := blk_frozen BK286.out 2
                      have hfz34_3 := blk_frozen BK286.out 3
                      have hfz34_4 := blk_frozen BK286.out 4
                      have hfz34_5 := blk_frozen BK286.out 5
                      have hfz34_6 := blk_frozen BK286.out 6
                      have hfz34_7 := blk_frozen BK286.out 7
                      have hfz34_8 := blk_frozen BK286.out 8
                      have hfz34_9 := blk_frozen BK286.out 9
                      go_upto_region 20 with (first | ((with_reducible refine gate_callee (f := 13) rfl ?_); refine goesL_ (some 67) rfl rfl Tryd.func13 (by kernel_rfl) rfl #[.string (x6_1 ++ (⟨#[32, 47, 97, 32, 72, 84, 84, 80, 47, 49, 46, 49]⟩ : ByteArray)), .int .u32 0, .agg #[.int .i64 t276, .int .i64 t277, .int .i64 t278, .int .i64 t279, .int .i64 t280, .int .i64 t281, .int .i64 t282, .int .i64 t283, .bool t284, .bool t285]] rfl (by (try simp only [List.map_toArray, List.map_cons, List.map_nil]); first | done | rfl | (simp only [List.length_drop, List.length_take]; rfl)) ?_; (with_reducible refine (request_Parse.calls k2 (x6_1 ++ (⟨#[32, 47, 97, 32, 72, 84, 84, 80, 47, 49, 46, 49]⟩ : ByteArray)) 0 t276 t277 t278 t279 t280 t281 t282 t283 t284 t285 t292 t293 t294 t295 _ A30.out).mono ?_); rintro e w35 ⟨rfl, hb⟩; refine ⟨_, rfl, ?_⟩; have n0_ := Aside0.mk (blk_below (g := gb286) (o := .cells #[.int .i64 t276, .int .i64 t277, .int .i64 t278, .int .i64 t279, .int .i64 t280, .int .i64 t281, .int .i64 t282, .int .i64 t283, .bool t284, .bool t285] 28 (0, 0)) (by (with_reducible repeat (first | refine blk_drewN ?_ _ | refine blk_drew ?_ | refine blk_alloc ?_ _)); exact BK286.out) hb); have n1_ := Aside0.mk (below_step (by repeat (first | (with_reducible first | exact HB.out | apply below_alloc | apply pw_below_drewN | apply below_drew1 | refine below_set ?_ GE286.out) | exact HB.out)) hb); clear BK286; clear HB; have BK286 := n0_; have HB := n1_; clear n0_ n1_; (try clear hb); (try clear hb2); (try clear hk); (try clear hi); have hcz36_0 : w35.cell? ⟨gb286, 0, none⟩ = some (.int .i64 t276) := (blk_cell BK286.out 0).trans rfl; have hcz36_1 : w35.cell? ⟨gb286, 1, none⟩ = some (.int .i64 t277) := (blk_cell BK286.out 1).trans rfl; have hcz36_2 : w35.cell? ⟨gb286, 2, none⟩ = some (.int .i64 t278) := (blk_cell BK286.out 2).trans rfl; have hcz36_3 : w35.cell? ⟨gb286, 3, none⟩ = some (.int .i64 t279) := (blk_cell BK286.out 3).trans rfl; have hcz36_4 : w35.cell? ⟨gb286, 4, none⟩ = some (.int .i64 t280) := (blk_cell BK286.out 4).trans rfl; have hcz36_5 : w35.cell? ⟨gb286, 5, none⟩ = some (.int .i64 t281) := (blk_cell BK286.out 5).trans rfl; have hcz36_6 : w35.cell? ⟨gb286, 6, none⟩ = some (.int .i64 t282) := (blk_cell BK286.out 6).trans rfl; have hcz36_7 : w35.cell? ⟨gb286, 7, none⟩ = some (.int .i64 t283) := (blk_cell BK286.out 7).trans rfl; have hcz36_8 : w35.cell? ⟨gb286, 8, none⟩ = some (.bool t284) := (blk_cell BK286.out 8).trans rfl; have hcz36_9 : w35.cell? ⟨gb286, 9, none⟩ = some (.bool t285) := (blk_cell BK286.out 9).trans rfl; have hfz36_0 := blk_frozen BK286.out 0; have hfz36_1 := blk_frozen BK286.out 1; have hfz36_2 := blk_frozen BK286.out 2; have hfz36_3 := blk_frozen BK286.out 3; have hfz36_4 := blk_frozen BK286.out 4; have hfz36_5 := blk_frozen BK286.out 5; have hfz36_6 := blk_frozen BK286.out 6; have hfz36_7 := blk_frozen BK286.out 7; have hfz36_8 := blk_frozen BK286.out 8; have hfz36_9 := blk_frozen BK286.out 9) | ((with_reducible refine gate_callee (f := 13) rfl ?_); refine goesL_ (some 76) rfl rfl Tryd.func13 (by kernel_rfl) rfl #[.string (x9_2 ++ (⟨#[32, 47, 97, 32, 72, 84, 84, 80, 47, 49, 46, 49]⟩ : ByteArray)), .int .u32 0, .agg #[.int .i64 t276, .int .i64 t277, .int .i64 t278, .int .i64 t279, .int .i64 t280, .int .i64 t281, .int .i64 t282, .int .i64 t283, .bool t284, .bool t285]] rfl (by (try simp only [List.map_toArray, List.map_cons, List.map_nil]); first | done | rfl | (simp only [List.length_drop, List.length_take]; rfl)) ?_; (with_reducible refine (request_Parse.calls k2 (x9_2 ++ (⟨#[32, 47, 97, 32, 72, 84, 84, 80, 47, 49, 46, 49]⟩ : ByteArray)) 0 t276 t277 t278 t279 t280 t281 t282 t283 t284 t285 t296 t297 t298 t299 _ A32.out).mono ?_); rintro e w37 ⟨rfl, hb⟩; refine ⟨_, rfl, ?_⟩; have n0_ := Aside0.mk (blk_below (g := gb286) (o := .cells #[.int .i64 t276, .int .i64 t277, .int .i64 t278, .int .i64 t279, .int .i64 t280, .int .i64 t281, .int .i64 t282, .int .i64 t283, .bool t284, .bool t285] 28 (0, 0)) (by (with_reducible repeat (first | refine blk_drewN ?_ _ | refine blk_drew ?_ | refine blk_alloc ?_ _)); exact BK286.out) hb); have n1_ := Aside0.mk (below_step (by repeat (first | (with_reducible first | exact HB.out | apply below_alloc | apply pw_below_drewN | apply below_drew1 | refine below_set ?_ GE286.out) | exact HB.out)) hb); clear BK286; clear HB; have BK286 := n0_; have HB := n1_; clear n0_ n1_; (try clear hb); (try clear hb2); (try clear hk); (try clear hi)))
                      (try simp only [Act.put, List.setIfInBounds_toArray, List.set_cons_zero, List.set_cons_succ])
                      go_cut [4] (fun v4 wc => ∃ (kq : Nat) (x4_32 : Bool), v4 = .bool x4_32 ∧ Aside0 (parallaxlaw8_RequestMethods.j3 kq x4_32 = some r) ∧ Aside0 (kq ≤ k2) ∧ Aside0 (wc.heap[gb286]? = some (.cells #[.int .i64 t276, .int .i64 t277, .int .i64 t278, .int .i64 t279, .int .i64 t280, .int .i64 t281, .int .i64 t282, .int .i64 t283, .bool t284, .bool t285] 28 (0, 0))) ∧ Aside0 (Below w.heap.size w wc))
                      case first =>
                        have H := HC33.out
                        clear HC33
                        by_cases c38 : ((t295 == 0) == x7_1) = true
                        · rw [if_pos c38] at H
                          have c38b0 : ((t295 == 0) == x7_1) = true := c38
                          (try (have c38b1 : decide ((t295 == 0) = x7_1) = true := by simpa using c38))
                          (try (have c38b2 : ((t295 == 0) == x7_1) = true := by simpa using c38))
                          clear c38
                          (first | rw [c38b0] | (simp only [i64_w, i32_w]; rw [c38b0]) | skip)
                          by_cases c39 : x7_1 = true
                          · subst c39
                            rw [if_pos rfl] at H
                            by_cases c40 : t292.toList = x6_1.toList
                            · rw [if_pos c40] at H
                              have c40b0 : (t292.toList == x6_1.toList) = true := beq_iff_eq.mpr c40
                              have c40b1 : (t292.toList != x6_1.toList) = false := bne_eq_false_iff_eq.mpr c40
                              clear c40
                              have H' := Aside0.mk H
                              clear H
                              go_wp2
                              (try any_goals (exfalso; have h_ := ‹some undef = some (Value.bool _)›; revert h_; simp [undef]; done))
                              go_meet
                              case rel => exact ⟨_, (((t299 == 0) == (decide ((x9_2.size : Int) ≤ 32)))), (by first | rfl | (simp; done) | (simp [*]; done)), H', ⟨by have := HK1.out; have := HK2.out; first | omega | exact Nat.le_refl _⟩, ⟨by (with_reducible repeat (first | refine blk_drewN ?_ _ | refine blk_drew ?_ | refine blk_alloc ?_ _)); exact BK286.out⟩, ⟨by repeat (first | (with_reducible first | exact HB.out | apply below_alloc | apply pw_below_drewN | apply below_drew1 | refine below_set ?_ GE286.out) | exact HB.out)⟩⟩
                            · rw [if_neg c40] at H
                              have c40b0 : (t292.toList == x6_1.toList) = false := beq_eq_false_iff_ne.mpr c40
                              have c40b1 : (t292.toList != x6_1.toList) = true := bne_iff_ne.mpr c40
                              have H' := Aside0.mk H
                              clear H
                              go_wp2
                              (try any_goals (exfalso; have h_ := ‹some undef = some (Value.bool _)›; revert h_; simp [undef]; done))
                              go_meet
                              case rel => exact ⟨_, (false), (by first | rfl | (simp; done) | (simp [*]; done)), H', ⟨by have := HK1.out; have := HK2.out; first | omega | exact Nat.le_refl _⟩, ⟨by (with_reducible repeat (first | refine blk_drewN ?_ _ | refine blk_drew ?_ | refine blk_alloc ?_ _)); exact BK286.out⟩, ⟨by repeat (first | (with_reducible first | exact HB.out | apply below_alloc | apply pw_below_drewN | apply below_drew1 | refine below_set ?_ GE286.out) | exact HB.out)⟩⟩
                          · replace c39 := Bool.eq_false_iff.mpr c39
                            subst c39
                            rw [if_neg (show ¬ (false = true) by decide)] at H
                            by_cases c41 : t295 = 400
                            · rw [if_pos c41] at H
                              have c41b0 : (t295 == 400) = true := beq_iff_eq.mpr c41
                              have c41b1 : (t295 != 400) = false := bne_eq_false_iff_eq.mpr c41
                              clear c41
                              have H' := Aside0.mk H
                              clear H
                              go_wp2
                              (try any_goals (exfalso; have h_ := ‹some undef = some (Value.bool _)›; revert h_; simp [undef]; done))
                              go_meet
                              case rel => exact ⟨_, (((t299 == 0) == (decide ((x9_2.size : Int) ≤ 32)))), (by first | rfl | (simp; done) | (simp [*]; done)), H', ⟨by have := HK1.out; have := HK2.out; first | omega | exact Nat.le_refl _⟩, ⟨by (with_reducible repeat (first | refine blk_drewN ?_ _ | refine blk_drew ?_ | refine blk_alloc ?_ _)); exact BK286.out⟩, ⟨by repeat (first | (with_reducible first | exact HB.out | apply below_alloc | apply pw_below_drewN | apply below_drew1 | refine below_set ?_ GE286.out) | exact HB.out)⟩⟩
                            · rw [if_neg c41] at H
                              have c41b0 : (t295 == 400) = false := beq_eq_false_iff_ne.mpr c41
                              have c41b1 : (t295 != 400) = true := bne_iff_ne.mpr c41
                              have H' := Aside0.mk H
                              clear H
                              go_wp2
                              (try any_goals (exfalso; have h_ := ‹some undef = some (Value.bool _)›; revert h_; simp [undef]; done))
                              go_meet
                              case rel => exact ⟨_, (false), (by first | rfl | (simp; done) | (simp [*]; done)), H', ⟨by have := HK1.out; have := HK2.out; first | omega | exact Nat.le_refl _⟩, ⟨by (with_reducible repeat (first | refine blk_drewN ?_ _ | refine blk_drew ?_ | refine blk_alloc ?_ _)); exact BK286.out⟩, ⟨by repeat (first | (with_reducible first | exact HB.out | apply below_alloc | apply pw_below_drewN | apply below_drew1 | refine below_set ?_ GE286.out) | exact HB.out)⟩⟩
                        · rw [if_neg c38] at H
                          have c38b0 : ((t295 == 0) == x7_1) = false := by simpa using c38
                          (try (have c38b1 : decide ((t295 == 0) = x7_1) = false := by simpa using c38))
                          (try (have c38b2 : ((t295 == 0) == x7_1) = false := by simpa using c38))
                          (try (have c38b3 : ¬ ((t295 == 0) = x7_1) := by simpa using c38))
                          clear c38
                          (first | rw [c38b0] | (simp only [i64_w, i32_w]; rw [c38b0]) | skip)
                          have H' := Aside0.mk H
                          clear H
                          go_wp2
                          (try any_goals (exfalso; have h_ := ‹some undef = some (Value.bool _)›; revert h_; simp [undef]; done))
                          go_meet
                          case rel => exact ⟨_, (false), (by first | rfl | (simp; done) | (simp [*]; done)), H', ⟨by have := HK1.out; have := HK2.out; first | omega | exact Nat.le_refl _⟩, ⟨by (with_reducible repeat (first | refine blk_drewN ?_ _ | refine blk_drew ?_ | refine blk_alloc ?_ _)); exact BK286.out⟩, ⟨by repeat (first | (with_reducible first | exact HB.out | apply below_alloc | apply pw_below_drewN | apply below_drew1 | refine below_set ?_ GE286.out) | exact HB.out)⟩⟩
                      case rest =>
                        clear HC33
                        try clear c1
                        try clear p1
                        try clear q1
                        try clear hx1
                        try clear c2
                        try clear p2
                        try clear q2
                        try clear hx2
                        try clear hcv2
                        try clear c3
                        try clear c4
                        try clear c5
                        try clear c5b0
                        try clear c5b1
                        try clear c6
                        try clear p6
                        try clear c7
                        try clear c12
                        try clear c12b0
                        try clear c13
                        try clear c14
                        try clear c14b0
                        try clear c16
                        try clear c16b0
                        try clear c17
                        try clear c17b0
                        try clear p18
                        try clear q18
                        try clear hx18
                        try clear c19
                        try clear c19b0
                        try clear c19b1
                        try clear c19b2
                        try clear c20
                        try clear hcv23
                        try clear hcv26
                        try clear c27
                        try clear c27b0
                        try clear c28
                        try clear c28b0
                        try clear c28b1
                        try clear c28b2
                        try clear p28
                        try clear q28
                        try clear hx28
                        try clear c29
                        try clear c29b0
                        try clear c29b1
                        try clear c29b2
                        try clear p29
                        try clear q29
                        try clear hx29
                        try clear c31
                        try clear c31b0
                        try clear c31b1
                        try clear c31b2
                        try clear c38
                        try clear c38b0
                        try clear c38b1
                        try clear c38b2
                        try clear c39
                        try clear c40
                        try clear c40b0
                        try clear c40b1
                        try clear c41
                        try clear c41b0
                        try clear c41b1
                        try clear hcz11_0
                        try clear hcz11_1
                        try clear hcz11_2
                        try clear hcz11_3
                        try clear hcz11_4
                        try clear hcz11_5
                        try clear hcz11_6
                        try clear hcz11_7
                        try clear hcz11_8
                        try clear hcz11_9
                        try clear hcz34_0
                        try clear hcz34_1
                        try clear hcz34_2
                        try clear hcz34_3
                        try clear hcz34_4
                        try clear hcz34_5
                        try clear hcz34_6
                        try clear hcz34_7
                        try clear hcz34_8
                        try clear hcz34_9
                        try clear hcz36_0
                        try clear hcz36_1
                        try clear hcz36_2
                        try clear hcz36_3
                        try clear hcz36_4
                        try clear hcz36_5
                        try clear hcz36_6
                        try clear hcz36_7
                        try clear hcz36_8
                        try clear hcz36_9
                        try clear hfz11_0
                        try clear hfz11_1
                        try clear hfz11_2
                        try clear hfz11_3
                        try clear hfz11_4
                        try clear hfz11_5
                        try clear hfz11_6
                        try clear hfz11_7
                        try clear hfz11_8
                        try clear hfz11_9
                        try clear hfz34_0
                        try clear hfz34_1
                        try clear hfz34_2
                        try clear hfz34_3
                        try clear hfz34_4
                        try clear hfz34_5
                        try clear hfz34_6
                        try clear hfz34_7
                        try clear hfz34_8
                        try clear hfz34_9
                        try clear hfz36_0
                        try clear hfz36_1
                        try clear hfz36_2
                        try clear hfz36_3
                        try clear hfz36_4
                        try clear hfz36_5
                        try clear hfz36_6
                        try clear hfz36_7
                        try clear hfz36_8
                        try clear hfz36_9
                        try clear hx287_0
                        try clear hx291_0
                        try clear p1
                        try clear p18
                        try clear p2
                        try clear p287
                        try clear p291
                        try clear p6
                        try clear q1
                        try clear q18
                        try clear q2
                        try clear q287
                        try clear q291
                        obtain ⟨kq, x4_32, rfl, HA, HJ32, BK286, HB⟩ := hcut
                        cases kq with
                        | zero => exact absurd HA.out (by simp [parallaxlaw8_RequestMethods.j3])
                        | succ kj32 =>
                          have H := HA.out
                          clear HA
                          simp only [parallaxlaw8_RequestMethods.j3] at H
                          obtain rfl := Option.some.inj H
                          go_wp2
                          (try any_goals (exfalso; have h_ := ‹some undef = some (Value.bool _)›; revert h_; simp [undef]; done))
                          go_ret
                          exact ⟨by first | rfl | (simp [errW_none, errW_some] <;> rfl) | (simp [*, errW_none, errW_some] <;> rfl), by repeat (first | (with_reducible first | exact HB.out | apply below_alloc | apply pw_below_drewN | apply below_drew1 | refine below_set ?_ GE286.out) | exact HB.out)⟩
                    · rw [if_neg c31] at H
                      exact absurd H (by simp)
                  · rw [if_neg c29] at H
                    exact absurd H (by simp)
  · replace c4 := Bool.eq_false_iff.mpr c4
    subst c4
    rw [if_neg (show ¬ (false = true) by decide)] at H
    exact absurd ((Option.some.inj H).trans HT.out) (by decide)

/-- THE ONE PURE STATEMENT of parallaxlaw8_RequestMethods: yours. -/
def parallaxlaw8_RequestMethods.Pure : Prop := ∀ (l0 : List Int) (a1 : Int), l0.length ≤ maxLen → l0.length * 1 ≤ 140737488351232 → (∀ x ∈ l0, (Lit.int .u8 x).wf = true) → (Lit.int .u8 a1).wf = true → ∃ k, parallaxlaw8_RequestMethods.f k l0 a1 = some true
theorem parallaxlaw8_RequestMethods.walk (P : parallaxlaw8_RequestMethods.Pure) (a0 : Option Addr) (len0 cap0 : Nat) (z0 : List Int) (a1 : Int) (w : World) (w0 : (a0 = none ∧ len0 = 0 ∧ cap0 = 0 ∧ z0 = []) ∨ ∃ x, a0 = some x ∧ len0 ≤ cap0 ∧ cap0 ≤ maxLen ∧ z0.length = cap0 ∧ (∀ i, i < z0.length → w.cell? (x.add i) = some (.int .u8 (z0.getD i 0))) ∧ ∀ n ∈ z0, (Lit.int .u8 n).wf = true) (y0 : len0 * 1 ≤ 140737488351232) (w1 : (Lit.int .u8 a1).wf = true) :
    Calls Tryd.prog 6 #[.slice a0 len0 cap0, .int .u8 a1] w fun e w' => e = .returned (.bool true) ∧ Below w.heap.size w w' := by
  obtain ⟨l0, rfl, hr0, hm0, hw0, hc0⟩ := ReadsInt.ofRowC w0
  obtain ⟨k, h⟩ := P l0 a1 hm0 y0 hw0 w1
  refine (parallaxlaw8_RequestMethods.calls k _ _ l0 a1 true w (Kd.C_of_reads (d := (0 : Int)) (h1 := fun _ => rfl) hr0) hc0 w1 rfl h).mono ?_
  rintro e w' ⟨rfl, hd⟩
  exact ⟨rfl, hd⟩

end Go.Proofs.YtclaaacdmaeblaaDoor.PRequestMethods
