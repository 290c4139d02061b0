-- Written by a program of this session (wip/tools/myprint.sh)
import Derived.Test.YtclaaacdmaeblaaDoorPRequestExtendsx0
import Derived.Test.YtclaaacdmaeblaaDoorPRequestExtendsx8
import Derived.Test.YtclaaacdmaeblaaDoorPRequestExtendsx9
import Derived.Test.YtclaaacdmaeblaaDoorPRequestExtendsx10
namespace Go.Proofs.YtclaaacdmaeblaaDoor.PRequestExtends
open Go.RowKit Go.Proofs.YtclaaacdmaeblaaDoorW.PrintWords Go.Proofs.YtclaaacdmaeblaaDoorW.PrintLast Go.Proofs.YtclaaacdmaeblaaDoorW.PrintMore
attribute [local go_sem] max2_int min2_int max_two min_two max_three min_three max_four min_four   -- for this text's walks alone
set_option linter.unusedVariables false
set_option linter.unusedSimpArgs false

/-! ### parallaxlaw8_RequestExtends: function 4 -/
mutual
def parallaxlaw8_RequestExtends.l0 : Nat → Int → List ByteArray → Int → Int → Int → Int → Int → Int → Int → Int → Int → Int → Bool → Bool → Option (Bool)
  | 0, _, _, _, _, _, _, _, _, _, _, _, _, _, _ => none
  | k + 1, x1, x35, x36, x37, x320000, x320001, x320002, x320003, x320004, x320005, x320006, x320007, x320008, x320009 => if x37 < x36 then (if 0 ≤ x37 then (if x37 < (x35.length : Int) then ((request_Parse.f k (rdOf ByteArray.empty x35 x37) 0 x320000 x320001 x320002 x320003 x320004 x320005 x320006 x320007 x320008 x320009).bind fun bt326 => (if bt326.2.2.2 = 0 then ((request_Parse.f k (rdOf ByteArray.empty x35 x37) (Go.bits .and .u32 x1 1073741823) x320000 x320001 x320002 x320003 x320004 x320005 x320006 x320007 x320008 x320009).bind fun bt330 => (if bt330.2.2.2 = 0 then (if bt326.1.toList = bt330.1.toList then (if bt326.2.1.toList = bt330.2.1.toList then (parallaxlaw8_RequestExtends.j1 k x1 (rdOf ByteArray.empty x35 x37) bt326.1 bt326.2.1 bt330.2.2.1 x35 x36 x37 (bt326.2.2.1 != bt330.2.2.1) x320000 x320001 x320002 x320003 x320004 x320005 x320006 x320007 x320008 x320009) else (parallaxlaw8_RequestExtends.j1 k x1 (rdOf ByteArray.empty x35 x37) bt326.1 bt326.2.1 bt330.2.2.1 x35 x36 x37 true x320000 x320001 x320002 x320003 x320004 x320005 x320006 x320007 x320008 x320009)) else (parallaxlaw8_RequestExtends.j1 k x1 (rdOf ByteArray.empty x35 x37) bt326.1 bt326.2.1 bt330.2.2.1 x35 x36 x37 true x320000 x320001 x320002 x320003 x320004 x320005 x320006 x320007 x320008 x320009)) else (parallaxlaw8_RequestExtends.j1 k x1 (rdOf ByteArray.empty x35 x37) bt326.1 bt326.2.1 bt330.2.2.1 x35 x36 x37 true x320000 x320001 x320002 x320003 x320004 x320005 x320006 x320007 x320008 x320009))) else (parallaxlaw8_RequestExtends.j2 k x1 x35 x36 x37 x320000 x320001 x320002 x320003 x320004 x320005 x320006 x320007 x320008 x320009))) else (none)) else (none)) else (some true)
def parallaxlaw8_RequestExtends.j2 : Nat → Int → List ByteArray → Int → Int → Int → Int → Int → Int → Int → Int → Int → Int → Bool → Bool → Option (Bool)
  | 0, _, _, _, _, _, _, _, _, _, _, _, _, _, _ => none
  | k + 1, x1, x35, x36, x37, x320000, x320001, x320002, x320003, x320004, x320005, x320006, x320007, x320008, x320009 => parallaxlaw8_RequestExtends.l0 k x1 x35 x36 (wrap64 (x37 + 1)) x320000 x320001 x320002 x320003 x320004 x320005 x320006 x320007 x320008 x320009
def parallaxlaw8_RequestExtends.j1 : Nat → Int → ByteArray → ByteArray → ByteArray → Int → List ByteArray → Int → Int → Bool → Int → Int → Int → Int → Int → Int → Int → Int → Bool → Bool → Option (Bool)
  | 0, _, _, _, _, _, _, _, _, _, _, _, _, _, _, _, _, _, _, _ => none
  | k + 1, x1, x13, x14, x15, x20, x35, x36, x37, x77, x320000, x320001, x320002, x320003, x320004, x320005, x320006, x320007, x320008, x320009 => if x77 = true then (some false) else (if x20 = 1 then ((request_Put.f x14 x15).bind fun t334 => (if t334.toList = x13.toList then (parallaxlaw8_RequestExtends.j2 k x1 x35 x36 x37 x320000 x320001 x320002 x320003 x320004 x320005 x320006 x320007 x320008 x320009) else (some false))) else (parallaxlaw8_RequestExtends.j2 k x1 x35 x36 x37 x320000 x320001 x320002 x320003 x320004 x320005 x320006 x320007 x320008 x320009))
end
def parallaxlaw8_RequestExtends.f (k : Nat) (l0 : List Int) (a1 : Int) (a2 : Int) (a3 : Int) (a4 : Int) : Option (Bool) := (parallaxlaw8_known.f k).bind fun t308 => (if t308 = true then (if (l0.length : Int) > 12 then (some true) else ((parallaxseat_Bounds.f k a2).bind fun bt309 => ((parallaxlaw8_some.f k l0).bind fun t320 => ((parallaxseat_Line.f k (Int.tmod a3 200) a4).bind fun t321 => ((some (([t320, t321] : List ByteArray) : List ByteArray)).bind fun y322 => (parallaxlaw8_RequestExtends.l0 k a1 y322 (y322.length : Int) 0 bt309.1 bt309.2.1 bt309.2.2.1 bt309.2.2.2.1 bt309.2.2.2.2.1 bt309.2.2.2.2.2.1 bt309.2.2.2.2.2.2.1 bt309.2.2.2.2.2.2.2.1 bt309.2.2.2.2.2.2.2.2.1 bt309.2.2.2.2.2.2.2.2.2)))))) else (some false))
theorem parallaxlaw8_RequestExtends.mono_l : ∀ k, (∀ y0 y1 y2 y3 y4 y5 y6 y7 y8 y9 y10 y11 y12 y13, LeO (parallaxlaw8_RequestExtends.l0 k y0 y1 y2 y3 y4 y5 y6 y7 y8 y9 y10 y11 y12 y13) (parallaxlaw8_RequestExtends.l0 (k + 1) y0 y1 y2 y3 y4 y5 y6 y7 y8 y9 y10 y11 y12 y13)) ∧ (∀ y0 y1 y2 y3 y4 y5 y6 y7 y8 y9 y10 y11 y12 y13, LeO (parallaxlaw8_RequestExtends.j2 k y0 y1 y2 y3 y4 y5 y6 y7 y8 y9 y10 y11 y12 y13) (parallaxlaw8_RequestExtends.j2 (k + 1) y0 y1 y2 y3 y4 y5 y6 y7 y8 y9 y10 y11 y12 y13)) ∧ (∀ y0 y1 y2 y3 y4 y5 y6 y7 y8 y9 y10 y11 y12 y13 y14 y15 y16 y17 y18, LeO (parallaxlaw8_RequestExtends.j1 k y0 y1 y2 y3 y4 y5 y6 y7 y8 y9 y10 y11 y12 y13 y14 y15 y16 y17 y18) (parallaxlaw8_RequestExtends.j1 (k + 1) y0 y1 y2 y3 y4 y5 y6 y7 y8 y9 y10 y11 y12 y13 y14 y15 y16 y17 y18))
  | 0 => ⟨fun _ _ _ _ _ _ _ _ _ _ _ _ _ _ r h => by simp [parallaxlaw8_RequestExtends.l0] at h, fun _ _ _ _ _ _ _ _ _ _ _ _ _ _ r h => by simp [parallaxlaw8_RequestExtends.j2] at h, fun _ _ _ _ _ _ _ _ _ _ _ _ _ _ _ _ _ _ _ r h => by simp [parallaxlaw8_RequestExtends.j1] at h⟩
  | k + 1 => by
    obtain ⟨ih0, ih1, ih2⟩ := parallaxlaw8_RequestExtends.mono_l k
    refine ⟨?_, ?_, ?_⟩
    · intro y0 y1 y2 y3 y4 y5 y6 y7 y8 y9 y10 y11 y12 y13
      unfold parallaxlaw8_RequestExtends.l0
      repeat' first
      | (with_reducible exact ih0 _ _ _ _ _ _ _ _ _ _ _ _ _ _)
      | (with_reducible exact ih1 _ _ _ _ _ _ _ _ _ _ _ _ _ _)
      | (with_reducible exact ih2 _ _ _ _ _ _ _ _ _ _ _ _ _ _ _ _ _ _ _)
      | (with_reducible exact parallaxlaw8_known.mono _)
      | (with_reducible exact parallaxlaw8_some.mono _ _)
      | (with_reducible exact parallaxseat_Bounds.mono _ _)
      | (with_reducible exact parallaxseat_Line.mono _ _ _)
      | (with_reducible exact request_Parse.mono _ _ _ _ _ _ _ _ _ _ _ _ _)
      | (with_reducible exact LeO.refl _)
      | (with_reducible exact LeO.none _)
      | (with_reducible refine LeO.ite ?_ ?_)
      | (with_reducible refine LeO.bind ?_ (fun _ => ?_))
      | exact ih0 _ _ _ _ _ _ _ _ _ _ _ _ _ _
      | exact ih1 _ _ _ _ _ _ _ _ _ _ _ _ _ _
      | exact ih2 _ _ _ _ _ _ _ _ _ _ _ _ _ _ _ _ _ _ _
      | exact parallaxlaw8_known.mono _
      | exact parallaxlaw8_some.mono _ _
      | exact parallaxseat_Bounds.mono _ _
      | exact parallaxseat_Line.mono _ _ _
      | exact request_Parse.mono _ _ _ _ _ _ _ _ _ _ _ _ _
      | exact LeO.none _
      | refine LeO.ite ?_ ?_
      | refine LeO.bind ?_ (fun _ => ?_)
    · intro y0 y1 y2 y3 y4 y5 y6 y7 y8 y9 y10 y11 y12 y13
      unfold parallaxlaw8_RequestExtends.j2
      repeat' first
      | (with_reducible exact ih0 _ _ _ _ _ _ _ _ _ _ _ _ _ _)
      | (with_reducible exact ih1 _ _ _ _ _ _ _ _ _ _ _ _ _ _)
      | (with_reducible exact ih2 _ _ _ _ _ _ _ _ _ _ _ _ _ _ _ _ _ _ _)
      | (with_reducible exact parallaxlaw8_known.mono _)
      | (with_reducible exact parallaxlaw8_some.mono _ _)
      | (with_reducible exact parallaxseat_Bounds.mono _ _)
      | (with_reducible exact parallaxseat_Line.mono _ _ _)
      | (with_reducible exact request_Parse.mono _ _ _ _ _ _ _ _ _ _ _ _ _)
      | (with_reducible exact LeO.refl _)
      | (with_reducible exact LeO.none _)
      | (with_reducible refine LeO.ite ?_ ?_)
      | (with_reducible refine LeO.bind ?_ (fun _ => ?_))
      | exact ih0 _ _ _ _ _ _ _ _ _ _ _ _ _ _
      | exact ih1 _ _ _ _ _ _ _ _ _ _ _ _ _ _
      | exact ih2 _ _ _ _ _ _ _ _ _ _ _ _ _ _ _ _ _ _ _
      | exact parallaxlaw8_known.mono _
      | exact parallaxlaw8_some.mono _ _
      | exact parallaxseat_Bounds.mono _ _
      | exact parallaxseat_Line.mono _ _ _
      | exact request_Parse.mono _ _ _ _ _ _ _ _ _ _ _ _ _
      | exact LeO.none _
      | refine LeO.ite ?_ ?_
      | refine LeO.bind ?_ (fun _ => ?_)
    · intro y0 y1 y2 y3 y4 y5 y6 y7 y8 y9 y10 y11 y12 y13 y14 y15 y16 y17 y18
      unfold parallaxlaw8_RequestExtends.j1
      repeat' first
      | (with_reducible exact ih0 _ _ _ _ _ _ _ _ _ _ _ _ _ _)
      | (with_reducible exact ih1 _ _ _ _ _ _ _ _ _ _ _ _ _ _)
      | (with_reducible exact ih2 _ _ _ _ _ _ _ _ _ _ _ _ _ _ _ _ _ _ _)
      | (with_reducible exact parallaxlaw8_known.mono _)
      | (with_reducible exact parallaxlaw8_some.mono _ _)
      | (with_reducible exact parallaxseat_Bounds.mono _ _)
      | (with_reducible exact parallaxseat_Line.mono _ _ _)
      | (with_reducible exact request_Parse.mono _ _ _ _ _ _ _ _ _ _ _ _ _)
      | (with_reducible exact LeO.refl _)
      | (with_reducible exact LeO.none _)
      | (with_reducible refine LeO.ite ?_ ?_)
      | (with_reducible refine LeO.bind ?_ (fun _ => ?_))
      | exact ih0 _ _ _ _ _ _ _ _ _ _ _ _ _ _
      | exact ih1 _ _ _ _ _ _ _ _ _ _ _ _ _ _
      | exact ih2 _ _ _ _ _ _ _ _ _ _ _ _ _ _ _ _ _ _ _
      | exact parallaxlaw8_known.mono _
      | exact parallaxlaw8_some.mono _ _
      | exact parallaxseat_Bounds.mono _ _
      | exact parallaxseat_Line.mono _ _ _
      | exact request_Parse.mono _ _ _ _ _ _ _ _ _ _ _ _ _
      | exact LeO.none _
      | refine LeO.ite ?_ ?_
      | refine LeO.bind ?_ (fun _ => ?_)
theorem parallaxlaw8_RequestExtends.mono : ∀ a0 a1 a2 a3 a4 k, LeO (parallaxlaw8_RequestExtends.f k a0 a1 a2 a3 a4) (parallaxlaw8_RequestExtends.f (k + 1) a0 a1 a2 a3 a4) := by
  intro a0 a1 a2 a3 a4 k
  obtain ⟨ih0, ih1, ih2⟩ := parallaxlaw8_RequestExtends.mono_l k
  unfold parallaxlaw8_RequestExtends.f
  repeat' first
      | (with_reducible exact ih0 _ _ _ _ _ _ _ _ _ _ _ _ _ _)
      | (with_reducible exact ih1 _ _ _ _ _ _ _ _ _ _ _ _ _ _)
      | (with_reducible exact ih2 _ _ _ _ _ _ _ _ _ _ _ _ _ _ _ _ _ _ _)
      | (with_reducible exact parallaxlaw8_known.mono _)
      | (with_reducible exact parallaxlaw8_some.mono _ _)
      | (with_reducible exact parallaxseat_Bounds.mono _ _)
      | (with_reducible exact parallaxseat_Line.mono _ _ _)
      | (with_reducible exact request_Parse.mono _ _ _ _ _ _ _ _ _ _ _ _ _)
      | (with_reducible exact LeO.refl _)
      | (with_reducible exact LeO.none _)
      | (with_reducible refine LeO.ite ?_ ?_)
      | (with_reducible refine LeO.bind ?_ (fun _ => ?_))
      | exact ih0 _ _ _ _ _ _ _ _ _ _ _ _ _ _
      | exact ih1 _ _ _ _ _ _ _ _ _ _ _ _ _ _
      | exact ih2 _ _ _ _ _ _ _ _ _ _ _ _ _ _ _ _ _ _ _
      | exact parallaxlaw8_known.mono _
      | exact parallaxlaw8_some.mono _ _
      | exact parallaxseat_Bounds.mono _ _
      | exact parallaxseat_Line.mono _ _ _
      | exact request_Parse.mono _ _ _ _ _ _ _ _ _ _ _ _ _
      | exact LeO.none _
      | refine LeO.ite ?_ ?_
      | refine LeO.bind ?_ (fun _ => ?_)
set_option maxHeartbeats 8000000 in
set_option maxRecDepth 100000 in
theorem parallaxlaw8_RequestExtends.calls (k : Nat) (A0 : Option Addr) (c0 : Nat) (l0 : List Int) (a1 : Int) (a2 : Int) (a3 : Int) (a4 : Int) (r : Bool) (w : World) (hr0 : Kd.C (Kd.int .u8) w A0 l0.length l0) (hc0 : l0.length ≤ c0) (hq1 : (Lit.int .u32 a1).wf = true) (hq2 : (Lit.int .u8 a2).wf = true) (hq3 : (Lit.int .u8 a3).wf = true) (hq4 : (Lit.int .u8 a4).wf = true) (hT : r = true) (h : parallaxlaw8_RequestExtends.f k l0 a1 a2 a3 a4 = some r) :
    Calls Tryd.prog 4 #[.slice A0 l0.length c0, .int .u32 a1, .int .u8 a2, .int .u8 a3, .int .u8 a4] w fun e w' => e = .returned (.bool r) ∧ Below w.heap.size w w' := by
  have hu28 := Tryd.underlying28
  have HQ1 := Aside0.mk hq1
  clear hq1
  have HQ2 := Aside0.mk hq2
  clear hq2
  have HQ3 := Aside0.mk hq3
  clear hq3
  have HQ4 := Aside0.mk hq4
  clear hq4
  have HT := Aside0.mk hT
  clear hT
  have HR0 := Aside0.mk hr0
  have HC0 := Aside0.mk hc0
  clear hr0 hc0
  have HB := Aside0.mk (Below.refl w.heap.size w)
  have H : ((parallaxlaw8_known.f k).bind fun t308 => (if t308 = true then (if (l0.length : Int) > 12 then (some true) else ((parallaxseat_Bounds.f k a2).bind fun bt309 => ((parallaxlaw8_some.f k l0).bind fun t320 => ((parallaxseat_Line.f k (Int.tmod a3 200) a4).bind fun t321 => ((some (([t320, t321] : List ByteArray) : List ByteArray)).bind fun y322 => (parallaxlaw8_RequestExtends.l0 k a1 y322 (y322.length : Int) 0 bt309.1 bt309.2.1 bt309.2.2.1 bt309.2.2.2.1 bt309.2.2.2.2.1 bt309.2.2.2.2.2.1 bt309.2.2.2.2.2.2.1 bt309.2.2.2.2.2.2.2.1 bt309.2.2.2.2.2.2.2.2.1 bt309.2.2.2.2.2.2.2.2.2)))))) else (some false))) = some r := h
  clear h
  replace H := Option.bind_eq_some_iff.mp H
  obtain ⟨t308, A60, H⟩ := H
  (try dsimp only at H)
  have A6 := Aside0.mk A60
  clear A60
  by_cases c7 : t308 = true
  · subst c7
    rw [if_pos rfl] at H
    by_cases c8 : (l0.length : Int) > 12
    · rw [if_pos c8] at H
      have c8b0 : decide (12 < (l0.length : Int)) = true := decide_eq_true c8
      have c8b1 : decide (12 < l0.length) = true := decide_eq_true (by omega)
      clear c8
      obtain rfl := Option.some.inj H
      go_enter Tryd.func4, Tryd.ntmps4
      go_wp2_with (first | ((with_reducible refine gate_callee (f := 7) rfl ?_); refine goesL_ (some 22) rfl rfl Tryd.func7 (by kernel_rfl) rfl #[] rfl (by (try simp only [List.map_toArray, List.map_cons, List.map_nil]); first | done | rfl | (simp only [List.length_drop, List.length_take]; rfl)) ?_; (with_reducible refine (parallaxlaw8_known.calls k  true _ rfl A6.out).mono ?_); rintro e w9 ⟨rfl, hb⟩; refine ⟨_, rfl, ?_⟩; have n0_ := Aside0.mk (below_step (by repeat (first | (with_reducible first | exact HB.out | apply below_alloc | apply pw_below_drewN | apply below_drew1) | exact HB.out)) hb); clear HB; have HB := n0_; clear n0_; (try clear hb); (try clear hb2); (try clear hk); (try clear hi)) | (go_at_call 7; (with_reducible refine (parallaxlaw8_known.calls k  true _ rfl A6.out).mono ?_); rintro e w9 ⟨rfl, hb⟩; have n0_ := Aside0.mk (below_step (by repeat (first | (with_reducible first | exact HB.out | apply below_alloc | apply pw_below_drewN | apply below_drew1) | exact HB.out)) hb); clear HB; have HB := n0_; clear n0_; (try clear hb); (try clear hb2); (try clear hk); (try clear hi)))
      (try any_goals (exfalso; have h_ := ‹some undef = some (Value.bool _)›; revert h_; simp [undef]; done))
      go_ret
      exact ⟨by first | rfl | (simp [errW_none, errW_some] <;> rfl) | (simp [*, errW_none, errW_some] <;> rfl), by repeat (first | (with_reducible first | exact HB.out | apply below_alloc | apply pw_below_drewN | apply below_drew1) | exact HB.out)⟩
    · rw [if_neg c8] at H
      have c8b0 : decide (12 < (l0.length : Int)) = false := decide_eq_false c8
      have c8b1 : decide (12 < l0.length) = false := decide_eq_false (by omega)
      clear c8
      replace H := Option.bind_eq_some_iff.mp H
      obtain ⟨⟨t309, t310, t311, t312, t313, t314, t315, t316, t317, t318⟩, A100, H⟩ := H
      (try dsimp only at H)
      have A10 := Aside0.mk A100
      clear A100
      replace H := Option.bind_eq_some_iff.mp H
      obtain ⟨t320, A110, H⟩ := H
      (try dsimp only at H)
      have A11 := Aside0.mk A110
      clear A110
      replace H := Option.bind_eq_some_iff.mp H
      obtain ⟨t321, A120, H⟩ := H
      (try dsimp only at H)
      have A12 := Aside0.mk A120
      clear A120
      obtain ⟨y322, hy322⟩ : ∃ y_ : List ByteArray, y_ = (([t320, t321] : List ByteArray)) := ⟨_, rfl⟩
      replace H : (parallaxlaw8_RequestExtends.l0 k a1 y322 (y322.length : Int) 0 t309 t310 t311 t312 t313 t314 t315 t316 t317 t318) = some r := by first | (rw [hy322]; with_reducible exact H) | (have H2_ := (Option.bind_some _ _).symm.trans H; rw [hy322]; with_reducible exact H2_) | (have H2_ := (Option.bind_some _ _).symm.trans H; with_reducible exact H2_) | with_reducible exact H | (rw [hy322]; exact H) | exact H
      have Ny322 := Aside0.mk hy322
      clear hy322
      have H' := Aside0.mk H
      clear H
      go_enter Tryd.func4, Tryd.ntmps4
      go_wp2_with (first | ((with_reducible refine gate_callee (f := 7) rfl ?_); refine goesL_ (some 22) rfl rfl Tryd.func7 (by kernel_rfl) rfl #[] rfl (by (try simp only [List.map_toArray, List.map_cons, List.map_nil]); first | done | rfl | (simp only [List.length_drop, List.length_take]; rfl)) ?_; (with_reducible refine (parallaxlaw8_known.calls k  true _ rfl A6.out).mono ?_); rintro e w13 ⟨rfl, hb⟩; refine ⟨_, rfl, ?_⟩; have n0_ := Aside0.mk (below_step (by repeat (first | (with_reducible first | exact HB.out | apply below_alloc | apply pw_below_drewN | apply below_drew1) | exact HB.out)) hb); clear HB; have HB := n0_; clear n0_; (try clear hb); (try clear hb2); (try clear hk); (try clear hi)) | ((with_reducible refine gate_callee (f := 9) rfl ?_); refine goesL_ (some 28) rfl rfl Tryd.func9 (by kernel_rfl) rfl #[.int .u8 a2] rfl (by (try simp only [List.map_toArray, List.map_cons, List.map_nil]); first | done | rfl | (simp only [List.length_drop, List.length_take]; rfl)) ?_; (with_reducible refine (parallaxseat_Bounds.calls k a2 t309 t310 t311 t312 t313 t314 t315 t316 t317 t318 _ A10.out).mono ?_); rintro e w14 ⟨rfl, hb⟩; refine ⟨_, rfl, ?_⟩; have n0_ := Aside0.mk (below_step (by repeat (first | (with_reducible first | exact HB.out | apply below_alloc | apply pw_below_drewN | apply below_drew1) | exact HB.out)) hb); clear HB; have HB := n0_; clear n0_; (try clear hb); (try clear hb2); (try clear hk); (try clear hi)) | ((with_reducible refine gate_dst (N := 11) rfl ?_); refine box_event ?hg (N := 11) ?hd (cs := #[.int .i64 0, .int .i64 0, .int .i64 0, .int .i64 0, .int .i64 0, .int .i64 0, .int .i64 0, .int .i64 0, .bool false, .bool false]) (t := 28) ?hr ?_; (case hd => rfl); (case hg => rfl); (case hr => first | (go_simp; done) | (go_simp; rfl)); intro gb319 hg w15 hbox hb; have n0_ := Aside0.mk (below_step (by repeat (first | (with_reducible first | exact HB.out | apply below_alloc | apply pw_below_drewN | apply below_drew1) | exact HB.out)) hb); have n1_ := Aside0.mk (hbox); have n2_ := Aside0.mk ((by rw [hg]; exact (below_size (by repeat (first | (with_reducible first | exact HB.out | apply below_alloc | apply pw_below_drewN | apply below_drew1) | exact HB.out))) : w.heap.size ≤ gb319)); have n3_ := Aside0.mk ((by rw [hg]; exact (below_size (by repeat (first | (with_reducible first | exact HB.out | apply below_alloc | apply pw_below_drewN | apply below_drew1) | exact HB.out))) : w.heap.size ≤ gb319)); clear HB; have HB := n0_; have BK319 := n1_; have GW319 := n2_; have GE319 := n3_; clear n0_ n1_ n2_ n3_; clear hb hbox hg; have hcz16_0 : w15.cell? ⟨gb319, 0, none⟩ = some (.int .i64 0) := (blk_cell BK319.out 0).trans rfl; have hcz16_1 : w15.cell? ⟨gb319, 1, none⟩ = some (.int .i64 0) := (blk_cell BK319.out 1).trans rfl; have hcz16_2 : w15.cell? ⟨gb319, 2, none⟩ = some (.int .i64 0) := (blk_cell BK319.out 2).trans rfl; have hcz16_3 : w15.cell? ⟨gb319, 3, none⟩ = some (.int .i64 0) := (blk_cell BK319.out 3).trans rfl; have hcz16_4 : w15.cell? ⟨gb319, 4, none⟩ = some (.int .i64 0) := (blk_cell BK319.out 4).trans rfl; have hcz16_5 : w15.cell? ⟨gb319, 5, none⟩ = some (.int .i64 0) := (blk_cell BK319.out 5).trans rfl; have hcz16_6 : w15.cell? ⟨gb319, 6, none⟩ = some (.int .i64 0) := (blk_cell BK319.out 6).trans rfl; have hcz16_7 : w15.cell? ⟨gb319, 7, none⟩ = some (.int .i64 0) := (blk_cell BK319.out 7).trans rfl; have hcz16_8 : w15.cell? ⟨gb319, 8, none⟩ = some (.bool false) := (blk_cell BK319.out 8).trans rfl; have hcz16_9 : w15.cell? ⟨gb319, 9, none⟩ = some (.bool false) := (blk_cell BK319.out 9).trans rfl; have hfz16_0 := blk_frozen BK319.out 0; have hfz16_1 := blk_frozen BK319.out 1; have hfz16_2 := blk_frozen BK319.out 2; have hfz16_3 := blk_frozen BK319.out 3; have hfz16_4 := blk_frozen BK319.out 4; have hfz16_5 := blk_frozen BK319.out 5; have hfz16_6 := blk_frozen BK319.out 6; have hfz16_7 := blk_frozen BK319.out 7; have hfz16_8 := blk_frozen BK319.out 8; have hfz16_9 := blk_frozen BK319.out 9) | ((with_reducible refine gate_callee (f := 10) rfl ?_); refine goesL_ (some 30) rfl rfl Tryd.func10 (by kernel_rfl) rfl #[.slice A0 l0.length c0] rfl (by (try simp only [List.map_toArray, List.map_cons, List.map_nil]); first | done | rfl | (simp only [List.length_drop, List.length_take]; rfl)) ?_; (with_reducible refine (parallaxlaw8_some.calls k _ _ l0 t320 _ ?side1 ?side2 A11.out).mono ?_); (case side1 => exact Kd.C_below HR0.out (by repeat (first | (with_reducible first | exact HB.out | apply below_alloc | apply pw_below_drewN | apply below_drew1 | refine below_set ?_ GE319.out) | exact HB.out))); (case side2 => exact HC0.out); rintro e w17 ⟨rfl, hb⟩; refine ⟨_, rfl, ?_⟩; have n0_ := Aside0.mk (blk_below (g := gb319) (o := .cells #[.int .i64 t309, .int .i64 t310, .int .i64 t311, .int .i64 t312, .int .i64 t313, .int .i64 t314, .int .i64 t315, .int .i64 t316, .bool t317, .bool t318] 28 (0, 0)) (by (with_reducible repeat (first | refine blk_drewN ?_ _ | refine blk_drew ?_ | refine blk_alloc ?_ _)); refine blk_put (cs := #[.int .i64 t309, .int .i64 t310, .int .i64 t311, .int .i64 t312, .int .i64 t313, .int .i64 t314, .int .i64 t315, .int .i64 t316, .bool t317, .bool false]) ?_ 9 _ rfl; (with_reducible repeat (first | refine blk_drewN ?_ _ | refine blk_drew ?_ | refine blk_alloc ?_ _)); refine blk_put (cs := #[.int .i64 t309, .int .i64 t310, .int .i64 t311, .int .i64 t312, .int .i64 t313, .int .i64 t314, .int .i64 t315, .int .i64 t316, .bool false, .bool false]) ?_ 8 _ rfl; (with_reducible repeat (first | refine blk_drewN ?_ _ | refine blk_drew ?_ | refine blk_alloc ?_ _)); refine blk_put (cs := #[.int .i64 t309, .int .i64 t310, .int .i64 t311, .int .i64 t312, .int .i64 t313, .int .i64 t314, .int .i64 t315, .int .i64 0, .bool false, .bool false]) ?_ 7 _ rfl; (with_reducible repeat (first | refine blk_drewN ?_ _ | refine blk_drew ?_ | refine blk_alloc ?_ _)); refine blk_put (cs := #[.int .i64 t309, .int .i64 t310, .int .i64 t311, .int .i64 t312, .int .i64 t313, .int .i64 t314, .int .i64 0, .int .i64 0, .bool false, .bool false]) ?_ 6 _ rfl; (with_reducible repeat (first | refine blk_drewN ?_ _ | refine blk_drew ?_ | refine blk_alloc ?_ _)); refine blk_put (cs := #[.int .i64 t309, .int .i64 t310, .int .i64 t311, .int .i64 t312, .int .i64 t313, .int .i64 0, .int .i64 0, .int .i64 0, .bool false, .bool false]) ?_ 5 _ rfl; (with_reducible repeat (first | refine blk_drewN ?_ _ | refine blk_drew ?_ | refine blk_alloc ?_ _)); refine blk_put (cs := #[.int .i64 t309, .int .i64 t310, .int .i64 t311, .int .i64 t312, .int .i64 0, .int .i64 0, .int .i64 0, .int .i64 0, .bool false, .bool false]) ?_ 4 _ rfl; (with_reducible repeat (first | refine blk_drewN ?_ _ | refine blk_drew ?_ | refine blk_alloc ?_ _)); refine blk_put (cs := #[.int .i64 t309, .int .i64 t310, .int .i64 t311, .int .i64 0, .int .i64 0, .int .i64 0, .int .i64 0, .int .i64 0, .bool false, .bool false]) ?_ 3 _ rfl; (with_reducible repeat (first | refine blk_drewN ?_ _ | refine blk_drew ?_ | refine blk_alloc ?_ _)); refine blk_put (cs := #[.int .i64 t309, .int .i64 t310, .int .i64 0, .int .i64 0, .int .i64 0, .int .i64 0, .int .i64 0, .int .i64 0, .bool false, .bool false]) ?_ 2 _ rfl; (with_reducible repeat (first | refine blk_drewN ?_ _ | refine blk_drew ?_ | refine blk_alloc ?_ _)); refine blk_put (cs := #[.int .i64 t309, .int .i64 0, .int .i64 0, .int .i64 0, .int .i64 0, .int .i64 0, .int .i64 0, .int .i64 0, .bool false, .bool false]) ?_ 1 _ rfl; (with_reducible repeat (first | refine blk_drewN ?_ _ | refine blk_drew ?_ | refine blk_alloc ?_ _)); refine blk_put (cs := #[.int .i64 0, .int .i64 0, .int .i64 0, .int .i64 0, .int .i64 0, .int .i64 0, .int .i64 0, .int .i64 0, .bool false, .bool false]) ?_ 0 _ rfl; (with_reducible repeat (first | refine blk_drewN ?_ _ | refine blk_drew ?_ | refine blk_alloc ?_ _)); exact BK319.out) hb); have n1_ := Aside0.mk (below_step (by repeat (first | (with_reducible first | exact HB.out | apply below_alloc | apply pw_below_drewN | apply below_drew1 | refine below_set ?_ GE319.out) | exact HB.out)) hb); clear BK319; clear HB; have BK319 := n0_; have HB := n1_; clear n0_ n1_; (try clear hb); (try clear hb2); (try clear hk); (try clear hi)) | ((with_reducible refine gate_callee (f := 11) rfl ?_); refine goesL_ (some 34) rfl rfl Tryd.func11 (by kernel_rfl) rfl #[.int .u8 (Int.tmod a3 200), .int .u8 a4] rfl (by (try simp only [List.map_toArray, List.map_cons, List.map_nil]); first | done | rfl | (simp only [List.length_drop, List.length_take]; rfl)) ?_; (with_reducible refine (parallaxseat_Line.calls k (Int.tmod a3 200) a4 t321 _ A12.out).mono ?_); rintro e w18 ⟨rfl, hb⟩; refine ⟨_, rfl, ?_⟩; have n0_ := Aside0.mk (blk_below (g := gb319) (o := .cells #[.int .i64 t309, .int .i64 t310, .int .i64 t311, .int .i64 t312, .int .i64 t313, .int .i64 t314, .int .i64 t315, .int .i64 t316, .bool t317, .bool t318] 28 (0, 0)) (by (with_reducible repeat (first | refine blk_drewN ?_ _ | refine blk_drew ?_ | refine blk_alloc ?_ _)); exact BK319.out) hb); have n1_ := Aside0.mk (below_step (by repeat (first | (with_reducible first | exact HB.out | apply below_alloc | apply pw_below_drewN | apply below_drew1 | refine below_set ?_ GE319.out) | exact HB.out)) hb); clear BK319; clear HB; have BK319 := n0_; have HB := n1_; clear n0_ n1_; (try clear hb); (try clear hb2); (try clear hk); (try clear hi)) | ((with_reducible refine gate_dst (N := 35) rfl ?_); refine Kd.R_lit Kd.string _ 9 ?hg (N := 35) ?hd (xs := ([t320, t321] : List ByteArray)) (inner := [.string t320, .string t321]) (ok := fun _ => True) (okp := fun _ => True) ?hr ?hp (fun _ hk => hk) trivial (Below.refl _ _) (Nat.le_refl _) (by simp) ?_; (case hd => rfl); (case hg => rfl); (case hr => first | (go_simp; done) | (go_simp; rfl)); (case hp => exact (Reps.one (show Kd.M Kd.string _ _ _ t320 [.string t320] from rfl) (Reps.one (show Kd.M Kd.string _ _ _ t321 [.string t321] from rfl) (Reps.none _ _)))); intro v323 w19 ho20 hb hg_ hnew_; clear hg_ hnew_; (first | rw [← Ny322.out] at ho20 | (simp only [Int.reduceToNat] at ho20; rw [← Ny322.out] at ho20)); have n0_ := Aside0.mk (Kd.R_lower ho20 (below_size (by repeat (first | (with_reducible first | exact HB.out | apply below_alloc | apply pw_below_drewN | apply below_drew1 | refine below_set ?_ GE319.out) | exact HB.out)))); have n1_ := Aside0.mk (blk_below (g := gb319) (o := .cells #[.int .i64 t309, .int .i64 t310, .int .i64 t311, .int .i64 t312, .int .i64 t313, .int .i64 t314, .int .i64 t315, .int .i64 t316, .bool t317, .bool t318] 28 (0, 0)) (by (with_reducible repeat (first | refine blk_drewN ?_ _ | refine blk_drew ?_ | refine blk_alloc ?_ _)); exact BK319.out) hb); have n2_ := Aside0.mk (below_step (by repeat (first | (with_reducible first | exact HB.out | apply below_alloc | apply pw_below_drewN | apply below_drew1 | refine below_set ?_ GE319.out) | exact HB.out)) hb); clear BK319; clear HB; have HO324 := n0_; have BK319 := n1_; have HB := n2_; clear n0_ n1_ n2_; clear hb ho20; obtain ⟨Ao21, co21, eo21⟩ := Kd.R_slice HO324.out; subst eo21) | (go_at_call 7; (with_reducible refine (parallaxlaw8_known.calls k  true _ rfl A6.out).mono ?_); rintro e w13 ⟨rfl, hb⟩; have n0_ := Aside0.mk (below_step (by repeat (first | (with_reducible first | exact HB.out | apply below_alloc | apply pw_below_drewN | apply below_drew1) | exact HB.out)) hb); clear HB; have HB := n0_; clear n0_; (try clear hb); (try clear hb2); (try clear hk); (try clear hi)) | (go_at_call 9; (with_reducible refine (parallaxseat_Bounds.calls k a2 t309 t310 t311 t312 t313 t314 t315 t316 t317 t318 _ A10.out).mono ?_); rintro e w14 ⟨rfl, hb⟩; have n0_ := Aside0.mk (below_step (by repeat (first | (with_reducible first | exact HB.out | apply below_alloc | apply pw_below_drewN | apply below_drew1) | exact HB.out)) hb); clear HB; have HB := n0_; clear n0_; (try clear hb); (try clear hb2); (try clear hk); (try clear hi)) | (go_at_call 10; (with_reducible refine (parallaxlaw8_some.calls k _ _ l0 t320 _ ?side1 ?side2 A11.out).mono ?_); (case side1 => exact Kd.C_below HR0.out (by repeat (first | (with_reducible first | exact HB.out | apply below_alloc | apply pw_below_drewN | apply below_drew1 | refine below_set ?_ GE319.out) | exact HB.out))); (case side2 => exact HC0.out); rintro e w17 ⟨rfl, hb⟩; have n0_ := Aside0.mk (blk_below (g := gb319) (o := .cells #[.int .i64 t309, .int .i64 t310, .int .i64 t311, .int .i64 t312, .int .i64 t313, .int .i64 t314, .int .i64 t315, .int .i64 t316, .bool t317, .bool t318] 28 (0, 0)) (by (with_reducible repeat (first | refine blk_drewN ?_ _ | refine blk_drew ?_ | refine blk_alloc ?_ _)); refine blk_put (cs := #[.int .i64 t309, .int .i64 t310, .int .i64 t311, .int .i64 t312, .int .i64 t313, .int .i64 t314, .int .i64 t315, .int .i64 t316, .bool t317, .bool false]) ?_ 9 _ rfl; (with_reducible repeat (first | refine blk_drewN ?_ _ | refine blk_drew ?_ | refine blk_alloc ?_ _)); refine blk_put (cs := #[.int .i64 t309, .int .i64 t310, .int .i64 t311, .int .i64 t312, .int .i64 t313, .int .i64 t314, .int .i64 t315, .int .i64 t316, .bool false, .bool false]) ?_ 8 _ rfl; (with_reducible repeat (first | refine blk_drewN ?_ _ | refine blk_drew ?_ | refine blk_alloc ?_ _)); refine blk_put (cs := #[.int .i64 t309, .int .i64 t310, .int .i64 t311, .int .i64 t312, .int .i64 t313, .int .i64 t314, .int .i64 t315, .int .i64 0, .bool false, .bool false]) ?_ 7 _ rfl; (with_reducible repeat (first | refine blk_drewN ?_ _ | refine blk_drew ?_ | refine blk_alloc ?_ _)); refine blk_put (cs := #[.int .i64 t309, .int .i64 t310, .int .i64 t311, .int .i64 t312, .int .i64 t313, .int .i64 t314, .int .i64 0, .int .i64 0, .bool false, .bool false]) ?_ 6 _ rfl; (with_reducible repeat (first | refine blk_drewN ?_ _ | refine blk_drew ?_ | refine blk_alloc ?_ _)); refine blk_put (cs := #[.int .i64 t309, .int .i64 t310, .int .i64 t311, .int .i64 t312, .int .i64 t313, .int .i64 0, .int .i64 0, .int .i64 0, .bool false, .bool false]) ?_ 5 _ rfl; (with_reducible repeat (first | refine blk_drewN ?_ _ | refine blk_drew ?_ | refine blk_alloc ?_ _)); refine blk_put (cs := #[.int .i64 t309, .int .i64 t310, .int .i64 t311, .int .i64 t312, .int .i64 0, .int .i64 0, .int .i64 0, .int .i64 0, .bool false, .bool false]) ?_ 4 _ rfl; (with_reducible repeat (first | refine blk_drewN ?_ _ | refine blk_drew ?_ | refine blk_alloc ?_ _)); refine blk_put (cs := #[.int .i64 t309, .int .i64 t310, .int .i64 t311, .int .i64 0, .int .i64 0, .int .i64 0, .int .i64 0, .int .i64 0, .bool false, .bool false]) ?_ 3 _ rfl; (with_reducible repeat (first | refine blk_drewN ?_ _ | refine blk_drew ?_ | refine blk_alloc ?_ _)); refine blk_put (cs := #[.int .i64 t309, .int .i64 t310, .int .i64 0, .int .i64 0, .int .i64 0, .int .i64 0, .int .i64 0, .int .i64 0, .bool false, .bool false]) ?_ 2 _ rfl; (with_reducible repeat (first | refine blk_drewN ?_ _ | refine blk_drew ?_ | refine blk_alloc ?_ _)); refine blk_put (cs := #[.int .i64 t309, .int .i64 0, .int .i64 0, .int .i64 0, .int .i64 0, .int .i64 0, .int .i64 0, .int .i64 0, .bool false, .bool false]) ?_ 1 _ rfl; (with_reducible repeat (first | refine blk_drewN ?_ _ | refine blk_drew ?_ | refine blk_alloc ?_ _)); refine blk_put (cs := #[.int .i64 0, .int .i64 0, .int .i64 0, .int .i64 0, .int .i64 0, .int .i64 0, .int .i64 0, .int .i64 0, .bool false, .bool false]) ?_ 0 _ rfl; (with_reducible repeat (first | refine blk_drewN ?_ _ | refine blk_drew ?_ | refine blk_alloc ?_ _)); exact BK319.out) hb); have n1_ := Aside0.mk (below_step (by repeat (first | (with_reducible first | exact HB.out | apply below_alloc | apply pw_below_drewN | apply below_drew1 | refine below_set ?_ GE319.out) | exact HB.out)) hb); clear BK319; clear HB; have BK319 := n0_; have HB := n1_; clear n0_ n1_; (try clear hb); (try clear hb2); (try clear hk); (try clear hi)) | (go_at_call 11; (with_reducible refine (parallaxseat_Line.calls k (Int.tmod a3 200) a4 t321 _ A12.out).mono ?_); rintro e w18 ⟨rfl, hb⟩; have n0_ := Aside0.mk (blk_below (g := gb319) (o := .cells #[.int .i64 t309, .int .i64 t310, .int .i64 t311, .int .i64 t312, .int .i64 t313, .int .i64 t314, .int .i64 t315, .int .i64 t316, .bool t317, .bool t318] 28 (0, 0)) (by (with_reducible repeat (first | refine blk_drewN ?_ _ | refine blk_drew ?_ | refine blk_alloc ?_ _)); exact BK319.out) hb); have n1_ := Aside0.mk (below_step (by repeat (first | (with_reducible first | exact HB.out | apply below_alloc | apply pw_below_drewN | apply below_drew1 | refine below_set ?_ GE319.out) | exact HB.out)) hb); clear BK319; clear HB; have BK319 := n0_; have HB := n1_; clear n0_ n1_; (try clear hb); (try clear hb2); (try clear hk); (try clear hi)))
      (try any_goals (exfalso; have h_ := ‹some undef = some (Value.bool _)›; revert h_; simp [undef]; done))
      go_loopg [37] k (fun kq v37 w' => ∃ (x37_1 : Int), v37 = .int .i64 x37_1 ∧ Aside0 (parallaxlaw8_RequestExtends.l0 kq a1 y322 (y322.length : Int) x37_1 t309 t310 t311 t312 t313 t314 t315 t316 t317 t318 = some r) ∧ Aside0 (kq ≤ k) ∧ Aside0 (Kd.R Kd.string 9 w' w.heap.size (fun _ => True) (.slice Ao21 y322.length co21) y322) ∧ Aside0 (w'.heap[gb319]? = some (.cells #[.int .i64 t309, .int .i64 t310, .int .i64 t311, .int .i64 t312, .int .i64 t313, .int .i64 t314, .int .i64 t315, .int .i64 t316, .bool t317, .bool t318] 28 (0, 0))) ∧ Aside0 (Below w.heap.size w w'))
      case atStart => exact ⟨(0), (by first | rfl | (simp; done) | (simp [*]; done)), H', ⟨Nat.le_refl _⟩, ⟨by (with_reducible repeat (first | apply Kd.R_alloc | apply Kd.R_drewN | apply Kd.R_drew)); exact HO324.out⟩, ⟨by (with_reducible repeat (first | refine blk_drewN ?_ _ | refine blk_drew ?_ | refine blk_alloc ?_ _)); exact BK319.out⟩, ⟨by repeat (first | (with_reducible first | exact HB.out | apply below_alloc | apply pw_below_drewN | apply below_drew1 | refine below_set ?_ GE319.out) | exact HB.out)⟩⟩
      case round =>
        clear H'
        try clear c1
        try clear q1
        try clear p2
        try clear q2
        try clear q3
        try clear c4
        try clear q4
        try clear c7
        try clear c8
        try clear c8b0
        try clear c8b1
        try clear c9
        try clear c10
        try clear c11
        try clear hcz16_0
        try clear hcz16_1
        try clear hcz16_2
        try clear hcz16_3
        try clear hcz16_4
        try clear hcz16_5
        try clear hcz16_6
        try clear hcz16_7
        try clear hcz16_8
        try clear hcz16_9
        try clear hfz16_0
        try clear hfz16_1
        try clear hfz16_2
        try clear hfz16_3
        try clear hfz16_4
        try clear hfz16_5
        try clear hfz16_6
        try clear hfz16_7
        try clear hfz16_8
        try clear hfz16_9
        obtain ⟨x37_1, rfl, HA, HK1, HO_35, BK319, HB⟩ := hrel
        cases gk with
        | zero => exact absurd HA.out (by simp [parallaxlaw8_RequestExtends.l0])
        | succ k1 =>
          have H := HA.out
          clear HA
          simp only [parallaxlaw8_RequestExtends.l0] at H
          by_cases c22 : x37_1 < (y322.length : Int)
          · rw [if_pos c22] at H
            have c22b0 : decide (x37_1 < (y322.length : Int)) = true := decide_eq_true c22
            clear c22
            have HC23 := Aside0.mk H
            clear H
            go_upto_block 1 with (fail)
            go_cut [] (fun wc => ∃ (kq : Nat), Aside0 (parallaxlaw8_RequestExtends.j2 kq a1 y322 (y322.length : Int) x37_1 t309 t310 t311 t312 t313 t314 t315 t316 t317 t318 = some r) ∧ Aside0 (kq ≤ k1) ∧ Aside0 (Kd.R Kd.string 9 wc w.heap.size (fun _ => True) (.slice Ao21 y322.length co21) y322) ∧ Aside0 (wc.heap[gb319]? = some (.cells #[.int .i64 t309, .int .i64 t310, .int .i64 t311, .int .i64 t312, .int .i64 t313, .int .i64 t314, .int .i64 t315, .int .i64 t316, .bool t317, .bool t318] 28 (0, 0))) ∧ Aside0 (Below w.heap.size w wc))
            case first =>
              have H := HC23.out
              clear HC23
              by_cases c24 : 0 ≤ x37_1
              · rw [if_pos c24] at H
                have c24b0 : decide (0 ≤ x37_1) = true := decide_eq_true c24
                clear c24
                (first | rw [c24b0] | (simp only [i64_w, i32_w]; rw [c24b0]) | skip)
                by_cases c25 : x37_1 < (y322.length : Int)
                · rw [if_pos c25] at H
                  have c25b0 : decide (x37_1 < (y322.length : Int)) = true := decide_eq_true c25
                  clear c25
                  replace H := Option.bind_eq_some_iff.mp H
                  obtain ⟨⟨t326, t327, t328, t329⟩, A260, H⟩ := H
                  (try dsimp only at H)
                  have A26 := Aside0.mk A260
                  clear A260
                  by_cases c27 : t329 = 0
                  · rw [if_pos c27] at H
                    have c27b0 : (t329 == 0) = true := beq_iff_eq.mpr c27
                    have c27b1 : (t329 != 0) = false := bne_eq_false_iff_eq.mpr c27
                    clear c27
                    replace H := Option.bind_eq_some_iff.mp H
                    obtain ⟨⟨t330, t331, t332, t333⟩, A280, H⟩ := H
                    (try dsimp only at H)
                    have A28 := Aside0.mk A280
                    clear A280
                    have HC29 := Aside0.mk H
                    clear H
                    have p325 : 0 ≤ (x37_1 : Int) := of_decide_eq_true (by first | (with_reducible assumption) | assumption)
                    have q325 : x37_1 < (y322.length : Int) := of_decide_eq_true (by first | (with_reducible assumption) | assumption)
                    obtain ⟨ad325, e325, hx325_0⟩ := Kd.at_string (Kd.R_reads' HO_35.out).2.2 x37_1 p325 q325
                    cases e325
                    replace p325 := eq_true p325
                    replace q325 := eq_true q325
                    have hcz30_0 : wr.cell? ⟨gb319, 0, none⟩ = some (.int .i64 t309) := (blk_cell BK319.out 0).trans rfl
                    have hcz30_1 : wr.cell? ⟨gb319, 1, none⟩ = some (.int .i64 t310) := (blk_cell BK319.out 1).trans rfl
                    have hcz30_2 : wr.cell? ⟨gb319, 2, none⟩ = some (.int .i64 t311) := (blk_cell BK319.out 2).trans rfl
                    have hcz30_3 : wr.cell? ⟨gb319, 3, none⟩ = some (.int .i64 t312) := (blk_cell BK319.out 3).trans rfl
                    have hcz30_4 : wr.cell? ⟨gb319, 4, none⟩ = some (.int .i64 t313) := (blk_cell BK319.out 4).trans rfl
                    have hcz30_5 : wr.cell? ⟨gb319, 5, none⟩ = some (.int .i64 t314) := (blk_cell BK319.out 5).trans rfl
                    have hcz30_6 : wr.cell? ⟨gb319, 6, none⟩ = some (.int .i64 t315) := (blk_cell BK319.out 6).trans rfl
                    have hcz30_7 : wr.cell? ⟨gb319, 7, none⟩ = some (.int .i64 t316) := (blk_cell BK319.out 7).trans rfl
                    have hcz30_8 : wr.cell? ⟨gb319, 8, none⟩ = some (.bool t317) := (blk_cell BK319.out 8).trans rfl
                    have hcz30_9 : wr.cell? ⟨gb319, 9, none⟩ = some (.bool t318) := (blk_cell BK319.out 9).trans rfl
                    have hfz30_0 := blk_frozen BK319.out 0
                    have hfz30_1 := blk_frozen BK319.out 1
                    have hfz30_2 := blk_frozen BK319.out 2
                    have hfz30_3 := blk_frozen BK319.out 3
                    have hfz30_4 := blk_frozen BK319.out 4
                    have hfz30_5 := blk_frozen BK319.out 5
                    have hfz30_6 := blk_frozen BK319.out 6
                    have hfz30_7 := blk_frozen BK319.out 7
                    have hfz30_8 := blk_frozen BK319.out 8
                    have hfz30_9 := blk_frozen BK319.out 9
                    go_upto_region 12 with (first | ((with_reducible refine gate_callee (f := 13) rfl ?_); refine goesL_ (some 44) rfl rfl Tryd.func13 (by kernel_rfl) rfl #[.string (rdOf ByteArray.empty y322 x37_1), .int .u32 0, .agg #[.int .i64 t309, .int .i64 t310, .int .i64 t311, .int .i64 t312, .int .i64 t313, .int .i64 t314, .int .i64 t315, .int .i64 t316, .bool t317, .bool t318]] rfl (by (try simp only [List.map_toArray, List.map_cons, List.map_nil]); first | done | rfl | (simp only [List.length_drop, List.length_take]; rfl)) ?_; (with_reducible refine (request_Parse.calls k1 (rdOf ByteArray.empty y322 x37_1) 0 t309 t310 t311 t312 t313 t314 t315 t316 t317 t318 t326 t327 t328 t329 _ A26.out).mono ?_); rintro e w31 ⟨rfl, hb⟩; refine ⟨_, rfl, ?_⟩; have n0_ := Aside0.mk (Kd.R_below (by (with_reducible repeat (first | apply Kd.R_alloc | apply Kd.R_drewN | apply Kd.R_drew)); exact HO_35.out) hb); have n1_ := Aside0.mk (blk_below (g := gb319) (o := .cells #[.int .i64 t309, .int .i64 t310, .int .i64 t311, .int .i64 t312, .int .i64 t313, .int .i64 t314, .int .i64 t315, .int .i64 t316, .bool t317, .bool t318] 28 (0, 0)) (by (with_reducible repeat (first | refine blk_drewN ?_ _ | refine blk_drew ?_ | refine blk_alloc ?_ _)); exact BK319.out) hb); have n2_ := Aside0.mk (below_step (by repeat (first | (with_reducible first | exact HB.out | apply below_alloc | apply pw_below_drewN | apply below_drew1 | refine below_set ?_ GE319.out) | exact HB.out)) hb); clear HO_35; clear BK319; clear HB; have HO_35 := n0_; have BK319 := n1_; have HB := n2_; clear n0_ n1_ n2_; (try clear hb); (try clear hb2); (try clear hk); (try clear hi); have hcz32_0 : w31.cell? ⟨gb319, 0, none⟩ = some (.int .i64 t309) := (blk_cell BK319.out 0).trans rfl; have hcz32_1 : w31.cell? ⟨gb319, 1, none⟩ = some (.int .i64 t310) := (blk_cell BK319.out 1).trans rfl; have hcz32_2 : w31.cell? ⟨gb319, 2, none⟩ = some (.int .i64 t311) := (blk_cell BK319.out 2).trans rfl; have hcz32_3 : w31.cell? ⟨gb319, 3, none⟩ = some (.int .i64 t312) := (blk_cell BK319.out 3).trans rfl; have hcz32_4 : w31.cell? ⟨gb319, 4, none⟩ = some (.int .i64 t313) := (blk_cell BK319.out 4).trans rfl; have hcz32_5 : w31.cell? ⟨gb319, 5, none⟩ = some (.int .i64 t314) := (blk_cell BK319.out 5).trans rfl; have hcz32_6 : w31.cell? ⟨gb319, 6, none⟩ = some (.int .i64 t315) := (blk_cell BK319.out 6).trans rfl; have hcz32_7 : w31.cell? ⟨gb319, 7, none⟩ = some (.int .i64 t316) := (blk_cell BK319.out 7).trans rfl; have hcz32_8 : w31.cell? ⟨gb319, 8, none⟩ = some (.bool t317) := (blk_cell BK319.out 8).trans rfl; have hcz32_9 : w31.cell? ⟨gb319, 9, none⟩ = some (.bool t318) := (blk_cell BK319.out 9).trans rfl; have hfz32_0 := blk_frozen BK319.out 0; have hfz32_1 := blk_frozen BK319.out 1; have hfz32_2 := blk_frozen BK319.out 2; have hfz32_3 := blk_frozen BK319.out 3; have hfz32_4 := blk_frozen BK319.out 4; have hfz32_5 := blk_frozen BK319.out 5; have hfz32_6 := blk_frozen BK319.out 6; have hfz32_7 := blk_frozen BK319.out 7; have hfz32_8 := blk_frozen BK319.out 8; have hfz32_9 := blk_frozen BK319.out 9) | ((with_reducible refine gate_callee (f := 13) rfl ?_); refine goesL_ (some 56) rfl rfl Tryd.func13 (by kernel_rfl) rfl #[.string (rdOf ByteArray.empty y322 x37_1), .int .u32 (Go.bits .and .u32 a1 1073741823), .agg #[.int .i64 t309, .int .i64 t310, .int .i64 t311, .int .i64 t312, .int .i64 t313, .int .i64 t314, .int .i64 t315, .int .i64 t316, .bool t317, .bool t318]] rfl (by (try simp only [List.map_toArray, List.map_cons, List.map_nil]); first | done | rfl | (simp only [List.length_drop, List.length_take]; rfl)) ?_; (with_reducible refine (request_Parse.calls k1 (rdOf ByteArray.empty y322 x37_1) (Go.bits .and .u32 a1 1073741823) t309 t310 t311 t312 t313 t314 t315 t316 t317 t318 t330 t331 t332 t333 _ A28.out).mono ?_); rintro e w33 ⟨rfl, hb⟩; refine ⟨_, rfl, ?_⟩; have n0_ := Aside0.mk (Kd.R_below (by (with_reducible repeat (first | apply Kd.R_alloc | apply Kd.R_drewN | apply Kd.R_drew)); exact HO_35.out) hb); have n1_ := Aside0.mk (blk_below (g := gb319) (o := .cells #[.int .i64 t309, .int .i64 t310, .int .i64 t311, .int .i64 t312, .int .i64 t313, .int .i64 t314, .int .i64 t315, .int .i64 t316, .bool t317, .bool t318] 28 (0, 0)) (by (with_reducible repeat (first | refine blk_drewN ?_ _ | refine blk_drew ?_ | refine blk_alloc ?_ _)); exact BK319.out) hb); have n2_ := Aside0.mk (below_step (by repeat (first | (with_reducible first | exact HB.out | apply below_alloc | apply pw_below_drewN | apply below_drew1 | refine below_set ?_ GE319.out) | exact HB.out)) hb); clear HO_35; clear BK319; clear HB; have HO_35 := n0_; have BK319 := n1_; have HB := n2_; clear n0_ n1_ n2_; (try clear hb); (try clear hb2); (try clear hk); (try clear hi)))
                    (try simp only [Act.put, List.setIfInBounds_toArray, List.set_cons_zero, List.set_cons_succ])
                    go_cut [77] (fun v77 wc => ∃ (kq : Nat) (x77_28 : Bool), v77 = .bool x77_28 ∧ Aside0 (parallaxlaw8_RequestExtends.j1 kq a1 (rdOf ByteArray.empty y322 x37_1) t326 t327 t332 y322 (y322.length : Int) x37_1 x77_28 t309 t310 t311 t312 t313 t314 t315 t316 t317 t318 = some r) ∧ Aside0 (kq ≤ k1) ∧ Aside0 (Kd.R Kd.string 9 wc w.heap.size (fun _ => True) (.slice (some ad325) y322.length co21) y322) ∧ Aside0 (wc.heap[gb319]? = some (.cells #[.int .i64 t309, .int .i64 t310, .int .i64 t311, .int .i64 t312, .int .i64 t313, .int .i64 t314, .int .i64 t315, .int .i64 t316, .bool t317, .bool t318] 28 (0, 0))) ∧ Aside0 (Below w.heap.size w wc))
                    case first =>
                      have H := HC29.out
                      clear HC29
                      by_cases c34 : t333 = 0
                      · rw [if_pos c34] at H
                        have c34b0 : (t333 == 0) = true := beq_iff_eq.mpr c34
                        have c34b1 : (t333 != 0) = false := bne_eq_false_iff_eq.mpr c34
                        clear c34
                        (first | rw [c34b0] | (simp only [i64_w, i32_w]; rw [c34b0]) | skip)
                        by_cases c35 : t326.toList = t330.toList
                        · rw [if_pos c35] at H
                          have c35b0 : (t326.toList == t330.toList) = true := beq_iff_eq.mpr c35
                          have c35b1 : (t326.toList != t330.toList) = false := bne_eq_false_iff_eq.mpr c35
                          clear c35
                          by_cases c36 : t327.toList = t331.toList
                          · rw [if_pos c36] at H
                            have c36b0 : (t327.toList == t331.toList) = true := beq_iff_eq.mpr c36
                            have c36b1 : (t327.toList != t331.toList) = false := bne_eq_false_iff_eq.mpr c36
                            clear c36
                            have H' := Aside0.mk H
                            clear H
                            go_wp2
                            (try any_goals (exfalso; have h_ := ‹some undef = some (Value.bool _)›; revert h_; simp [undef]; done))
                            go_meet
                            case rel => exact ⟨_, ((t328 != t332)), (by first | rfl | (simp; done) | (simp [*]; done)), H', ⟨by have := HK1.out; first | omega | exact Nat.le_refl _⟩, ⟨by (with_reducible repeat (first | apply Kd.R_alloc | apply Kd.R_drewN | apply Kd.R_drew)); exact HO_35.out⟩, ⟨by (with_reducible repeat (first | refine blk_drewN ?_ _ | refine blk_drew ?_ | refine blk_alloc ?_ _)); exact BK319.out⟩, ⟨by repeat (first | (with_reducible first | exact HB.out | apply below_alloc | apply pw_below_drewN | apply below_drew1 | refine below_set ?_ GE319.out) | exact HB.out)⟩⟩
                          · rw [if_neg c36] at H
                            have c36b0 : (t327.toList == t331.toList) = false := beq_eq_false_iff_ne.mpr c36
                            have c36b1 : (t327.toList != t331.toList) = true := bne_iff_ne.mpr c36
                            have H' := Aside0.mk H
                            clear H
                            go_wp2
                            (try any_goals (exfalso; have h_ := ‹some undef = some (Value.bool _)›; revert h_; simp [undef]; done))
                            go_meet
                            case rel => exact ⟨_, (true), (by first | rfl | (simp; done) | (simp [*]; done)), H', ⟨by have := HK1.out; first | omega | exact Nat.le_refl _⟩, ⟨by (with_reducible repeat (first | apply Kd.R_alloc | apply Kd.R_drewN | apply Kd.R_drew)); exact HO_35.out⟩, ⟨by (with_reducible repeat (first | refine blk_drewN ?_ _ | refine blk_drew ?_ | refine blk_alloc ?_ _)); exact BK319.out⟩, ⟨by repeat (first | (with_reducible first | exact HB.out | apply below_alloc | apply pw_below_drewN | apply below_drew1 | refine below_set ?_ GE319.out) | exact HB.out)⟩⟩
                        · rw [if_neg c35] at H
                          have c35b0 : (t326.toList == t330.toList) = false := beq_eq_false_iff_ne.mpr c35
                          have c35b1 : (t326.toList != t330.toList) = true := bne_iff_ne.mpr c35
                          have H' := Aside0.mk H
                          clear H
                          go_wp2
                          (try any_goals (exfalso; have h_ := ‹some undef = some (Value.bool _)›; revert h_; simp [undef]; done))
                          go_meet
                          case rel => exact ⟨_, (true), (by first | rfl | (simp; done) | (simp [*]; done)), H', ⟨by have := HK1.out; first | omega | exact Nat.le_refl _⟩, ⟨by (with_reducible repeat (first | apply Kd.R_alloc | apply Kd.R_drewN | apply Kd.R_drew)); exact HO_35.out⟩, ⟨by (with_reducible repeat (first | refine blk_drewN ?_ _ | refine blk_drew ?_ | refine blk_alloc ?_ _)); exact BK319.out⟩, ⟨by repeat (first | (with_reducible first | exact HB.out | apply below_alloc | apply pw_below_drewN | apply below_drew1 | refine below_set ?_ GE319.out) | exact HB.out)⟩⟩
                      · rw [if_neg c34] at H
                        have c34b0 : (t333 == 0) = false := beq_eq_false_iff_ne.mpr c34
                        have c34b1 : (t333 != 0) = true := bne_iff_ne.mpr c34
                        (first | rw [c34b0] | (simp only [i64_w, i32_w]; rw [c34b0]) | skip)
                        have H' := Aside0.mk H
                        clear H
                        go_wp2
                        (try any_goals (exfalso; have h_ := ‹some undef = some (Value.bool _)›; revert h_; simp [undef]; done))
                        go_meet
                        case rel => exact ⟨_, (true), (by first | rfl | (simp; done) | (simp [*]; done)), H', ⟨by have := HK1.out; first | omega | exact Nat.le_refl _⟩, ⟨by (with_reducible repeat (first | apply Kd.R_alloc | apply Kd.R_drewN | apply Kd.R_drew)); exact HO_35.out⟩, ⟨by (with_reducible repeat (first | refine blk_drewN ?_ _ | refine blk_drew ?_ | refine blk_alloc ?_ _)); exact BK319.out⟩, ⟨by repeat (first | (with_reducible first | exact HB.out | apply below_alloc | apply pw_below_drewN | apply below_drew1 | refine below_set ?_ GE319.out) | exact HB.out)⟩⟩
                    case rest =>
                      clear HC29
                      try clear c1
                      try clear q1
                      try clear c2
                      try clear p2
                      try clear q2
                      try clear c3
                      try clear p3
                      try clear q3
                      try clear hx3
                      try clear c4
                      try clear q4
                      try clear c7
                      try clear c8
                      try clear c8b0
                      try clear c8b1
                      try clear c9
                      try clear c10
                      try clear c11
                      try clear c13
                      try clear c22
                      try clear c22b0
                      try clear c24
                      try clear c24b0
                      try clear c25
                      try clear c25b0
                      try clear c27
                      try clear c27b0
                      try clear c27b1
                      try clear p32
                      try clear q32
                      try clear hx32
                      try clear c34
                      try clear c34b0
                      try clear c34b1
                      try clear c35
                      try clear c35b0
                      try clear c35b1
                      try clear c36
                      try clear c36b0
                      try clear c36b1
                      try clear hcz16_0
                      try clear hcz16_1
                      try clear hcz16_2
                      try clear hcz16_3
                      try clear hcz16_4
                      try clear hcz16_5
                      try clear hcz16_6
                      try clear hcz16_7
                      try clear hcz16_8
                      try clear hcz16_9
                      try clear hcz30_0
                      try clear hcz30_1
                      try clear hcz30_2
                      try clear hcz30_3
                      try clear hcz30_4
                      try clear hcz30_5
                      try clear hcz30_6
                      try clear hcz30_7
                      try clear hcz30_8
                      try clear hcz30_9
                      try clear hcz32_0
                      try clear hcz32_1
                      try clear hcz32_2
                      try clear hcz32_3
                      try clear hcz32_4
                      try clear hcz32_5
                      try clear hcz32_6
                      try clear hcz32_7
                      try clear hcz32_8
                      try clear hcz32_9
                      try clear hfz16_0
                      try clear hfz16_1
                      try clear hfz16_2
                      try clear hfz16_3
                      try clear hfz16_4
                      try clear hfz16_5
                      try clear hfz16_6
                      try clear hfz16_7
                      try clear hfz16_8
                      try clear hfz16_9
                      try clear hfz30_0
                      try clear hfz30_1
                      try clear hfz30_2
                      try clear hfz30_3
                      try clear hfz30_4
                      try clear hfz30_5
                      try clear hfz30_6
                      try clear hfz30_7
                      try clear hfz30_8
                      try clear hfz30_9
                      try clear hfz32_0
                      try clear hfz32_1
                      try clear hfz32_2
                      try clear hfz32_3
                      try clear hfz32_4
                      try clear hfz32_5
                      try clear hfz32_6
                      try clear hfz32_7
                      try clear hfz32_8
                      try clear hfz32_9
                      try clear hx325_0
                      try clear p2
                      try clear p325
                      try clear q1
                      try clear q2
                      try clear q3
                      try clear q325
                      try clear q4
                      obtain ⟨kq, x77_28, rfl, HA, HJ28, HO_35, BK319, HB⟩ := hcut
                      cases kq with
                      | zero => exact absurd HA.out (by simp [parallaxlaw8_RequestExtends.j1])
                      | succ kj28 =>
                        have H := HA.out
                        clear HA
                        simp only [parallaxlaw8_RequestExtends.j1] at H
                        by_cases c37 : x77_28 = true
                        · subst c37
                          rw [if_pos rfl] at H
                          exact absurd ((Option.some.inj H).trans HT.out) (by decide)
                        · replace c37 := Bool.eq_false_iff.mpr c37
                          subst c37
                          rw [if_neg (show ¬ (false = true) by decide)] at H
                          by_cases c38 : t332 = 1
                          · rw [if_pos c38] at H
                            have c38b0 : (t332 == 1) = true := beq_iff_eq.mpr c38
                            have c38b1 : (t332 != 1) = false := bne_eq_false_iff_eq.mpr c38
                            clear c38
                            replace H := Option.bind_eq_some_iff.mp H
                            obtain ⟨t334, A390, H⟩ := H
                            (try dsimp only at H)
                            have A39 := Aside0.mk A390
                            clear A390
                            by_cases c40 : t334.toList = (rdOf ByteArray.empty y322 x37_1).toList
                            · rw [if_pos c40] at H
                              have c40b0 : (t334.toList == (rdOf ByteArray.empty y322 x37_1).toList) = true := beq_iff_eq.mpr c40
                              have c40b1 : (t334.toList != (rdOf ByteArray.empty y322 x37_1).toList) = false := bne_eq_false_iff_eq.mpr c40
                              clear c40
                              have H' := Aside0.mk H
                              clear H
                              go_wp2_with (first | (go_at_call 15; (with_reducible refine (request_Put.calls t326 t327 t334 _ A39.out).mono ?_); rintro e w' ⟨rfl, ⟨nd, rfl⟩⟩))
                              (try any_goals (exfalso; have h_ := ‹some undef = some (Value.bool _)›; revert h_; simp [undef]; done))
                              go_meet
                              case rel => exact ⟨_, H', ⟨by have := HK1.out; have := HJ28.out; first | omega | exact Nat.le_refl _⟩, ⟨by (with_reducible repeat (first | apply Kd.R_alloc | apply Kd.R_drewN | apply Kd.R_drew)); exact HO_35.out⟩, ⟨by (with_reducible repeat (first | refine blk_drewN ?_ _ | refine blk_drew ?_ | refine blk_alloc ?_ _)); exact BK319.out⟩, ⟨by repeat (first | (with_reducible first | exact HB.out | apply below_alloc | apply pw_below_drewN | apply below_drew1 | refine below_set ?_ GE319.out) | exact HB.out)⟩⟩
                            · rw [if_neg c40] at H
                              have c40b0 : (t334.toList == (rdOf ByteArray.empty y322 x37_1).toList) = false := beq_eq_false_iff_ne.mpr c40
                              have c40b1 : (t334.toList != (rdOf ByteArray.empty y322 x37_1).toList) = true := bne_iff_ne.mpr c40
                              exact absurd ((Option.some.inj H).trans HT.out) (by decide)
                          · rw [if_neg c38] at H
                            have c38b0 : (t332 == 1) = false := beq_eq_false_iff_ne.mpr c38
                            have c38b1 : (t332 != 1) = true := bne_iff_ne.mpr c38
                            have H' := Aside0.mk H
                            clear H
                            go_wp2
                            (try any_goals (exfalso; have h_ := ‹some undef = some (Value.bool _)›; revert h_; simp [undef]; done))
                            go_meet
                            case rel => exact ⟨_, H', ⟨by have := HK1.out; have := HJ28.out; first | omega | exact Nat.le_refl _⟩, ⟨by (with_reducible repeat (first | apply Kd.R_alloc | apply Kd.R_drewN | apply Kd.R_drew)); exact HO_35.out⟩, ⟨by (with_reducible repeat (first | refine blk_drewN ?_ _ | refine blk_drew ?_ | refine blk_alloc ?_ _)); exact BK319.out⟩, ⟨by repeat (first | (with_reducible first | exact HB.out | apply below_alloc | apply pw_below_drewN | apply below_drew1 | refine below_set ?_ GE319.out) | exact HB.out)⟩⟩
                  · rw [if_neg c27] at H
                    have c27b0 : (t329 == 0) = false := beq_eq_false_iff_ne.mpr c27
                    have c27b1 : (t329 != 0) = true := bne_iff_ne.mpr c27
                    have H' := Aside0.mk H
                    clear H
                    have p325 : 0 ≤ (x37_1 : Int) := of_decide_eq_true (by first | (with_reducible assumption) | assumption)
                    have q325 : x37_1 < (y322.length : Int) := of_decide_eq_true (by first | (with_reducible assumption) | assumption)
                    obtain ⟨ad325, e325, hx325_0⟩ := Kd.at_string (Kd.R_reads' HO_35.out).2.2 x37_1 p325 q325
                    cases e325
                    replace p325 := eq_true p325
                    replace q325 := eq_true q325
                    have hcz41_0 : wr.cell? ⟨gb319, 0, none⟩ = some (.int .i64 t309) := (blk_cell BK319.out 0).trans rfl
                    have hcz41_1 : wr.cell? ⟨gb319, 1, none⟩ = some (.int .i64 t310) := (blk_cell BK319.out 1).trans rfl
                    have hcz41_2 : wr.cell? ⟨gb319, 2, none⟩ = some (.int .i64 t311) := (blk_cell BK319.out 2).trans rfl
                    have hcz41_3 : wr.cell? ⟨gb319, 3, none⟩ = some (.int .i64 t312) := (blk_cell BK319.out 3).trans rfl
                    have hcz41_4 : wr.cell? ⟨gb319, 4, none⟩ = some (.int .i64 t313) := (blk_cell BK319.out 4).trans rfl
                    have hcz41_5 : wr.cell? ⟨gb319, 5, none⟩ = some (.int .i64 t314) := (blk_cell BK319.out 5).trans rfl
                    have hcz41_6 : wr.cell? ⟨gb319, 6, none⟩ = some (.int .i64 t315) := (blk_cell BK319.out 6).trans rfl
                    have hcz41_7 : wr.cell? ⟨gb319, 7, none⟩ = some (.int .i64 t316) := (blk_cell BK319.out 7).trans rfl
                    have hcz41_8 : wr.cell? ⟨gb319, 8, none⟩ = some (.bool t317) := (blk_cell BK319.out 8).trans rfl
                    have hcz41_9 : wr.cell? ⟨gb319, 9, none⟩ = some (.bool t318) := (blk_cell BK319.out 9).trans rfl
                    have hfz41_0 := blk_frozen BK319.out 0
                    have hfz41_1 := blk_frozen BK319.out 1
                    have hfz41_2 := blk_frozen BK319.out 2
                    have hfz41_3 := blk_frozen BK319.out 3
                    have hfz41_4 := blk_frozen BK319.out 4
                    have hfz41_5 := blk_frozen BK319.out 5
                    have hfz41_6 := blk_frozen BK319.out 6
                    have hfz41_7 := blk_frozen BK319.out 7
                    have hfz41_8 := blk_frozen BK319.out 8
                    have hfz41_9 := blk_frozen BK319.out 9
                    go_wp2_with (first | ((with_reducible refine gate_callee (f := 13) rfl ?_); refine goesL_ (some 44) rfl rfl Tryd.func13 (by kernel_rfl) rfl #[.string (rdOf ByteArray.empty y322 x37_1), .int .u32 0, .agg #[.int .i64 t309, .int .i64 t310, .int .i64 t311, .int .i64 t312, .int .i64 t313, .int .i64 t314, .int .i64 t315, .int .i64 t316, .bool t317, .bool t318]] rfl (by (try simp only [List.map_toArray, List.map_cons, List.map_nil]); first | done | rfl | (simp only [List.length_drop, List.length_take]; rfl)) ?_; (with_reducible refine (request_Parse.calls k1 (rdOf ByteArray.empty y322 x37_1) 0 t309 t310 t311 t312 t313 t314 t315 t316 t317 t318 t326 t327 t328 t329 _ A26.out).mono ?_); rintro e w42 ⟨rfl, hb⟩; refine ⟨_, rfl, ?_⟩; have n0_ := Aside0.mk (Kd.R_below (by (with_reducible repeat (first | apply Kd.R_alloc | apply Kd.R_drewN | apply Kd.R_drew)); exact HO_35.out) hb); have n1_ := Aside0.mk (blk_below (g := gb319) (o := .cells #[.int .i64 t309, .int .i64 t310, .int .i64 t311, .int .i64 t312, .int .i64 t313, .int .i64 t314, .int .i64 t315, .int .i64 t316, .bool t317, .bool t318] 28 (0, 0)) (by (with_reducible repeat (first | refine blk_drewN ?_ _ | refine blk_drew ?_ | refine blk_alloc ?_ _)); exact BK319.out) hb); have n2_ := Aside0.mk (below_step (by repeat (first | (with_reducible first | exact HB.out | apply below_alloc | apply pw_below_drewN | apply below_drew1 | refine below_set ?_ GE319.out) | exact HB.out)) hb); clear HO_35; clear BK319; clear HB; have HO_35 := n0_; have BK319 := n1_; have HB := n2_; clear n0_ n1_ n2_; (try clear hb); (try clear hb2); (try clear hk); (try clear hi)) | (go_at_call 13; (with_reducible refine (request_Parse.calls k1 (rdOf ByteArray.empty y322 x37_1) 0 t309 t310 t311 t312 t313 t314 t315 t316 t317 t318 t326 t327 t328 t329 _ A26.out).mono ?_); rintro e w42 ⟨rfl, hb⟩; have n0_ := Aside0.mk (Kd.R_below (by (with_reducible repeat (first | apply Kd.R_alloc | apply Kd.R_drewN | apply Kd.R_drew)); exact HO_35.out) hb); have n1_ := Aside0.mk (blk_below (g := gb319) (o := .cells #[.int .i64 t309, .int .i64 t310, .int .i64 t311, .int .i64 t312, .int .i64 t313, .int .i64 t314, .int .i64 t315, .int .i64 t316, .bool t317, .bool t318] 28 (0, 0)) (by (with_reducible repeat (first | refine blk_drewN ?_ _ | refine blk_drew ?_ | refine blk_alloc ?_ _)); exact BK319.out) hb); have n2_ := Aside0.mk (below_step (by repeat (first | (with_reducible first | exact HB.out | apply below_alloc | apply pw_below_drewN | apply below_drew1 | refine below_set ?_ GE319.out) | exact HB.out)) hb); clear HO_35; clear BK319; clear HB; have HO_35 := n0_; have BK319 := n1_; have HB := n2_; clear n0_ n1_ n2_; (try clear hb); (try clear hb2); (try clear hk); (try clear hi)))
                    (try any_goals (exfalso; have h_ := ‹some undef = some (Value.bool _)›; revert h_; simp [undef]; done))
                    go_meet
                    case rel => exact ⟨_, H', ⟨by have := HK1.out; first | omega | exact Nat.le_refl _⟩, ⟨by (with_reducible repeat (first | apply Kd.R_alloc | apply Kd.R_drewN | apply Kd.R_drew)); exact HO_35.out⟩, ⟨by (with_reducible repeat (first | refine blk_drewN ?_ _ | refine blk_drew ?_ | refine blk_alloc ?_ _)); exact BK319.out⟩, ⟨by repeat (first | (with_reducible first | exact HB.out | apply below_alloc | apply pw_below_drewN | apply below_drew1 | refine below_set ?_ GE319.out) | exact HB.out)⟩⟩
                · rw [if_neg c25] at H
                  exact absurd H (by simp)
              · rw [if_neg c24] at H
                exact absurd H (by simp)
            case rest =>
              clear HC23
              try clear c1
              try clear q1
              try clear c2
              try clear p2
              try clear q2
              try clear c3
              try clear p3
              try clear q3
              try clear hx3
              try clear c4
              try clear q4
              try clear c7
              try clear c8
              try clear c8b0
              try clear c8b1
              try clear c9
              try clear c10
              try clear c11
              try clear c13
              try clear c22
              try clear c22b0
              try clear c24
              try clear c24b0
              try clear c25
              try clear c25b0
              try clear c27
              try clear c27b0
              try clear c27b1
              try clear p32
              try clear q32
              try clear hx32
              try clear c34
              try clear c34b0
              try clear c34b1
              try clear c35
              try clear c35b0
              try clear c35b1
              try clear c36
              try clear c36b0
              try clear c36b1
              try clear c37
              try clear c38
              try clear c38b0
              try clear c38b1
              try clear c40
              try clear c40b0
              try clear c40b1
              try clear hcz16_0
              try clear hcz16_1
              try clear hcz16_2
              try clear hcz16_3
              try clear hcz16_4
              try clear hcz16_5
              try clear hcz16_6
              try clear hcz16_7
              try clear hcz16_8
              try clear hcz16_9
              try clear hcz30_0
              try clear hcz30_1
              try clear hcz30_2
              try clear hcz30_3
              try clear hcz30_4
              try clear hcz30_5
              try clear hcz30_6
              try clear hcz30_7
              try clear hcz30_8
              try clear hcz30_9
              try clear hcz32_0
              try clear hcz32_1
              try clear hcz32_2
              try clear hcz32_3
              try clear hcz32_4
              try clear hcz32_5
              try clear hcz32_6
              try clear hcz32_7
              try clear hcz32_8
              try clear hcz32_9
              try clear hcz41_0
              try clear hcz41_1
              try clear hcz41_2
              try clear hcz41_3
              try clear hcz41_4
              try clear hcz41_5
              try clear hcz41_6
              try clear hcz41_7
              try clear hcz41_8
              try clear hcz41_9
              try clear hfz16_0
              try clear hfz16_1
              try clear hfz16_2
              try clear hfz16_3
              try clear hfz16_4
              try clear hfz16_5
              try clear hfz16_6
              try clear hfz16_7
              try clear hfz16_8
              try clear hfz16_9
              try clear hfz30_0
              try clear hfz30_1
              try clear hfz30_2
              try clear hfz30_3
              try clear hfz30_4
              try clear hfz30_5
              try clear hfz30_6
              try clear hfz30_7
              try clear hfz30_8
              try clear hfz30_9
              try clear hfz32_0
              try clear hfz32_1
              try clear hfz32_2
              try clear hfz32_3
              try clear hfz32_4
              try clear hfz32_5
              try clear hfz32_6
              try clear hfz32_7
              try clear hfz32_8
              try clear hfz32_9
              try clear hfz41_0
              try clear hfz41_1
              try clear hfz41_2
              try clear hfz41_3
              try clear hfz41_4
              try clear hfz41_5
              try clear hfz41_6
              try clear hfz41_7
              try clear hfz41_8
              try clear hfz41_9
              try clear hx325_0
              try clear p2
              try clear p3
              try clear p32
              try clear p325
              try clear q1
              try clear q2
              try clear q3
              try clear q32
              try clear q325
              try clear q4
              obtain ⟨kq, HA, HJ22, HO_35, BK319, HB⟩ := hcut
              cases kq with
              | zero => exact absurd HA.out (by simp [parallaxlaw8_RequestExtends.j2])
              | succ kj22 =>
                have H := HA.out
                clear HA
                simp only [parallaxlaw8_RequestExtends.j2] at H
                have H' := Aside0.mk H
                clear H
                go_wp2
                (try any_goals (exfalso; have h_ := ‹some undef = some (Value.bool _)›; revert h_; simp [undef]; done))
                go_roundg kj22
                case measure => have := HK1.out; have := HJ22.out; omega
                case rel => exact ⟨(wrap64 (x37_1 + 1)), (by first | rfl | (simp; done) | (simp [*]; done)), H', ⟨by have := HK1.out; have := HJ22.out; omega⟩, ⟨by (with_reducible repeat (first | apply Kd.R_alloc | apply Kd.R_drewN | apply Kd.R_drew)); exact HO_35.out⟩, ⟨by (with_reducible repeat (first | refine blk_drewN ?_ _ | refine blk_drew ?_ | refine blk_alloc ?_ _)); exact BK319.out⟩, ⟨by repeat (first | (with_reducible first | exact HB.out | apply below_alloc | apply pw_below_drewN | apply below_drew1 | refine below_set ?_ GE319.out) | exact HB.out)⟩⟩
          · rw [if_neg c22] at H
            have c22b0 : decide (x37_1 < (y322.length : Int)) = false := decide_eq_false c22
            clear c22
            obtain rfl := Option.some.inj H
            go_wp2
            (try any_goals (exfalso; have h_ := ‹some undef = some (Value.bool _)›; revert h_; simp [undef]; done))
            go_ret
            exact ⟨by first | rfl | (simp [errW_none, errW_some] <;> rfl) | (simp [*, errW_none, errW_some] <;> rfl), by repeat (first | (with_reducible first | exact HB.out | apply below_alloc | apply pw_below_drewN | apply below_drew1 | refine below_set ?_ GE319.out) | exact HB.out)⟩
  · replace c7 := Bool.eq_false_iff.mpr c7
    subst c7
    rw [if_neg (show ¬ (false = true) by decide)] at H
    exact absurd ((Option.some.inj H).trans HT.out) (by decide)

/-- THE ONE PURE STATEMENT of parallaxlaw8_RequestExtends: yours. -/
def parallaxlaw8_RequestExtends.Pure : Prop := ∀ (l0 : List Int) (a1 : Int) (a2 : Int) (a3 : Int) (a4 : Int), l0.length ≤ maxLen → l0.length * 1 ≤ 140737488351232 → (∀ x ∈ l0, (Lit.int .u8 x).wf = true) → (Lit.int .u32 a1).wf = true → (Lit.int .u8 a2).wf = true → (Lit.int .u8 a3).wf = true → (Lit.int .u8 a4).wf = true → ∃ k, parallaxlaw8_RequestExtends.f k l0 a1 a2 a3 a4 = some true
theorem parallaxlaw8_RequestExtends.walk (P : parallaxlaw8_RequestExtends.Pure) (a0 : Option Addr) (len0 cap0 : Nat) (z0 : List Int) (a1 : Int) (a2 : Int) (a3 : Int) (a4 : Int) (w : World) (w0 : (a0 = none ∧ len0 = 0 ∧ cap0 = 0 ∧ z0 = []) ∨ ∃ x, a0 = some x ∧ len0 ≤ cap0 ∧ cap0 ≤ maxLen ∧ z0.length = cap0 ∧ (∀ i, i < z0.length → w.cell? (x.add i) = some (.int .u8 (z0.getD i 0))) ∧ ∀ n ∈ z0, (Lit.int .u8 n).wf = true) (y0 : len0 * 1 ≤ 140737488351232) (w1 : (Lit.int .u32 a1).wf = true) (w2 : (Lit.int .u8 a2).wf = true) (w3 : (Lit.int .u8 a3).wf = true) (w4 : (Lit.int .u8 a4).wf = true) :
    Calls Tryd.prog 4 #[.slice a0 len0 cap0, .int .u32 a1, .int .u8 a2, .int .u8 a3, .int .u8 a4] w fun e w' => e = .returned (.bool true) ∧ Below w.heap.size w w' := by
  obtain ⟨l0, rfl, hr0, hm0, hw0, hc0⟩ := ReadsInt.ofRowC w0
  obtain ⟨k, h⟩ := P l0 a1 a2 a3 a4 hm0 y0 hw0 w1 w2 w3 w4
  refine (parallaxlaw8_RequestExtends.calls k _ _ l0 a1 a2 a3 a4 true w (Kd.C_of_reads (d := (0 : Int)) (h1 := fun _ => rfl) hr0) hc0 w1 w2 w3 w4 rfl h).mono ?_
  rintro e w' ⟨rfl, hd⟩
  exact ⟨rfl, hd⟩

end Go.Proofs.YtclaaacdmaeblaaDoor.PRequestExtends
