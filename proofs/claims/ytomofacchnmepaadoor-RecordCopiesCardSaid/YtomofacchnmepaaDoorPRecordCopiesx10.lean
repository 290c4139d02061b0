-- Written by a program of this session (wip/tools/myprint.sh)
import Derived.Test.YtomofacchnmepaaDoorPRecordCopiesx0
import Derived.Test.YtomofacchnmepaaDoorPRecordCopiesx2
import Derived.Test.YtomofacchnmepaaDoorPRecordCopiesx4
import Derived.Test.YtomofacchnmepaaDoorPRecordCopiesx5
import Derived.Test.YtomofacchnmepaaDoorPRecordCopiesx9
namespace Go.Proofs.YtomofacchnmepaaDoor.PRecordCopies
open Go.RowKit Go.Proofs.YtomofacchnmepaaDoorW.PrintWords Go.Proofs.YtomofacchnmepaaDoorW.PrintLast Go.Proofs.YtomofacchnmepaaDoorW.PrintMore
attribute [local go_sem] max2_int min2_int max_two min_two max_three min_three max_four min_four   -- for this text's walks alone
set_option linter.unusedVariables false
set_option linter.unusedSimpArgs false

/-! ### parallaxlaw12_RecordCopies: function 5 -/
mutual
def parallaxlaw12_RecordCopies.l0 : Nat → Int → Int → ByteArray → ByteArray → Int → List (S31) → Bool → List Int → List (S31) → ByteArray → ByteArray → Int → List (S31) → Bool → List Int → List (S31) → ByteArray → ByteArray → Int → List (S31) → Bool → List Int → List (S31) → Option (Bool)
 | 0, _, _, _, _, _, _, _, _, _, _, _, _, _, _, _, _, _, _, _, _, _, _, _ => none
 | k + 1, x5, x7, x307000, x307001, x307002, x307003, x307004, x307005, x307006, x321000, x321001, x321002, x321003, x321004, x321005, x321006, x338000, x338001, x338002, x338003, x338004, x338005, x338006 => if x7 < (x338003.length : Int) then (if 0 ≤ x7 then (if ((rd_T31 x338003 x7).f1).size + 1 ≤ 9223372036854775807 then (parallaxlaw12_RecordCopies.l0 k x5 (wrap64 (x7 + 1)) x307000 x307001 x307002 x307003 x307004 x307005 x307006 x321000 x321001 x321002 x321003 x321004 x321005 x321006 x338000 x338001 x338002 (x338003.set (x7 : Int).toNat (⟨(rd_T31 x338003 x7).f0, ((rd_T31 x338003 x7).f1) ++ (⟨#[33]⟩ : ByteArray)⟩ : S31)) x338004 x338005 x338006) else (none)) else (none)) else (parallaxlaw12_RecordCopies.l1 k x5 0 x307000 x307001 x307002 x307003 x307004 x307005 x307006 x321000 x321001 x321002 x321003 x321004 x321005 x321006 x338000 x338001 x338002 x338003 x338004 x338005 x338006)
def parallaxlaw12_RecordCopies.l1 : Nat → Int → Int → ByteArray → ByteArray → Int → List (S31) → Bool → List Int → List (S31) → ByteArray → ByteArray → Int → List (S31) → Bool → List Int → List (S31) → ByteArray → ByteArray → Int → List (S31) → Bool → List Int → List (S31) → Option (Bool)
 | 0, _, _, _, _, _, _, _, _, _, _, _, _, _, _, _, _, _, _, _, _, _, _, _ => none
 | k + 1, x5, x8, x307000, x307001, x307002, x307003, x307004, x307005, x307006, x321000, x321001, x321002, x321003, x321004, x321005, x321006, x338000, x338001, x338002, x338003, x338004, x338005, x338006 => if x8 < (x338005.length : Int) then (if 0 ≤ x8 then (parallaxlaw12_RecordCopies.l1 k x5 (wrap64 (x8 + 1)) x307000 x307001 x307002 x307003 x307004 x307005 x307006 x321000 x321001 x321002 x321003 x321004 x321005 x321006 x338000 x338001 x338002 x338003 x338004 (x338005.set (x8 : Int).toNat (((rd x338005 x8) + 1) % 256)) x338006) else (none)) else ((record_Same.f k x321000 x321001 x321002 x321003 x321004 x321005 x321006 x307000 x307001 x307002 x307003 x307004 x307005 x307006).bind fun t342 => (if t342 = true then ((record_Same.f k x338000 x338001 x338002 x338003 x338004 x338005 x338006 x321000 x321001 x321002 x321003 x321004 x321005 x321006).bind fun t343 => (if t343 = true then (some false) else ((record_Size.f k x338000 x338001 x338002 x338003 x338004 x338005 x338006).bind fun t344 => (some (t344 == (wrap64 (x5 + (x338003.length : Int)))))))) else (some false)))
end
def parallaxlaw12_RecordCopies.f (k : Nat) (l0 : List Int) : Option (Bool) := (parallaxlaw12_known.f k).bind fun t292 => (if t292 = true then (if (l0.length : Int) > 12 then (some true) else ((parallaxseat_Neat.f k l0).bind fun bt293 => ((record_Copy.f bt293.1 bt293.2.1 bt293.2.2.1 bt293.2.2.2.1 bt293.2.2.2.2.1 bt293.2.2.2.2.2.1 bt293.2.2.2.2.2.2).bind fun bt307 => ((record_Size.f k bt293.1 bt293.2.1 bt293.2.2.1 bt293.2.2.2.1 bt293.2.2.2.2.1 bt293.2.2.2.2.2.1 bt293.2.2.2.2.2.2).bind fun t321 => ((record_Same.f k bt307.1 bt307.2.1 bt307.2.2.1 bt307.2.2.2.1 bt307.2.2.2.2.1 bt307.2.2.2.2.2.1 bt307.2.2.2.2.2.2 bt293.1 bt293.2.1 bt293.2.2.1 bt293.2.2.2.1 bt293.2.2.2.2.1 bt293.2.2.2.2.2.1 bt293.2.2.2.2.2.2).bind fun t322 => (if t322 = true then ((record_Size.f k bt307.1 bt307.2.1 bt307.2.2.1 bt307.2.2.2.1 bt307.2.2.2.2.1 bt307.2.2.2.2.2.1 bt307.2.2.2.2.2.2).bind fun t323 => (if t323 = t321 then (if (bt307.2.2.2.1.length : Int) = (bt293.2.2.2.1.length : Int) then (if (bt307.2.2.2.2.2.1.length : Int) = (bt293.2.2.2.2.2.1.length : Int) then ((record_Copy.f bt307.1 bt307.2.1 bt307.2.2.1 bt307.2.2.2.1 bt307.2.2.2.2.1 bt307.2.2.2.2.2.1 bt307.2.2.2.2.2.2).bind fun bt324 => (parallaxlaw12_RecordCopies.l0 k t321 0 bt293.1 bt293.2.1 bt293.2.2.1 bt293.2.2.2.1 bt293.2.2.2.2.1 bt293.2.2.2.2.2.1 bt293.2.2.2.2.2.2 bt307.1 bt307.2.1 bt307.2.2.1 bt307.2.2.2.1 bt307.2.2.2.2.1 bt307.2.2.2.2.2.1 bt307.2.2.2.2.2.2 bt324.1 bt324.2.1 bt324.2.2.1 bt324.2.2.2.1 bt324.2.2.2.2.1 bt324.2.2.2.2.2.1 bt324.2.2.2.2.2.2)) else (some false)) else (some false)) else (some false))) else (some false))))))) else (some false))
theorem parallaxlaw12_RecordCopies.mono_l : ∀ k, (∀ y0 y1 y2 y3 y4 y5 y6 y7 y8 y9 y10 y11 y12 y13 y14 y15 y16 y17 y18 y19 y20 y21 y22, LeO (parallaxlaw12_RecordCopies.l0 k y0 y1 y2 y3 y4 y5 y6 y7 y8 y9 y10 y11 y12 y13 y14 y15 y16 y17 y18 y19 y20 y21 y22) (parallaxlaw12_RecordCopies.l0 (k + 1) y0 y1 y2 y3 y4 y5 y6 y7 y8 y9 y10 y11 y12 y13 y14 y15 y16 y17 y18 y19 y20 y21 y22)) ∧ (∀ y0 y1 y2 y3 y4 y5 y6 y7 y8 y9 y10 y11 y12 y13 y14 y15 y16 y17 y18 y19 y20 y21 y22, LeO (parallaxlaw12_RecordCopies.l1 k y0 y1 y2 y3 y4 y5 y6 y7 y8 y9 y10 y11 y12 y13 y14 y15 y16 y17 y18 y19 y20 y21 y22) (parallaxlaw12_RecordCopies.l1 (k + 1) y0 y1 y2 y3 y4 y5 y6 y7 y8 y9 y10 y11 y12 y13 y14 y15 y16 y17 y18 y19 y20 y21 y22))
 | 0 => ⟨fun _ _ _ _ _ _ _ _ _ _ _ _ _ _ _ _ _ _ _ _ _ _ _ r h => by simp [parallaxlaw12_RecordCopies.l0] at h, fun _ _ _ _ _ _ _ _ _ _ _ _ _ _ _ _ _ _ _ _ _ _ _ r h => by simp [parallaxlaw12_RecordCopies.l1] at h⟩
 | k + 1 => by
  obtain ⟨ih0, ih1⟩ := parallaxlaw12_RecordCopies.mono_l k
  refine ⟨?_, ?_⟩
  ·intro y0 y1 y2 y3 y4 y5 y6 y7 y8 y9 y10 y11 y12 y13 y14 y15 y16 y17 y18 y19 y20 y21 y22
   unfold parallaxlaw12_RecordCopies.l0
   repeat' first
   | (with_reducible exact ih0 _ _ _ _ _ _ _ _ _ _ _ _ _ _ _ _ _ _ _ _ _ _ _)
   | (with_reducible exact ih1 _ _ _ _ _ _ _ _ _ _ _ _ _ _ _ _ _ _ _ _ _ _ _)
   | (with_reducible exact parallaxlaw12_known.mono _)
   | (with_reducible exact parallaxseat_Neat.mono _ _)
   | (with_reducible exact record_Same.mono _ _ _ _ _ _ _ _ _ _ _ _ _ _ _)
   | (with_reducible exact record_Size.mono _ _ _ _ _ _ _ _)
   | (with_reducible exact LeO.refl _)
   | (with_reducible exact LeO.none _)
   | (with_reducible refine LeO.ite ?_ ?_)
   | (with_reducible refine LeO.bind ?_ (fun _ => ?_))
   | exact ih0 _ _ _ _ _ _ _ _ _ _ _ _ _ _ _ _ _ _ _ _ _ _ _
   | exact ih1 _ _ _ _ _ _ _ _ _ _ _ _ _ _ _ _ _ _ _ _ _ _ _
   | exact parallaxlaw12_known.mono _
   | exact parallaxseat_Neat.mono _ _
   | exact record_Same.mono _ _ _ _ _ _ _ _ _ _ _ _ _ _ _
   | exact record_Size.mono _ _ _ _ _ _ _ _
   | exact LeO.none _
   | refine LeO.ite ?_ ?_
   | refine LeO.bind ?_ (fun _ => ?_)
  ·intro y0 y1 y2 y3 y4 y5 y6 y7 y8 y9 y10 y11 y12 y13 y14 y15 y16 y17 y18 y19 y20 y21 y22
   unfold parallaxlaw12_RecordCopies.l1
   repeat' first
   | (with_reducible exact ih0 _ _ _ _ _ _ _ _ _ _ _ _ _ _ _ _ _ _ _ _ _ _ _)
   | (with_reducible exact ih1 _ _ _ _ _ _ _ _ _ _ _ _ _ _ _ _ _ _ _ _ _ _ _)
   | (with_reducible exact parallaxlaw12_known.mono _)
   | (with_reducible exact parallaxseat_Neat.mono _ _)
   | (with_reducible exact record_Same.mono _ _ _ _ _ _ _ _ _ _ _ _ _ _ _)
   | (with_reducible exact record_Size.mono _ _ _ _ _ _ _ _)
   | (with_reducible exact LeO.refl _)
   | (with_reducible exact LeO.none _)
   | (with_reducible refine LeO.ite ?_ ?_)
   | (with_reducible refine LeO.bind ?_ (fun _ => ?_))
   | exact ih0 _ _ _ _ _ _ _ _ _ _ _ _ _ _ _ _ _ _ _ _ _ _ _
   | exact ih1 _ _ _ _ _ _ _ _ _ _ _ _ _ _ _ _ _ _ _ _ _ _ _
   | exact parallaxlaw12_known.mono _
   | exact parallaxseat_Neat.mono _ _
   | exact record_Same.mono _ _ _ _ _ _ _ _ _ _ _ _ _ _ _
   | exact record_Size.mono _ _ _ _ _ _ _ _
   | exact LeO.none _
   | refine LeO.ite ?_ ?_
   | refine LeO.bind ?_ (fun _ => ?_)
theorem parallaxlaw12_RecordCopies.mono : ∀ a0 k, LeO (parallaxlaw12_RecordCopies.f k a0) (parallaxlaw12_RecordCopies.f (k + 1) a0) := by
 intro a0 k
 obtain ⟨ih0, ih1⟩ := parallaxlaw12_RecordCopies.mono_l k
 unfold parallaxlaw12_RecordCopies.f
 repeat' first
   | (with_reducible exact ih0 _ _ _ _ _ _ _ _ _ _ _ _ _ _ _ _ _ _ _ _ _ _ _)
   | (with_reducible exact ih1 _ _ _ _ _ _ _ _ _ _ _ _ _ _ _ _ _ _ _ _ _ _ _)
   | (with_reducible exact parallaxlaw12_known.mono _)
   | (with_reducible exact parallaxseat_Neat.mono _ _)
   | (with_reducible exact record_Same.mono _ _ _ _ _ _ _ _ _ _ _ _ _ _ _)
   | (with_reducible exact record_Size.mono _ _ _ _ _ _ _ _)
   | (with_reducible exact LeO.refl _)
   | (with_reducible exact LeO.none _)
   | (with_reducible refine LeO.ite ?_ ?_)
   | (with_reducible refine LeO.bind ?_ (fun _ => ?_))
   | exact ih0 _ _ _ _ _ _ _ _ _ _ _ _ _ _ _ _ _ _ _ _ _ _ _
   | exact ih1 _ _ _ _ _ _ _ _ _ _ _ _ _ _ _ _ _ _ _ _ _ _ _
   | exact parallaxlaw12_known.mono _
   | exact parallaxseat_Neat.mono _ _
   | exact record_Same.mono _ _ _ _ _ _ _ _ _ _ _ _ _ _ _
   | exact record_Size.mono _ _ _ _ _ _ _ _
   | exact LeO.none _
   | refine LeO.ite ?_ ?_
   | refine LeO.bind ?_ (fun _ => ?_)
def parallaxlaw12_RecordCopies.T14 : Bool × List (List Nat × List Nat) := (true, [([], []), ([0], [0]), ([], []), ([], []), ([3], [3]), ([], []), ([4, 5], [4, 5]), ([6], [6]), ([7], [7]), ([8], [8]), ([1, 2, 0, 1, 2, 3, 4, 5, 6, 7, 8, 9], [1, 2]), ([10, 0, 1, 2, 3, 4, 5, 6, 7, 8, 9], [10]), ([11, 9, 0, 1, 2, 3, 4, 5, 6, 7, 8, 9], [9, 11])])
def parallaxlaw12_RecordCopies.B14 : List Nat := [0, 1, 0, 0, 8, 0, 56, 120, 248, 504, 1023, 2047, 4095]
theorem parallaxlaw12_RecordCopies.tab14 : rtab .any (opsOf Tryd.f5 14) = parallaxlaw12_RecordCopies.T14 := by kernel_rfl
theorem parallaxlaw12_RecordCopies.bits14 : waitsOk parallaxlaw12_RecordCopies.T14.2 parallaxlaw12_RecordCopies.B14 = true := by kernel_rfl
def parallaxlaw12_RecordCopies.T19 : Bool × List (List Nat × List Nat) := (true, [([], []), ([], []), ([0, 1], [0, 1]), ([2, 2], [2]), ([3], [3]), ([3], [3]), ([4, 5, 3, 3], [3, 4, 5]), ([6, 3], [3, 6]), ([3, 7], [3, 7]), ([8, 6], [8]), ([9], [9]), ([10, 9, 9], [9, 10]), ([9], [9]), ([9], [9]), ([13, 9], [9, 13]), ([14, 9], [9, 14]), ([12, 15, 9], [9, 12, 15]), ([11, 16, 9], [9, 11, 16]), ([9, 17], [9, 17]), ([18, 11, 0, 1, 2, 3, 4, 5, 6, 7, 8, 9, 10, 11, 12, 13, 14, 15, 16, 17, 18], [18])])
def parallaxlaw12_RecordCopies.B19 : List Nat := [0, 0, 3, 7, 15, 15, 63, 127, 255, 511, 1023, 2047, 1023, 1023, 9215, 25599, 62463, 131071, 262143, 524287]
theorem parallaxlaw12_RecordCopies.tab19 : rtab .any (opsOf Tryd.f5 19) = parallaxlaw12_RecordCopies.T19 := by kernel_rfl
theorem parallaxlaw12_RecordCopies.bits19 : waitsOk parallaxlaw12_RecordCopies.T19.2 parallaxlaw12_RecordCopies.B19 = true := by kernel_rfl
set_option maxHeartbeats 8000000 in
set_option maxRecDepth 100000 in
theorem parallaxlaw12_RecordCopies.calls (k : Nat) (A0 : Option Addr) (c0 : Nat) (l0 : List Int) (r : Bool) (w : World) (hr0 : Kd.C (Kd.int .u8) w A0 l0.length l0) (hc0 : l0.length ≤ c0) (hT : r = true) (h : parallaxlaw12_RecordCopies.f k l0 = some r) :
  Calls Tryd.prog 5 #[.slice A0 l0.length c0] w fun e w' => e = .returned (.bool r) ∧ Below w.heap.size w w' := by
 have hu25 := Tryd.underlying25
 have HT := Aside0.mk hT
 clear hT
 have HR0 := Aside0.mk hr0
 have HC0 := Aside0.mk hc0
 clear hr0 hc0
 have HB := Aside0.mk (Below.refl w.heap.size w)
 have H : ((parallaxlaw12_known.f k).bind fun t292 => (if t292 = true then (if (l0.length : Int) > 12 then (some true) else ((parallaxseat_Neat.f k l0).bind fun bt293 => ((record_Copy.f bt293.1 bt293.2.1 bt293.2.2.1 bt293.2.2.2.1 bt293.2.2.2.2.1 bt293.2.2.2.2.2.1 bt293.2.2.2.2.2.2).bind fun bt307 => ((record_Size.f k bt293.1 bt293.2.1 bt293.2.2.1 bt293.2.2.2.1 bt293.2.2.2.2.1 bt293.2.2.2.2.2.1 bt293.2.2.2.2.2.2).bind fun t321 => ((record_Same.f k bt307.1 bt307.2.1 bt307.2.2.1 bt307.2.2.2.1 bt307.2.2.2.2.1 bt307.2.2.2.2.2.1 bt307.2.2.2.2.2.2 bt293.1 bt293.2.1 bt293.2.2.1 bt293.2.2.2.1 bt293.2.2.2.2.1 bt293.2.2.2.2.2.1 bt293.2.2.2.2.2.2).bind fun t322 => (if t322 = true then ((record_Size.f k bt307.1 bt307.2.1 bt307.2.2.1 bt307.2.2.2.1 bt307.2.2.2.2.1 bt307.2.2.2.2.2.1 bt307.2.2.2.2.2.2).bind fun t323 => (if t323 = t321 then (if (bt307.2.2.2.1.length : Int) = (bt293.2.2.2.1.length : Int) then (if (bt307.2.2.2.2.2.1.length : Int) = (bt293.2.2.2.2.2.1.length : Int) then ((record_Copy.f bt307.1 bt307.2.1 bt307.2.2.1 bt307.2.2.2.1 bt307.2.2.2.2.1 bt307.2.2.2.2.2.1 bt307.2.2.2.2.2.2).bind fun bt324 => (parallaxlaw12_RecordCopies.l0 k t321 0 bt293.1 bt293.2.1 bt293.2.2.1 bt293.2.2.2.1 bt293.2.2.2.2.1 bt293.2.2.2.2.2.1 bt293.2.2.2.2.2.2 bt307.1 bt307.2.1 bt307.2.2.1 bt307.2.2.2.1 bt307.2.2.2.2.1 bt307.2.2.2.2.2.1 bt307.2.2.2.2.2.2 bt324.1 bt324.2.1 bt324.2.2.1 bt324.2.2.2.1 bt324.2.2.2.2.1 bt324.2.2.2.2.2.1 bt324.2.2.2.2.2.2)) else (some false)) else (some false)) else (some false))) else (some false))))))) else (some false))) = some r := h
 clear h
 replace H := Option.bind_eq_some_iff.mp H
 obtain ⟨t292, A20, H⟩ := H
 (try dsimp only at H)
 have A2 := Aside0.mk A20
 clear A20
 by_cases c3 : t292 = true
 ·subst c3
  rw [if_pos rfl] at H
  by_cases c4 : (l0.length : Int) > 12
  ·rw [if_pos c4] at H
   have c4b0 : decide (12 < (l0.length : Int)) = true := decide_eq_true c4
   have c4b1 : decide (12 < l0.length) = true := decide_eq_true (by omega)
   clear c4
   obtain rfl := Option.some.inj H
   go_enter Tryd.func5, Tryd.ntmps5
   go_wp2_with (first | ((with_reducible refine gate_callee (f := 6) rfl ?_); refine goesL_ (some 9) rfl rfl Tryd.func6 (by kernel_rfl) rfl #[] rfl (by (try simp only [List.map_toArray, List.map_cons, List.map_nil]); first | done | rfl | (simp only [List.length_drop, List.length_take]; rfl)) ?_; (with_reducible refine (parallaxlaw12_known.calls k  true _ rfl A2.out).mono ?_); rintro e w5 ⟨rfl, hb⟩; refine ⟨_, rfl, ?_⟩; have n0_ := Aside0.mk (below_step Mark.h hb); clear HB; have HB := n0_; clear n0_; (try clear hb); (try clear hb2); (try clear hk); (try clear hi)) | (go_at_call 6; (with_reducible refine (parallaxlaw12_known.calls k  true _ rfl A2.out).mono ?_); rintro e w5 ⟨rfl, hb⟩; have n0_ := Aside0.mk (below_step Mark.h hb); clear HB; have HB := n0_; clear n0_; (try clear hb); (try clear hb2); (try clear hk); (try clear hi)))
   go_ret
   exact ⟨by first | rfl | (simp [errW_none, errW_some] <;> rfl) | (simp [*, errW_none, errW_some] <;> rfl), Mark.h⟩
  ·rw [if_neg c4] at H
   have c4b0 : decide (12 < (l0.length : Int)) = false := decide_eq_false c4
   have c4b1 : decide (12 < l0.length) = false := decide_eq_false (by omega)
   clear c4
   replace H := Option.bind_eq_some_iff.mp H
   obtain ⟨⟨t293, t294, t295, t296, t299, t300, t303⟩, A60, H⟩ := H
   (try dsimp only at H)
   have A6 := Aside0.mk A60
   clear A60
   replace H := Option.bind_eq_some_iff.mp H
   obtain ⟨⟨t307, t308, t309, t310, t313, t314, t317⟩, A70, H⟩ := H
   (try dsimp only at H)
   have A7 := Aside0.mk A70
   clear A70
   replace H := Option.bind_eq_some_iff.mp H
   obtain ⟨t321, A80, H⟩ := H
   (try dsimp only at H)
   have A8 := Aside0.mk A80
   clear A80
   replace H := Option.bind_eq_some_iff.mp H
   obtain ⟨t322, A90, H⟩ := H
   (try dsimp only at H)
   have A9 := Aside0.mk A90
   clear A90
   by_cases c10 : t322 = true
   ·subst c10
    rw [if_pos rfl] at H
    replace H := Option.bind_eq_some_iff.mp H
    obtain ⟨t323, A110, H⟩ := H
    (try dsimp only at H)
    have A11 := Aside0.mk A110
    clear A110
    by_cases c12 : t323 = t321
    ·rw [if_pos c12] at H
     have c12b0 : (t323 == t321) = true := beq_iff_eq.mpr c12
     have c12b1 : (t323 != t321) = false := bne_eq_false_iff_eq.mpr c12
     clear c12
     by_cases c13 : (t310.length : Int) = (t296.length : Int)
     ·rw [if_pos c13] at H
      have c13b0 : ((t310.length : Int) == (t296.length : Int)) = true := beq_iff_eq.mpr c13
      have c13b1 : ((t310.length : Int) != (t296.length : Int)) = false := bne_eq_false_iff_eq.mpr c13
      have c13b2 : (t310.length == t296.length) = true := by first | simpa using c13 | (simp at c13 ⊢; omega)
      clear c13
      by_cases c14 : (t314.length : Int) = (t300.length : Int)
      ·rw [if_pos c14] at H
       have c14b0 : ((t314.length : Int) == (t300.length : Int)) = true := beq_iff_eq.mpr c14
       have c14b1 : ((t314.length : Int) != (t300.length : Int)) = false := bne_eq_false_iff_eq.mpr c14
       have c14b2 : (t314.length == t300.length) = true := by first | simpa using c14 | (simp at c14 ⊢; omega)
       clear c14
       replace H := Option.bind_eq_some_iff.mp H
       obtain ⟨⟨t324, t325, t326, t327, t330, t331, t334⟩, A150, H⟩ := H
       (try dsimp only at H)
       have A15 := Aside0.mk A150
       clear A150
       have H' := Aside0.mk H
       clear H
       go_enter Tryd.func5, Tryd.ntmps5
       go_wp2_with (first | ((with_reducible refine gate_callee (f := 6) rfl ?_); refine goesL_ (some 9) rfl rfl Tryd.func6 (by kernel_rfl) rfl #[] rfl (by (try simp only [List.map_toArray, List.map_cons, List.map_nil]); first | done | rfl | (simp only [List.length_drop, List.length_take]; rfl)) ?_; (with_reducible refine (parallaxlaw12_known.calls k  true _ rfl A2.out).mono ?_); rintro e w16 ⟨rfl, hb⟩; refine ⟨_, rfl, ?_⟩; have n0_ := Aside0.mk (below_step Mark.h hb); clear HB; have HB := n0_; clear n0_; (try clear hb); (try clear hb2); (try clear hk); (try clear hi)) | ((with_reducible refine gate_callee (f := 8) rfl ?_); refine goesL_ (some 15) rfl rfl Tryd.func8 (by kernel_rfl) rfl #[.slice A0 l0.length c0] rfl (by (try simp only [List.map_toArray, List.map_cons, List.map_nil]); first | done | rfl | (simp only [List.length_drop, List.length_take]; rfl)) ?_; (with_reducible refine (parallaxseat_Neat.calls k _ _ l0 t293 t294 t295 t296 t299 t300 t303 _ ?side1 ?side2 A6.out).mono ?_); (case side1 => repeat (first | exact (Kd.C_below HR0.out HB.out) | (with_reducible refine Kd.C_alloc ?_ _) | (with_reducible refine Kd.C_drewN ?_ _) | (with_reducible refine Kd.C_drew ?_))); (case side2 => exact HC0.out); rintro e w17 ⟨v297, v301, v304, rfl, ho0, ho1, ho2, hb⟩; refine ⟨_, rfl, ?_⟩; have n0_ := Aside0.mk (Kd.R_lower (Kd.R_mono (ok' := fun k_ => some k_ ≠ (v304 : Value).ownBlock) ho0 (fun _ hk_ => hk_.2)) (below_size Mark.h)); have n1_ := Aside0.mk (Kd.V_lower (Kd.V_mono (ok' := fun k_ => some k_ ≠ (v297 : Value).ownBlock ∧ some k_ ≠ (v304 : Value).ownBlock) ho1 (fun k_ hk_ => ⟨hk_.2.1, hk_.2.2⟩)) (below_size Mark.h)); have n2_ := Aside0.mk (Kd.R_lower (Kd.R_mono (ok' := fun k_ => some k_ ≠ (v297 : Value).ownBlock) ho2 (fun _ hk_ => hk_.2)) (below_size Mark.h)); have n3_ := Aside0.mk (below_step Mark.h hb); clear HB; have HO298 := n0_; have HO302 := n1_; have HO305 := n2_; have HB := n3_; clear n0_ n1_ n2_ n3_; (try clear hb); (try clear hb2); (try clear hk); (try clear hi); (try clear ho0); (try clear ho1); (try clear ho2)) | ((with_reducible refine gate_dst (N := 3) rfl ?_); (try (refine gate_guard (by rfl) ?_; dsimp only)); refine box_event ?hg (N := 3) ?hd (cs := #[.string (⟨#[]⟩ : ByteArray), .string (⟨#[]⟩ : ByteArray), .int .i64 0, .slice none 0 0, .bool false, .slice none 0 0, .slice none 0 0]) (t := 25) ?hr ?_; (case hd => rfl); (case hg => rfl); (case hr => first | (go_simp; done) | (go_simp; rfl)); intro gb306 hg w18 hbox hb; have n0_ := Aside0.mk (Kd.R_below (Mark.r HO298) hb); have n1_ := Aside0.mk (Kd.V_below (Kd.V_elderB (Mark.v HO302) gb306 (Nat.le_of_eq hg.symm)) hb); have n2_ := Aside0.mk (Kd.R_below (Mark.r HO305) hb); have n3_ := Aside0.mk (below_step Mark.h hb); have n4_ := Aside0.mk (hbox); have n5_ := Aside0.mk ((by rw [hg]; exact (below_size Mark.h) : w.heap.size ≤ gb306)); have n6_ := Aside0.mk ((by rw [hg]; exact (below_size Mark.h) : w.heap.size ≤ gb306)); clear HO298; clear HO302; clear HO305; clear HB; have HO298 := n0_; have HO302 := n1_; have HO305 := n2_; have HB := n3_; have BK306 := n4_; have GW306 := n5_; have GE306 := n6_; clear n0_ n1_ n2_ n3_ n4_ n5_ n6_; clear hb hbox hg; have hcz19_0 : w18.cell? ⟨gb306, 0, none⟩ = some (.string (⟨#[]⟩ : ByteArray)) := (blk_cell BK306.out 0).trans rfl; have hcz19_1 : w18.cell? ⟨gb306, 1, none⟩ = some (.string (⟨#[]⟩ : ByteArray)) := (blk_cell BK306.out 1).trans rfl; have hcz19_2 : w18.cell? ⟨gb306, 2, none⟩ = some (.int .i64 0) := (blk_cell BK306.out 2).trans rfl; have hcz19_3 : w18.cell? ⟨gb306, 3, none⟩ = some (.slice none 0 0) := (blk_cell BK306.out 3).trans rfl; have hcz19_4 : w18.cell? ⟨gb306, 4, none⟩ = some (.bool false) := (blk_cell BK306.out 4).trans rfl; have hcz19_5 : w18.cell? ⟨gb306, 5, none⟩ = some (.slice none 0 0) := (blk_cell BK306.out 5).trans rfl; have hcz19_6 : w18.cell? ⟨gb306, 6, none⟩ = some (.slice none 0 0) := (blk_cell BK306.out 6).trans rfl; have hfz19_0 := blk_frozen BK306.out 0; have hfz19_1 := blk_frozen BK306.out 1; have hfz19_2 := blk_frozen BK306.out 2; have hfz19_3 := blk_frozen BK306.out 3; have hfz19_4 := blk_frozen BK306.out 4; have hfz19_5 := blk_frozen BK306.out 5; have hfz19_6 := blk_frozen BK306.out 6; obtain ⟨Ao20, co20, eo20⟩ := Kd.R_slice HO298.out; subst eo20; obtain ⟨Ao21, co21, eo21⟩ := Kd.V_slice HO302.out; subst eo21; obtain ⟨Ao22, co22, eo22⟩ := Kd.R_slice HO305.out; subst eo22) | ((with_reducible refine gate_callee (f := 18) rfl ?_); refine goesL_ (some 17) rfl rfl Tryd.func18 (by kernel_rfl) rfl #[.agg #[.string t293, .string t294, .int .i64 t295, .slice Ao20 t296.length co20, .bool t299, .slice Ao21 t300.length co21, .slice Ao22 t303.length co22]] rfl (by (try simp only [List.map_toArray, List.map_cons, List.map_nil]); first | done | rfl | (simp only [List.length_drop, List.length_take]; rfl)) ?_; (with_reducible refine (record_Copy.calls t293 t294 t295 _ _ t296 t299 _ _ t300 _ _ t303 t307 t308 t309 t310 t313 t314 t317 _ ?side1 ?side2 ?side3 ?side4 ?side5 ?side6 A7.out).mono ?_); (case side1 => refine (Kd.R_reads' (e := 31) (base := w.heap.size) (ok := fun k_ => some k_ ≠ (.slice Ao22 t303.length co22 : Value).ownBlock) (n := t296.length) (c := co20) ?_).2.2; exact (by (with_reducible repeat (first | apply Kd.R_alloc | apply Kd.R_drewN | apply Kd.R_drew)); exact (Kd.R_mono (Kd.R_far (p := ⟨gb306, 6, none⟩) (Kd.R_far (p := ⟨gb306, 5, none⟩) (Kd.R_far (p := ⟨gb306, 4, none⟩) (Kd.R_far (p := ⟨gb306, 3, none⟩) (Kd.R_far (p := ⟨gb306, 2, none⟩) (Kd.R_far (p := ⟨gb306, 1, none⟩) (Kd.R_far (p := ⟨gb306, 0, none⟩) (Kd.R_types HO298.out BK306.out (by decide)) Mark.K (.string t293)) Mark.K (.string t294)) Mark.K (.int .i64 t295)) Mark.K (.slice Ao20 t296.length co20)) Mark.K (.bool t299)) Mark.K (.slice Ao21 t300.length co21)) Mark.K (.slice Ao22 t303.length co22)) (fun _ h_ => h_.1)))); (case side2 => exact (Kd.R_reads' HO298.out).2.1); (case side3 => refine (Kd.V_reads' (e := 5) (base := w.heap.size) (ok := fun k_ => ((some k_ ≠ (.slice Ao20 t296.length co20 : Value).ownBlock ∧ some k_ ≠ (.slice Ao22 t303.length co22 : Value).ownBlock) ∧ k_ ≠ gb306)) (n := t300.length) (c := co21) ?_).2.2; exact (by (with_reducible repeat (first | apply Kd.V_alloc | apply Kd.V_drewN | apply Kd.V_drew)); exact (Kd.V_mono (Kd.V_far (p := ⟨gb306, 6, none⟩) (Kd.V_far (p := ⟨gb306, 5, none⟩) (Kd.V_far (p := ⟨gb306, 4, none⟩) (Kd.V_far (p := ⟨gb306, 3, none⟩) (Kd.V_far (p := ⟨gb306, 2, none⟩) (Kd.V_far (p := ⟨gb306, 1, none⟩) (Kd.V_far (p := ⟨gb306, 0, none⟩) (Kd.V_mono HO302.out (fun k_ hk => (⟨hk, hk.2⟩ : _ ∧ k_ ≠ gb306))) Mark.K (.string t293)) Mark.K (.string t294)) Mark.K (.int .i64 t295)) Mark.K (.slice Ao20 t296.length co20)) Mark.K (.bool t299)) Mark.K (.slice Ao21 t300.length co21)) Mark.K (.slice Ao22 t303.length co22)) (fun _ h_ => h_.1)))); (case side4 => exact (Kd.V_reads' HO302.out).2.1); (case side5 => refine (Kd.R_reads' (e := 31) (base := w.heap.size) (ok := fun k_ => some k_ ≠ (.slice Ao20 t296.length co20 : Value).ownBlock) (n := t303.length) (c := co22) ?_).2.2; exact (by (with_reducible repeat (first | apply Kd.R_alloc | apply Kd.R_drewN | apply Kd.R_drew)); exact (Kd.R_mono (Kd.R_far (p := ⟨gb306, 6, none⟩) (Kd.R_far (p := ⟨gb306, 5, none⟩) (Kd.R_far (p := ⟨gb306, 4, none⟩) (Kd.R_far (p := ⟨gb306, 3, none⟩) (Kd.R_far (p := ⟨gb306, 2, none⟩) (Kd.R_far (p := ⟨gb306, 1, none⟩) (Kd.R_far (p := ⟨gb306, 0, none⟩) (Kd.R_types HO305.out BK306.out (by decide)) Mark.K (.string t293)) Mark.K (.string t294)) Mark.K (.int .i64 t295)) Mark.K (.slice Ao20 t296.length co20)) Mark.K (.bool t299)) Mark.K (.slice Ao21 t300.length co21)) Mark.K (.slice Ao22 t303.length co22)) (fun _ h_ => h_.1)))); (case side6 => exact (Kd.R_reads' HO305.out).2.1); rintro e w23 ⟨v311, v315, v318, rfl, ho0, ho1, ho2, hb⟩; refine ⟨_, rfl, ?_⟩; have n0_ := Aside0.mk (Kd.R_mono (Kd.R_told (Kd.R_told (Kd.R_old (by (with_reducible repeat (first | apply Kd.R_alloc | apply Kd.R_drewN | apply Kd.R_drew)); exact (Kd.R_mono (Kd.R_far (p := ⟨gb306, 6, none⟩) (Kd.R_far (p := ⟨gb306, 5, none⟩) (Kd.R_far (p := ⟨gb306, 4, none⟩) (Kd.R_far (p := ⟨gb306, 3, none⟩) (Kd.R_far (p := ⟨gb306, 2, none⟩) (Kd.R_far (p := ⟨gb306, 1, none⟩) (Kd.R_far (p := ⟨gb306, 0, none⟩) (Kd.R_types HO298.out BK306.out (by decide)) Mark.K (.string t293)) Mark.K (.string t294)) Mark.K (.int .i64 t295)) Mark.K (.slice Ao20 t296.length co20)) Mark.K (.bool t299)) Mark.K (.slice Ao21 t300.length co21)) Mark.K (.slice Ao22 t303.length co22)) (fun _ h_ => h_.1))) hb) (Kd.R_base ho0)) (Kd.R_base ho2)) (fun _ h_ => h_.1)); have n1_ := Aside0.mk (Kd.V_mono (Kd.V_told (Kd.V_told (Kd.V_told (Kd.V_old (by (with_reducible repeat (first | apply Kd.V_alloc | apply Kd.V_drewN | apply Kd.V_drew)); exact (Kd.V_mono (Kd.V_far (p := ⟨gb306, 6, none⟩) (Kd.V_far (p := ⟨gb306, 5, none⟩) (Kd.V_far (p := ⟨gb306, 4, none⟩) (Kd.V_far (p := ⟨gb306, 3, none⟩) (Kd.V_far (p := ⟨gb306, 2, none⟩) (Kd.V_far (p := ⟨gb306, 1, none⟩) (Kd.V_far (p := ⟨gb306, 0, none⟩) (Kd.V_mono HO302.out (fun k_ hk => (⟨hk, hk.2⟩ : _ ∧ k_ ≠ gb306))) Mark.K (.string t293)) Mark.K (.string t294)) Mark.K (.int .i64 t295)) Mark.K (.slice Ao20 t296.length co20)) Mark.K (.bool t299)) Mark.K (.slice Ao21 t300.length co21)) Mark.K (.slice Ao22 t303.length co22)) (fun _ h_ => h_.1))) hb) (Kd.R_base ho0)) (Kd.R_base ho1)) (Kd.R_base ho2)) (fun _ h_ => h_.1)); have n2_ := Aside0.mk (Kd.R_mono (Kd.R_told (Kd.R_told (Kd.R_old (by (with_reducible repeat (first | apply Kd.R_alloc | apply Kd.R_drewN | apply Kd.R_drew)); exact (Kd.R_mono (Kd.R_far (p := ⟨gb306, 6, none⟩) (Kd.R_far (p := ⟨gb306, 5, none⟩) (Kd.R_far (p := ⟨gb306, 4, none⟩) (Kd.R_far (p := ⟨gb306, 3, none⟩) (Kd.R_far (p := ⟨gb306, 2, none⟩) (Kd.R_far (p := ⟨gb306, 1, none⟩) (Kd.R_far (p := ⟨gb306, 0, none⟩) (Kd.R_types HO305.out BK306.out (by decide)) Mark.K (.string t293)) Mark.K (.string t294)) Mark.K (.int .i64 t295)) Mark.K (.slice Ao20 t296.length co20)) Mark.K (.bool t299)) Mark.K (.slice Ao21 t300.length co21)) Mark.K (.slice Ao22 t303.length co22)) (fun _ h_ => h_.1))) hb) (Kd.R_base ho0)) (Kd.R_base ho2)) (fun _ h_ => h_.1)); have n3_ := Aside0.mk (Kd.R_lower (Kd.R_new' (Kd.R_new' ho0 (Kd.R_lt (by (with_reducible repeat (first | apply Kd.R_alloc | apply Kd.R_drewN | apply Kd.R_drew)); exact (Kd.R_mono (Kd.R_far (p := ⟨gb306, 6, none⟩) (Kd.R_far (p := ⟨gb306, 5, none⟩) (Kd.R_far (p := ⟨gb306, 4, none⟩) (Kd.R_far (p := ⟨gb306, 3, none⟩) (Kd.R_far (p := ⟨gb306, 2, none⟩) (Kd.R_far (p := ⟨gb306, 1, none⟩) (Kd.R_far (p := ⟨gb306, 0, none⟩) (Kd.R_types HO298.out BK306.out (by decide)) Mark.K (.string t293)) Mark.K (.string t294)) Mark.K (.int .i64 t295)) Mark.K (.slice Ao20 t296.length co20)) Mark.K (.bool t299)) Mark.K (.slice Ao21 t300.length co21)) Mark.K (.slice Ao22 t303.length co22)) (fun _ h_ => h_.1))))) (Kd.R_lt (by (with_reducible repeat (first | apply Kd.R_alloc | apply Kd.R_drewN | apply Kd.R_drew)); exact (Kd.R_mono (Kd.R_far (p := ⟨gb306, 6, none⟩) (Kd.R_far (p := ⟨gb306, 5, none⟩) (Kd.R_far (p := ⟨gb306, 4, none⟩) (Kd.R_far (p := ⟨gb306, 3, none⟩) (Kd.R_far (p := ⟨gb306, 2, none⟩) (Kd.R_far (p := ⟨gb306, 1, none⟩) (Kd.R_far (p := ⟨gb306, 0, none⟩) (Kd.R_types HO305.out BK306.out (by decide)) Mark.K (.string t293)) Mark.K (.string t294)) Mark.K (.int .i64 t295)) Mark.K (.slice Ao20 t296.length co20)) Mark.K (.bool t299)) Mark.K (.slice Ao21 t300.length co21)) Mark.K (.slice Ao22 t303.length co22)) (fun _ h_ => h_.1))))) (below_size Mark.h)); have n4_ := Aside0.mk (Kd.R_lower ho1 (below_size Mark.h)); have n5_ := Aside0.mk (Kd.R_lower (Kd.R_new' (Kd.R_new' ho2 (Kd.R_lt (by (with_reducible repeat (first | apply Kd.R_alloc | apply Kd.R_drewN | apply Kd.R_drew)); exact (Kd.R_mono (Kd.R_far (p := ⟨gb306, 6, none⟩) (Kd.R_far (p := ⟨gb306, 5, none⟩) (Kd.R_far (p := ⟨gb306, 4, none⟩) (Kd.R_far (p := ⟨gb306, 3, none⟩) (Kd.R_far (p := ⟨gb306, 2, none⟩) (Kd.R_far (p := ⟨gb306, 1, none⟩) (Kd.R_far (p := ⟨gb306, 0, none⟩) (Kd.R_types HO298.out BK306.out (by decide)) Mark.K (.string t293)) Mark.K (.string t294)) Mark.K (.int .i64 t295)) Mark.K (.slice Ao20 t296.length co20)) Mark.K (.bool t299)) Mark.K (.slice Ao21 t300.length co21)) Mark.K (.slice Ao22 t303.length co22)) (fun _ h_ => h_.1))))) (Kd.R_lt (by (with_reducible repeat (first | apply Kd.R_alloc | apply Kd.R_drewN | apply Kd.R_drew)); exact (Kd.R_mono (Kd.R_far (p := ⟨gb306, 6, none⟩) (Kd.R_far (p := ⟨gb306, 5, none⟩) (Kd.R_far (p := ⟨gb306, 4, none⟩) (Kd.R_far (p := ⟨gb306, 3, none⟩) (Kd.R_far (p := ⟨gb306, 2, none⟩) (Kd.R_far (p := ⟨gb306, 1, none⟩) (Kd.R_far (p := ⟨gb306, 0, none⟩) (Kd.R_types HO305.out BK306.out (by decide)) Mark.K (.string t293)) Mark.K (.string t294)) Mark.K (.int .i64 t295)) Mark.K (.slice Ao20 t296.length co20)) Mark.K (.bool t299)) Mark.K (.slice Ao21 t300.length co21)) Mark.K (.slice Ao22 t303.length co22)) (fun _ h_ => h_.1))))) (below_size Mark.h)); have n6_ := Aside0.mk (blk_below (g := gb306) (o := .cells #[.string t293, .string t294, .int .i64 t295, .slice Ao20 t296.length co20, .bool t299, .slice Ao21 t300.length co21, .slice Ao22 t303.length co22] 25 (0, 0)) (by (with_reducible repeat (first | refine blk_drewN ?_ _ | refine blk_drew ?_ | refine blk_alloc ?_ _)); refine blk_put (cs := #[.string t293, .string t294, .int .i64 t295, .slice Ao20 t296.length co20, .bool t299, .slice Ao21 t300.length co21, .slice none 0 0]) ?_ 6 _ rfl; (with_reducible repeat (first | refine blk_drewN ?_ _ | refine blk_drew ?_ | refine blk_alloc ?_ _)); refine blk_put (cs := #[.string t293, .string t294, .int .i64 t295, .slice Ao20 t296.length co20, .bool t299, .slice none 0 0, .slice none 0 0]) ?_ 5 _ rfl; (with_reducible repeat (first | refine blk_drewN ?_ _ | refine blk_drew ?_ | refine blk_alloc ?_ _)); refine blk_put (cs := #[.string t293, .string t294, .int .i64 t295, .slice Ao20 t296.length co20, .bool false, .slice none 0 0, .slice none 0 0]) ?_ 4 _ rfl; (with_reducible repeat (first | refine blk_drewN ?_ _ | refine blk_drew ?_ | refine blk_alloc ?_ _)); refine blk_put (cs := #[.string t293, .string t294, .int .i64 t295, .slice none 0 0, .bool false, .slice none 0 0, .slice none 0 0]) ?_ 3 _ rfl; (with_reducible repeat (first | refine blk_drewN ?_ _ | refine blk_drew ?_ | refine blk_alloc ?_ _)); refine blk_put (cs := #[.string t293, .string t294, .int .i64 0, .slice none 0 0, .bool false, .slice none 0 0, .slice none 0 0]) ?_ 2 _ rfl; (with_reducible repeat (first | refine blk_drewN ?_ _ | refine blk_drew ?_ | refine blk_alloc ?_ _)); refine blk_put (cs := #[.string t293, .string (⟨#[]⟩ : ByteArray), .int .i64 0, .slice none 0 0, .bool false, .slice none 0 0, .slice none 0 0]) ?_ 1 _ rfl; (with_reducible repeat (first | refine blk_drewN ?_ _ | refine blk_drew ?_ | refine blk_alloc ?_ _)); refine blk_put (cs := #[.string (⟨#[]⟩ : ByteArray), .string (⟨#[]⟩ : ByteArray), .int .i64 0, .slice none 0 0, .bool false, .slice none 0 0, .slice none 0 0]) ?_ 0 _ rfl; (with_reducible repeat (first | refine blk_drewN ?_ _ | refine blk_drew ?_ | refine blk_alloc ?_ _)); exact BK306.out) hb); have n7_ := Aside0.mk (below_step Mark.h hb); clear HO298; clear HO302; clear HO305; clear BK306; clear HB; have HO298 := n0_; have HO302 := n1_; have HO305 := n2_; have HO312 := n3_; have HO316 := n4_; have HO319 := n5_; have BK306 := n6_; have HB := n7_; clear n0_ n1_ n2_ n3_ n4_ n5_ n6_ n7_; (try clear hb); (try clear hb2); (try clear hk); (try clear hi); (try clear ho0); (try clear ho1); (try clear ho2)) | ((with_reducible refine gate_dst (N := 4) rfl ?_); (try (refine gate_guard (by rfl) ?_; dsimp only)); refine box_event ?hg (N := 4) ?hd (cs := #[.string (⟨#[]⟩ : ByteArray), .string (⟨#[]⟩ : ByteArray), .int .i64 0, .slice none 0 0, .bool false, .slice none 0 0, .slice none 0 0]) (t := 25) ?hr ?_; (case hd => rfl); (case hg => rfl); (case hr => first | (go_simp; done) | (go_simp; rfl)); intro gb320 hg w24 hbox hb; have n0_ := Aside0.mk (Kd.R_below (Mark.r HO298) hb); have n1_ := Aside0.mk (Kd.V_below (Kd.V_elderB (Mark.v HO302) gb320 (Nat.le_of_eq hg.symm)) hb); have n2_ := Aside0.mk (Kd.R_below (Mark.r HO305) hb); have n3_ := Aside0.mk (Kd.R_below (Mark.r HO312) hb); have n4_ := Aside0.mk (Kd.R_below (Mark.r HO316) hb); have n5_ := Aside0.mk (Kd.R_below (Mark.r HO319) hb); have n6_ := Aside0.mk (blk_below (g := gb306) (o := .cells #[.string t293, .string t294, .int .i64 t295, .slice Ao20 t296.length co20, .bool t299, .slice Ao21 t300.length co21, .slice Ao22 t303.length co22] 25 (0, 0)) (Mark.b BK306) hb); have n7_ := Aside0.mk (below_step Mark.h hb); have n8_ := Aside0.mk (hbox); have n9_ := Aside0.mk ((by rw [hg]; exact (below_size Mark.h) : w.heap.size ≤ gb320)); have n10_ := Aside0.mk ((by rw [hg]; exact (below_size Mark.h) : w.heap.size ≤ gb320)); have n11_ := Aside0.mk ((by rw [hg]; exact Nat.ne_of_lt (blk_lt (g := gb306) (o := .cells #[.string t293, .string t294, .int .i64 t295, .slice Ao20 t296.length co20, .bool t299, .slice Ao21 t300.length co21, .slice Ao22 t303.length co22] 25 (0, 0)) (Mark.b BK306)) : gb306 ≠ gb320)); have n12_ := Aside0.mk ((by rw [hg]; exact Nat.ne_of_gt (blk_lt (g := gb306) (o := .cells #[.string t293, .string t294, .int .i64 t295, .slice Ao20 t296.length co20, .bool t299, .slice Ao21 t300.length co21, .slice Ao22 t303.length co22] 25 (0, 0)) (Mark.b BK306)) : gb320 ≠ gb306)); clear HO298; clear HO302; clear HO305; clear HO312; clear HO316; clear HO319; clear BK306; clear HB; have HO298 := n0_; have HO302 := n1_; have HO305 := n2_; have HO312 := n3_; have HO316 := n4_; have HO319 := n5_; have BK306 := n6_; have HB := n7_; have BK320 := n8_; have GW320 := n9_; have GE320 := n10_; have NB306_320 := n11_; have NB320_306 := n12_; clear n0_ n1_ n2_ n3_ n4_ n5_ n6_ n7_ n8_ n9_ n10_ n11_ n12_; clear hb hbox hg; have hnb25 := NB320_306.out; have hnc25 := NB306_320.out; have hcz26_0 : w24.cell? ⟨gb320, 0, none⟩ = some (.string (⟨#[]⟩ : ByteArray)) := (blk_cell BK320.out 0).trans rfl; have hcz26_1 : w24.cell? ⟨gb320, 1, none⟩ = some (.string (⟨#[]⟩ : ByteArray)) := (blk_cell BK320.out 1).trans rfl; have hcz26_2 : w24.cell? ⟨gb320, 2, none⟩ = some (.int .i64 0) := (blk_cell BK320.out 2).trans rfl; have hcz26_3 : w24.cell? ⟨gb320, 3, none⟩ = some (.slice none 0 0) := (blk_cell BK320.out 3).trans rfl; have hcz26_4 : w24.cell? ⟨gb320, 4, none⟩ = some (.bool false) := (blk_cell BK320.out 4).trans rfl; have hcz26_5 : w24.cell? ⟨gb320, 5, none⟩ = some (.slice none 0 0) := (blk_cell BK320.out 5).trans rfl; have hcz26_6 : w24.cell? ⟨gb320, 6, none⟩ = some (.slice none 0 0) := (blk_cell BK320.out 6).trans rfl; have hfz26_0 := blk_frozen BK320.out 0; have hfz26_1 := blk_frozen BK320.out 1; have hfz26_2 := blk_frozen BK320.out 2; have hfz26_3 := blk_frozen BK320.out 3; have hfz26_4 := blk_frozen BK320.out 4; have hfz26_5 := blk_frozen BK320.out 5; have hfz26_6 := blk_frozen BK320.out 6; obtain ⟨Ao27, co27, eo27⟩ := Kd.R_slice HO312.out; subst eo27; obtain ⟨Ao28, co28, eo28⟩ := Kd.R_slice HO316.out; subst eo28; obtain ⟨Ao29, co29, eo29⟩ := Kd.R_slice HO319.out; subst eo29; have hcz30_0 : w24.cell? ⟨gb306, 0, none⟩ = some (.string t293) := (blk_cell BK306.out 0).trans rfl; have hcz30_1 : w24.cell? ⟨gb306, 1, none⟩ = some (.string t294) := (blk_cell BK306.out 1).trans rfl; have hcz30_2 : w24.cell? ⟨gb306, 2, none⟩ = some (.int .i64 t295) := (blk_cell BK306.out 2).trans rfl; have hcz30_3 : w24.cell? ⟨gb306, 3, none⟩ = some (.slice Ao20 t296.length co20) := (blk_cell BK306.out 3).trans rfl; have hcz30_4 : w24.cell? ⟨gb306, 4, none⟩ = some (.bool t299) := (blk_cell BK306.out 4).trans rfl; have hcz30_5 : w24.cell? ⟨gb306, 5, none⟩ = some (.slice Ao21 t300.length co21) := (blk_cell BK306.out 5).trans rfl; have hcz30_6 : w24.cell? ⟨gb306, 6, none⟩ = some (.slice Ao22 t303.length co22) := (blk_cell BK306.out 6).trans rfl; have hfz30_0 := blk_frozen BK306.out 0; have hfz30_1 := blk_frozen BK306.out 1; have hfz30_2 := blk_frozen BK306.out 2; have hfz30_3 := blk_frozen BK306.out 3; have hfz30_4 := blk_frozen BK306.out 4; have hfz30_5 := blk_frozen BK306.out 5; have hfz30_6 := blk_frozen BK306.out 6) | ((with_reducible refine gate_callee (f := 12) rfl ?_); refine goesL_ (some 19) rfl rfl Tryd.func12 (by kernel_rfl) rfl #[.agg #[.string t293, .string t294, .int .i64 t295, .slice Ao20 t296.length co20, .bool t299, .slice Ao21 t300.length co21, .slice Ao22 t303.length co22]] rfl (by (try simp only [List.map_toArray, List.map_cons, List.map_nil]); first | done | rfl | (simp only [List.length_drop, List.length_take]; rfl)) ?_; (with_reducible refine (record_Size.calls k t293 t294 t295 _ _ t296 t299 _ _ t300 _ _ t303 t321 _ ?side1 ?side2 ?side3 ?side4 ?side5 ?side6 A8.out).mono ?_); (case side1 => refine (Kd.R_reads' (e := 31) (base := w.heap.size) (ok := fun k_ => ((some k_ ≠ (.slice Ao22 t303.length co22 : Value).ownBlock ∧ some k_ ≠ (.slice Ao27 t310.length co27 : Value).ownBlock) ∧ some k_ ≠ (.slice Ao29 t317.length co29 : Value).ownBlock)) (n := t296.length) (c := co20) ?_).2.2; exact (by (with_reducible repeat (first | apply Kd.R_alloc | apply Kd.R_drewN | apply Kd.R_drew)); exact (Kd.R_mono (Kd.R_far (p := ⟨gb320, 6, none⟩) (Kd.R_far (p := ⟨gb320, 5, none⟩) (Kd.R_far (p := ⟨gb320, 4, none⟩) (Kd.R_far (p := ⟨gb320, 3, none⟩) (Kd.R_far (p := ⟨gb320, 2, none⟩) (Kd.R_far (p := ⟨gb320, 1, none⟩) (Kd.R_far (p := ⟨gb320, 0, none⟩) (Kd.R_types HO298.out BK320.out (by decide)) Mark.K (.string t307)) Mark.K (.string t308)) Mark.K (.int .i64 t309)) Mark.K (.slice Ao27 t310.length co27)) Mark.K (.bool t313)) Mark.K (.slice Ao28 t314.length co28)) Mark.K (.slice Ao29 t317.length co29)) (fun _ h_ => h_.1)))); (case side2 => exact (Kd.R_reads' HO298.out).2.1); (case side3 => refine (Kd.V_reads' (e := 5) (base := w.heap.size) (ok := fun k_ => ((((((some k_ ≠ (.slice Ao20 t296.length co20 : Value).ownBlock ∧ some k_ ≠ (.slice Ao22 t303.length co22 : Value).ownBlock) ∧ k_ ≠ gb306) ∧ some k_ ≠ (.slice Ao27 t310.length co27 : Value).ownBlock) ∧ some k_ ≠ (.slice Ao28 t314.length co28 : Value).ownBlock) ∧ some k_ ≠ (.slice Ao29 t317.length co29 : Value).ownBlock) ∧ k_ ≠ gb320)) (n := t300.length) (c := co21) ?_).2.2; exact (by (with_reducible repeat (first | apply Kd.V_alloc | apply Kd.V_drewN | apply Kd.V_drew)); exact (Kd.V_mono (Kd.V_far (p := ⟨gb320, 6, none⟩) (Kd.V_far (p := ⟨gb320, 5, none⟩) (Kd.V_far (p := ⟨gb320, 4, none⟩) (Kd.V_far (p := ⟨gb320, 3, none⟩) (Kd.V_far (p := ⟨gb320, 2, none⟩) (Kd.V_far (p := ⟨gb320, 1, none⟩) (Kd.V_far (p := ⟨gb320, 0, none⟩) (Kd.V_mono HO302.out (fun k_ hk => (⟨hk, hk.2⟩ : _ ∧ k_ ≠ gb320))) Mark.K (.string t307)) Mark.K (.string t308)) Mark.K (.int .i64 t309)) Mark.K (.slice Ao27 t310.length co27)) Mark.K (.bool t313)) Mark.K (.slice Ao28 t314.length co28)) Mark.K (.slice Ao29 t317.length co29)) (fun _ h_ => h_.1)))); (case side4 => exact (Kd.V_reads' HO302.out).2.1); (case side5 => refine (Kd.R_reads' (e := 31) (base := w.heap.size) (ok := fun k_ => ((some k_ ≠ (.slice Ao20 t296.length co20 : Value).ownBlock ∧ some k_ ≠ (.slice Ao27 t310.length co27 : Value).ownBlock) ∧ some k_ ≠ (.slice Ao29 t317.length co29 : Value).ownBlock)) (n := t303.length) (c := co22) ?_).2.2; exact (by (with_reducible repeat (first | apply Kd.R_alloc | apply Kd.R_drewN | apply Kd.R_drew)); exact (Kd.R_mono (Kd.R_far (p := ⟨gb320, 6, none⟩) (Kd.R_far (p := ⟨gb320, 5, none⟩) (Kd.R_far (p := ⟨gb320, 4, none⟩) (Kd.R_far (p := ⟨gb320, 3, none⟩) (Kd.R_far (p := ⟨gb320, 2, none⟩) (Kd.R_far (p := ⟨gb320, 1, none⟩) (Kd.R_far (p := ⟨gb320, 0, none⟩) (Kd.R_types HO305.out BK320.out (by decide)) Mark.K (.string t307)) Mark.K (.string t308)) Mark.K (.int .i64 t309)) Mark.K (.slice Ao27 t310.length co27)) Mark.K (.bool t313)) Mark.K (.slice Ao28 t314.length co28)) Mark.K (.slice Ao29 t317.length co29)) (fun _ h_ => h_.1)))); (case side6 => exact (Kd.R_reads' HO305.out).2.1); rintro e w31 ⟨rfl, hb⟩; refine ⟨_, rfl, ?_⟩; have n0_ := Aside0.mk (Kd.R_below (by (with_reducible repeat (first | apply Kd.R_alloc | apply Kd.R_drewN | apply Kd.R_drew)); exact (Kd.R_mono (Kd.R_far (p := ⟨gb320, 6, none⟩) (Kd.R_far (p := ⟨gb320, 5, none⟩) (Kd.R_far (p := ⟨gb320, 4, none⟩) (Kd.R_far (p := ⟨gb320, 3, none⟩) (Kd.R_far (p := ⟨gb320, 2, none⟩) (Kd.R_far (p := ⟨gb320, 1, none⟩) (Kd.R_far (p := ⟨gb320, 0, none⟩) (Kd.R_types HO298.out BK320.out (by decide)) Mark.K (.string t307)) Mark.K (.string t308)) Mark.K (.int .i64 t309)) Mark.K (.slice Ao27 t310.length co27)) Mark.K (.bool t313)) Mark.K (.slice Ao28 t314.length co28)) Mark.K (.slice Ao29 t317.length co29)) (fun _ h_ => h_.1))) hb); have n1_ := Aside0.mk (Kd.V_below (by (with_reducible repeat (first | apply Kd.V_alloc | apply Kd.V_drewN | apply Kd.V_drew)); exact (Kd.V_mono (Kd.V_far (p := ⟨gb320, 6, none⟩) (Kd.V_far (p := ⟨gb320, 5, none⟩) (Kd.V_far (p := ⟨gb320, 4, none⟩) (Kd.V_far (p := ⟨gb320, 3, none⟩) (Kd.V_far (p := ⟨gb320, 2, none⟩) (Kd.V_far (p := ⟨gb320, 1, none⟩) (Kd.V_far (p := ⟨gb320, 0, none⟩) (Kd.V_mono HO302.out (fun k_ hk => (⟨hk, hk.2⟩ : _ ∧ k_ ≠ gb320))) Mark.K (.string t307)) Mark.K (.string t308)) Mark.K (.int .i64 t309)) Mark.K (.slice Ao27 t310.length co27)) Mark.K (.bool t313)) Mark.K (.slice Ao28 t314.length co28)) Mark.K (.slice Ao29 t317.length co29)) (fun _ h_ => h_.1))) hb); have n2_ := Aside0.mk (Kd.R_below (by (with_reducible repeat (first | apply Kd.R_alloc | apply Kd.R_drewN | apply Kd.R_drew)); exact (Kd.R_mono (Kd.R_far (p := ⟨gb320, 6, none⟩) (Kd.R_far (p := ⟨gb320, 5, none⟩) (Kd.R_far (p := ⟨gb320, 4, none⟩) (Kd.R_far (p := ⟨gb320, 3, none⟩) (Kd.R_far (p := ⟨gb320, 2, none⟩) (Kd.R_far (p := ⟨gb320, 1, none⟩) (Kd.R_far (p := ⟨gb320, 0, none⟩) (Kd.R_types HO305.out BK320.out (by decide)) Mark.K (.string t307)) Mark.K (.string t308)) Mark.K (.int .i64 t309)) Mark.K (.slice Ao27 t310.length co27)) Mark.K (.bool t313)) Mark.K (.slice Ao28 t314.length co28)) Mark.K (.slice Ao29 t317.length co29)) (fun _ h_ => h_.1))) hb); have n3_ := Aside0.mk (Kd.R_below (by (with_reducible repeat (first | apply Kd.R_alloc | apply Kd.R_drewN | apply Kd.R_drew)); exact (Kd.R_mono (Kd.R_far (p := ⟨gb320, 6, none⟩) (Kd.R_far (p := ⟨gb320, 5, none⟩) (Kd.R_far (p := ⟨gb320, 4, none⟩) (Kd.R_far (p := ⟨gb320, 3, none⟩) (Kd.R_far (p := ⟨gb320, 2, none⟩) (Kd.R_far (p := ⟨gb320, 1, none⟩) (Kd.R_far (p := ⟨gb320, 0, none⟩) (Kd.R_types HO312.out BK320.out (by decide)) Mark.K (.string t307)) Mark.K (.string t308)) Mark.K (.int .i64 t309)) Mark.K (.slice Ao27 t310.length co27)) Mark.K (.bool t313)) Mark.K (.slice Ao28 t314.length co28)) Mark.K (.slice Ao29 t317.length co29)) (fun _ h_ => h_.1))) hb); have n4_ := Aside0.mk (Kd.R_below (by (with_reducible repeat (first | apply Kd.R_alloc | apply Kd.R_drewN | apply Kd.R_drew)); exact (Kd.R_mono (Kd.R_far (p := ⟨gb320, 6, none⟩) (Kd.R_far (p := ⟨gb320, 5, none⟩) (Kd.R_far (p := ⟨gb320, 4, none⟩) (Kd.R_far (p := ⟨gb320, 3, none⟩) (Kd.R_far (p := ⟨gb320, 2, none⟩) (Kd.R_far (p := ⟨gb320, 1, none⟩) (Kd.R_far (p := ⟨gb320, 0, none⟩) (Kd.R_types HO316.out BK320.out (by decide)) Mark.K (.string t307)) Mark.K (.string t308)) Mark.K (.int .i64 t309)) Mark.K (.slice Ao27 t310.length co27)) Mark.K (.bool t313)) Mark.K (.slice Ao28 t314.length co28)) Mark.K (.slice Ao29 t317.length co29)) (fun _ h_ => h_.1))) hb); have n5_ := Aside0.mk (Kd.R_below (by (with_reducible repeat (first | apply Kd.R_alloc | apply Kd.R_drewN | apply Kd.R_drew)); exact (Kd.R_mono (Kd.R_far (p := ⟨gb320, 6, none⟩) (Kd.R_far (p := ⟨gb320, 5, none⟩) (Kd.R_far (p := ⟨gb320, 4, none⟩) (Kd.R_far (p := ⟨gb320, 3, none⟩) (Kd.R_far (p := ⟨gb320, 2, none⟩) (Kd.R_far (p := ⟨gb320, 1, none⟩) (Kd.R_far (p := ⟨gb320, 0, none⟩) (Kd.R_types HO319.out BK320.out (by decide)) Mark.K (.string t307)) Mark.K (.string t308)) Mark.K (.int .i64 t309)) Mark.K (.slice Ao27 t310.length co27)) Mark.K (.bool t313)) Mark.K (.slice Ao28 t314.length co28)) Mark.K (.slice Ao29 t317.length co29)) (fun _ h_ => h_.1))) hb); have n6_ := Aside0.mk (blk_below (g := gb306) (o := .cells #[.string t293, .string t294, .int .i64 t295, .slice Ao20 t296.length co20, .bool t299, .slice Ao21 t300.length co21, .slice Ao22 t303.length co22] 25 (0, 0)) (by (repeat ((with_reducible repeat (first | refine blk_drewN ?_ _ | refine blk_drew ?_ | refine blk_alloc ?_ _)); refine blk_far ?_ NB306_320.out _)); (with_reducible repeat (first | refine blk_drewN ?_ _ | refine blk_drew ?_ | refine blk_alloc ?_ _)); exact BK306.out) hb); have n7_ := Aside0.mk (blk_below (g := gb320) (o := .cells #[.string t307, .string t308, .int .i64 t309, .slice Ao27 t310.length co27, .bool t313, .slice Ao28 t314.length co28, .slice Ao29 t317.length co29] 25 (0, 0)) (by (with_reducible repeat (first | refine blk_drewN ?_ _ | refine blk_drew ?_ | refine blk_alloc ?_ _)); refine blk_put (cs := #[.string t307, .string t308, .int .i64 t309, .slice Ao27 t310.length co27, .bool t313, .slice Ao28 t314.length co28, .slice none 0 0]) ?_ 6 _ rfl; (with_reducible repeat (first | refine blk_drewN ?_ _ | refine blk_drew ?_ | refine blk_alloc ?_ _)); refine blk_put (cs := #[.string t307, .string t308, .int .i64 t309, .slice Ao27 t310.length co27, .bool t313, .slice none 0 0, .slice none 0 0]) ?_ 5 _ rfl; (with_reducible repeat (first | refine blk_drewN ?_ _ | refine blk_drew ?_ | refine blk_alloc ?_ _)); refine blk_put (cs := #[.string t307, .string t308, .int .i64 t309, .slice Ao27 t310.length co27, .bool false, .slice none 0 0, .slice none 0 0]) ?_ 4 _ rfl; (with_reducible repeat (first | refine blk_drewN ?_ _ | refine blk_drew ?_ | refine blk_alloc ?_ _)); refine blk_put (cs := #[.string t307, .string t308, .int .i64 t309, .slice none 0 0, .bool false, .slice none 0 0, .slice none 0 0]) ?_ 3 _ rfl; (with_reducible repeat (first | refine blk_drewN ?_ _ | refine blk_drew ?_ | refine blk_alloc ?_ _)); refine blk_put (cs := #[.string t307, .string t308, .int .i64 0, .slice none 0 0, .bool false, .slice none 0 0, .slice none 0 0]) ?_ 2 _ rfl; (with_reducible repeat (first | refine blk_drewN ?_ _ | refine blk_drew ?_ | refine blk_alloc ?_ _)); refine blk_put (cs := #[.string t307, .string (⟨#[]⟩ : ByteArray), .int .i64 0, .slice none 0 0, .bool false, .slice none 0 0, .slice none 0 0]) ?_ 1 _ rfl; (with_reducible repeat (first | refine blk_drewN ?_ _ | refine blk_drew ?_ | refine blk_alloc ?_ _)); refine blk_put (cs := #[.string (⟨#[]⟩ : ByteArray), .string (⟨#[]⟩ : ByteArray), .int .i64 0, .slice none 0 0, .bool false, .slice none 0 0, .slice none 0 0]) ?_ 0 _ rfl; (with_reducible repeat (first | refine blk_drewN ?_ _ | refine blk_drew ?_ | refine blk_alloc ?_ _)); exact BK320.out) hb); have n8_ := Aside0.mk (below_step Mark.h hb); clear HO298; clear HO302; clear HO305; clear HO312; clear HO316; clear HO319; clear BK306; clear BK320; clear HB; have HO298 := n0_; have HO302 := n1_; have HO305 := n2_; have HO312 := n3_; have HO316 := n4_; have HO319 := n5_; have BK306 := n6_; have BK320 := n7_; have HB := n8_; clear n0_ n1_ n2_ n3_ n4_ n5_ n6_ n7_ n8_; (try clear hb); (try clear hb2); (try clear hk); (try clear hi); have hcz32_0 : w31.cell? ⟨gb320, 0, none⟩ = some (.string t307) := (blk_cell BK320.out 0).trans rfl; have hcz32_1 : w31.cell? ⟨gb320, 1, none⟩ = some (.string t308) := (blk_cell BK320.out 1).trans rfl; have hcz32_2 : w31.cell? ⟨gb320, 2, none⟩ = some (.int .i64 t309) := (blk_cell BK320.out 2).trans rfl; have hcz32_3 : w31.cell? ⟨gb320, 3, none⟩ = some (.slice Ao27 t310.length co27) := (blk_cell BK320.out 3).trans rfl; have hcz32_4 : w31.cell? ⟨gb320, 4, none⟩ = some (.bool t313) := (blk_cell BK320.out 4).trans rfl; have hcz32_5 : w31.cell? ⟨gb320, 5, none⟩ = some (.slice Ao28 t314.length co28) := (blk_cell BK320.out 5).trans rfl; have hcz32_6 : w31.cell? ⟨gb320, 6, none⟩ = some (.slice Ao29 t317.length co29) := (blk_cell BK320.out 6).trans rfl; have hfz32_0 := blk_frozen BK320.out 0; have hfz32_1 := blk_frozen BK320.out 1; have hfz32_2 := blk_frozen BK320.out 2; have hfz32_3 := blk_frozen BK320.out 3; have hfz32_4 := blk_frozen BK320.out 4; have hfz32_5 := blk_frozen BK320.out 5; have hfz32_6 := blk_frozen BK320.out 6; have hcz33_0 : w31.cell? ⟨gb306, 0, none⟩ = some (.string t293) := (blk_cell BK306.out 0).trans rfl; have hcz33_1 : w31.cell? ⟨gb306, 1, none⟩ = some (.string t294) := (blk_cell BK306.out 1).trans rfl; have hcz33_2 : w31.cell? ⟨gb306, 2, none⟩ = some (.int .i64 t295) := (blk_cell BK306.out 2).trans rfl; have hcz33_3 : w31.cell? ⟨gb306, 3, none⟩ = some (.slice Ao20 t296.length co20) := (blk_cell BK306.out 3).trans rfl; have hcz33_4 : w31.cell? ⟨gb306, 4, none⟩ = some (.bool t299) := (blk_cell BK306.out 4).trans rfl; have hcz33_5 : w31.cell? ⟨gb306, 5, none⟩ = some (.slice Ao21 t300.length co21) := (blk_cell BK306.out 5).trans rfl; have hcz33_6 : w31.cell? ⟨gb306, 6, none⟩ = some (.slice Ao22 t303.length co22) := (blk_cell BK306.out 6).trans rfl; have hfz33_0 := blk_frozen BK306.out 0; have hfz33_1 := blk_frozen BK306.out 1; have hfz33_2 := blk_frozen BK306.out 2; have hfz33_3 := blk_frozen BK306.out 3; have hfz33_4 := blk_frozen BK306.out 4; have hfz33_5 := blk_frozen BK306.out 5; have hfz33_6 := blk_frozen BK306.out 6) | ((with_reducible refine gate_callee (f := 10) rfl ?_); refine goesL_ (some 22) rfl rfl Tryd.func10 (by kernel_rfl) rfl #[.agg #[.string t307, .string t308, .int .i64 t309, .slice Ao27 t310.length co27, .bool t313, .slice Ao28 t314.length co28, .slice Ao29 t317.length co29], .agg #[.string t293, .string t294, .int .i64 t295, .slice Ao20 t296.length co20, .bool t299, .slice Ao21 t300.length co21, .slice Ao22 t303.length co22]] rfl (by (try simp only [List.map_toArray, List.map_cons, List.map_nil]); first | done | rfl | (simp only [List.length_drop, List.length_take]; rfl)) ?_; (with_reducible refine (record_Same.calls k t307 t308 t309 _ _ t310 t313 _ _ t314 _ _ t317 t293 t294 t295 _ _ t296 t299 _ _ t300 _ _ t303 true _ ?side1 ?side2 ?side3 ?side4 ?side5 ?side6 ?side7 ?side8 ?side9 ?side10 ?side11 ?side12 A9.out).mono ?_); (case side1 => repeat (first | exact (Kd.R_reads' HO312.out).2.2 | (with_reducible refine Kd.C_alloc ?_ _) | (with_reducible refine Kd.C_drewN ?_ _) | (with_reducible refine Kd.C_drew ?_))); (case side2 => exact (Kd.R_reads' HO312.out).2.1); (case side3 => repeat (first | exact (Kd.R_reads' HO316.out).2.2 | (with_reducible refine Kd.C_alloc ?_ _) | (with_reducible refine Kd.C_drewN ?_ _) | (with_reducible refine Kd.C_drew ?_))); (case side4 => exact (Kd.R_reads' HO316.out).2.1); (case side5 => repeat (first | exact (Kd.R_reads' HO319.out).2.2 | (with_reducible refine Kd.C_alloc ?_ _) | (with_reducible refine Kd.C_drewN ?_ _) | (with_reducible refine Kd.C_drew ?_))); (case side6 => exact (Kd.R_reads' HO319.out).2.1); (case side7 => repeat (first | exact (Kd.R_reads' HO298.out).2.2 | (with_reducible refine Kd.C_alloc ?_ _) | (with_reducible refine Kd.C_drewN ?_ _) | (with_reducible refine Kd.C_drew ?_))); (case side8 => exact (Kd.R_reads' HO298.out).2.1); (case side9 => repeat (first | exact (Kd.V_reads' HO302.out).2.2 | (with_reducible refine Kd.C_alloc ?_ _) | (with_reducible refine Kd.C_drewN ?_ _) | (with_reducible refine Kd.C_drew ?_))); (case side10 => exact (Kd.V_reads' HO302.out).2.1); (case side11 => repeat (first | exact (Kd.R_reads' HO305.out).2.2 | (with_reducible refine Kd.C_alloc ?_ _) | (with_reducible refine Kd.C_drewN ?_ _) | (with_reducible refine Kd.C_drew ?_))); (case side12 => exact (Kd.R_reads' HO305.out).2.1); rintro e w34 ⟨rfl, hb⟩; refine ⟨_, rfl, ?_⟩; have n0_ := Aside0.mk (Kd.R_below (Mark.r HO298) hb); have n1_ := Aside0.mk (Kd.V_below (Mark.v HO302) hb); have n2_ := Aside0.mk (Kd.R_below (Mark.r HO305) hb); have n3_ := Aside0.mk (Kd.R_below (Mark.r HO312) hb); have n4_ := Aside0.mk (Kd.R_below (Mark.r HO316) hb); have n5_ := Aside0.mk (Kd.R_below (Mark.r HO319) hb); have n6_ := Aside0.mk (blk_below (g := gb306) (o := .cells #[.string t293, .string t294, .int .i64 t295, .slice Ao20 t296.length co20, .bool t299, .slice Ao21 t300.length co21, .slice Ao22 t303.length co22] 25 (0, 0)) (Mark.b BK306) hb); have n7_ := Aside0.mk (blk_below (g := gb320) (o := .cells #[.string t307, .string t308, .int .i64 t309, .slice Ao27 t310.length co27, .bool t313, .slice Ao28 t314.length co28, .slice Ao29 t317.length co29] 25 (0, 0)) (Mark.b BK320) hb); have n8_ := Aside0.mk (below_step Mark.h hb); clear HO298; clear HO302; clear HO305; clear HO312; clear HO316; clear HO319; clear BK306; clear BK320; clear HB; have HO298 := n0_; have HO302 := n1_; have HO305 := n2_; have HO312 := n3_; have HO316 := n4_; have HO319 := n5_; have BK306 := n6_; have BK320 := n7_; have HB := n8_; clear n0_ n1_ n2_ n3_ n4_ n5_ n6_ n7_ n8_; (try clear hb); (try clear hb2); (try clear hk); (try clear hi); have hcz35_0 : w34.cell? ⟨gb320, 0, none⟩ = some (.string t307) := (blk_cell BK320.out 0).trans rfl; have hcz35_1 : w34.cell? ⟨gb320, 1, none⟩ = some (.string t308) := (blk_cell BK320.out 1).trans rfl; have hcz35_2 : w34.cell? ⟨gb320, 2, none⟩ = some (.int .i64 t309) := (blk_cell BK320.out 2).trans rfl; have hcz35_3 : w34.cell? ⟨gb320, 3, none⟩ = some (.slice Ao27 t310.length co27) := (blk_cell BK320.out 3).trans rfl; have hcz35_4 : w34.cell? ⟨gb320, 4, none⟩ = some (.bool t313) := (blk_cell BK320.out 4).trans rfl; have hcz35_5 : w34.cell? ⟨gb320, 5, none⟩ = some (.slice Ao28 t314.length co28) := (blk_cell BK320.out 5).trans rfl; have hcz35_6 : w34.cell? ⟨gb320, 6, none⟩ = some (.slice Ao29 t317.length co29) := (blk_cell BK320.out 6).trans rfl; have hfz35_0 := blk_frozen BK320.out 0; have hfz35_1 := blk_frozen BK320.out 1; have hfz35_2 := blk_frozen BK320.out 2; have hfz35_3 := blk_frozen BK320.out 3; have hfz35_4 := blk_frozen BK320.out 4; have hfz35_5 := blk_frozen BK320.out 5; have hfz35_6 := blk_frozen BK320.out 6) | (go_at_call 12; (with_reducible refine (record_Size.calls k t307 t308 t309 _ _ t310 t313 _ _ t314 _ _ t317 t323 _ ?side1 ?side2 ?side3 ?side4 ?side5 ?side6 A11.out).mono ?_); (case side1 => repeat (first | exact (Kd.R_reads' HO312.out).2.2 | (with_reducible refine Kd.C_alloc ?_ _) | (with_reducible refine Kd.C_drewN ?_ _) | (with_reducible refine Kd.C_drew ?_))); (case side2 => exact (Kd.R_reads' HO312.out).2.1); (case side3 => repeat (first | exact (Kd.R_reads' HO316.out).2.2 | (with_reducible refine Kd.C_alloc ?_ _) | (with_reducible refine Kd.C_drewN ?_ _) | (with_reducible refine Kd.C_drew ?_))); (case side4 => exact (Kd.R_reads' HO316.out).2.1); (case side5 => repeat (first | exact (Kd.R_reads' HO319.out).2.2 | (with_reducible refine Kd.C_alloc ?_ _) | (with_reducible refine Kd.C_drewN ?_ _) | (with_reducible refine Kd.C_drew ?_))); (case side6 => exact (Kd.R_reads' HO319.out).2.1); rintro e w36 ⟨rfl, hb⟩; have n0_ := Aside0.mk (Kd.R_below (Mark.r HO298) hb); have n1_ := Aside0.mk (Kd.V_below (Mark.v HO302) hb); have n2_ := Aside0.mk (Kd.R_below (Mark.r HO305) hb); have n3_ := Aside0.mk (Kd.R_below (Mark.r HO312) hb); have n4_ := Aside0.mk (Kd.R_below (Mark.r HO316) hb); have n5_ := Aside0.mk (Kd.R_below (Mark.r HO319) hb); have n6_ := Aside0.mk (blk_below (g := gb306) (o := .cells #[.string t293, .string t294, .int .i64 t295, .slice Ao20 t296.length co20, .bool t299, .slice Ao21 t300.length co21, .slice Ao22 t303.length co22] 25 (0, 0)) (Mark.b BK306) hb); have n7_ := Aside0.mk (blk_below (g := gb320) (o := .cells #[.string t307, .string t308, .int .i64 t309, .slice Ao27 t310.length co27, .bool t313, .slice Ao28 t314.length co28, .slice Ao29 t317.length co29] 25 (0, 0)) (Mark.b BK320) hb); have n8_ := Aside0.mk (below_step Mark.h hb); clear HO298; clear HO302; clear HO305; clear HO312; clear HO316; clear HO319; clear BK306; clear BK320; clear HB; have HO298 := n0_; have HO302 := n1_; have HO305 := n2_; have HO312 := n3_; have HO316 := n4_; have HO319 := n5_; have BK306 := n6_; have BK320 := n7_; have HB := n8_; clear n0_ n1_ n2_ n3_ n4_ n5_ n6_ n7_ n8_; (try clear hb); (try clear hb2); (try clear hk); (try clear hi); have hcz37_0 : w36.cell? ⟨gb320, 0, none⟩ = some (.string t307) := (blk_cell BK320.out 0).trans rfl; have hcz37_1 : w36.cell? ⟨gb320, 1, none⟩ = some (.string t308) := (blk_cell BK320.out 1).trans rfl; have hcz37_2 : w36.cell? ⟨gb320, 2, none⟩ = some (.int .i64 t309) := (blk_cell BK320.out 2).trans rfl; have hcz37_3 : w36.cell? ⟨gb320, 3, none⟩ = some (.slice Ao27 t310.length co27) := (blk_cell BK320.out 3).trans rfl; have hcz37_4 : w36.cell? ⟨gb320, 4, none⟩ = some (.bool t313) := (blk_cell BK320.out 4).trans rfl; have hcz37_5 : w36.cell? ⟨gb320, 5, none⟩ = some (.slice Ao28 t314.length co28) := (blk_cell BK320.out 5).trans rfl; have hcz37_6 : w36.cell? ⟨gb320, 6, none⟩ = some (.slice Ao29 t317.length co29) := (blk_cell BK320.out 6).trans rfl; have hfz37_0 := blk_frozen BK320.out 0; have hfz37_1 := blk_frozen BK320.out 1; have hfz37_2 := blk_frozen BK320.out 2; have hfz37_3 := blk_frozen BK320.out 3; have hfz37_4 := blk_frozen BK320.out 4; have hfz37_5 := blk_frozen BK320.out 5; have hfz37_6 := blk_frozen BK320.out 6; have hcz38_0 : w36.cell? ⟨gb306, 0, none⟩ = some (.string t293) := (blk_cell BK306.out 0).trans rfl; have hcz38_1 : w36.cell? ⟨gb306, 1, none⟩ = some (.string t294) := (blk_cell BK306.out 1).trans rfl; have hcz38_2 : w36.cell? ⟨gb306, 2, none⟩ = some (.int .i64 t295) := (blk_cell BK306.out 2).trans rfl; have hcz38_3 : w36.cell? ⟨gb306, 3, none⟩ = some (.slice Ao20 t296.length co20) := (blk_cell BK306.out 3).trans rfl; have hcz38_4 : w36.cell? ⟨gb306, 4, none⟩ = some (.bool t299) := (blk_cell BK306.out 4).trans rfl; have hcz38_5 : w36.cell? ⟨gb306, 5, none⟩ = some (.slice Ao21 t300.length co21) := (blk_cell BK306.out 5).trans rfl; have hcz38_6 : w36.cell? ⟨gb306, 6, none⟩ = some (.slice Ao22 t303.length co22) := (blk_cell BK306.out 6).trans rfl; have hfz38_0 := blk_frozen BK306.out 0; have hfz38_1 := blk_frozen BK306.out 1; have hfz38_2 := blk_frozen BK306.out 2; have hfz38_3 := blk_frozen BK306.out 3; have hfz38_4 := blk_frozen BK306.out 4; have hfz38_5 := blk_frozen BK306.out 5; have hfz38_6 := blk_frozen BK306.out 6) | ((with_reducible refine gate_callee (f := 18) rfl ?_); refine goesL_ (some 49) rfl rfl Tryd.func18 (by kernel_rfl) rfl #[.agg #[.string t307, .string t308, .int .i64 t309, .slice Ao27 t310.length co27, .bool t313, .slice Ao28 t314.length co28, .slice Ao29 t317.length co29]] rfl (by (try simp only [List.map_toArray, List.map_cons, List.map_nil]); first | done | rfl | (simp only [List.length_drop, List.length_take]; rfl)) ?_; (with_reducible refine (record_Copy.calls t307 t308 t309 _ _ t310 t313 _ _ t314 _ _ t317 t324 t325 t326 t327 t330 t331 t334 _ ?side1 ?side2 ?side3 ?side4 ?side5 ?side6 A15.out).mono ?_); (case side1 => repeat (first | exact (Kd.R_reads' HO312.out).2.2 | (with_reducible refine Kd.C_alloc ?_ _) | (with_reducible refine Kd.C_drewN ?_ _) | (with_reducible refine Kd.C_drew ?_))); (case side2 => exact (Kd.R_reads' HO312.out).2.1); (case side3 => repeat (first | exact (Kd.R_reads' HO316.out).2.2 | (with_reducible refine Kd.C_alloc ?_ _) | (with_reducible refine Kd.C_drewN ?_ _) | (with_reducible refine Kd.C_drew ?_))); (case side4 => exact (Kd.R_reads' HO316.out).2.1); (case side5 => repeat (first | exact (Kd.R_reads' HO319.out).2.2 | (with_reducible refine Kd.C_alloc ?_ _) | (with_reducible refine Kd.C_drewN ?_ _) | (with_reducible refine Kd.C_drew ?_))); (case side6 => exact (Kd.R_reads' HO319.out).2.1); rintro e w39 ⟨v328, v332, v335, rfl, ho0, ho1, ho2, hb⟩; refine ⟨_, rfl, ?_⟩; have n0_ := Aside0.mk (Kd.R_mono (Kd.R_told (Kd.R_told (Kd.R_old (Mark.r HO298) hb) (Kd.R_base ho0)) (Kd.R_base ho2)) (fun _ h_ => h_.1)); have n1_ := Aside0.mk (Kd.V_mono (Kd.V_told (Kd.V_told (Kd.V_told (Kd.V_old (Mark.v HO302) hb) (Kd.R_base ho0)) (Kd.R_base ho1)) (Kd.R_base ho2)) (fun _ h_ => h_.1)); have n2_ := Aside0.mk (Kd.R_mono (Kd.R_told (Kd.R_told (Kd.R_old (Mark.r HO305) hb) (Kd.R_base ho0)) (Kd.R_base ho2)) (fun _ h_ => h_.1)); have n3_ := Aside0.mk (Kd.R_mono (Kd.R_told (Kd.R_told (Kd.R_old (Mark.r HO312) hb) (Kd.R_base ho0)) (Kd.R_base ho2)) (fun _ h_ => h_.1)); have n4_ := Aside0.mk (Kd.R_elder' (Mark.r HO316) (Kd.R_base ho1) hb); have n5_ := Aside0.mk (Kd.R_mono (Kd.R_told (Kd.R_told (Kd.R_old (Mark.r HO319) hb) (Kd.R_base ho0)) (Kd.R_base ho2)) (fun _ h_ => h_.1)); have n6_ := Aside0.mk (Kd.R_lower (Kd.R_new' (Kd.R_new' (Kd.R_new' (Kd.R_new' ho0 (Kd.R_lt (Mark.r HO298))) (Kd.R_lt (Mark.r HO305))) (Kd.R_lt (Mark.r HO312))) (Kd.R_lt (Mark.r HO319))) (below_size Mark.h)); have n7_ := Aside0.mk (Kd.R_lower (Kd.R_new' ho1 (Kd.R_lt (Mark.r HO316))) (below_size Mark.h)); have n8_ := Aside0.mk (Kd.R_lower (Kd.R_new' (Kd.R_new' (Kd.R_new' (Kd.R_new' ho2 (Kd.R_lt (Mark.r HO298))) (Kd.R_lt (Mark.r HO305))) (Kd.R_lt (Mark.r HO312))) (Kd.R_lt (Mark.r HO319))) (below_size Mark.h)); have n9_ := Aside0.mk (blk_below (g := gb306) (o := .cells #[.string t293, .string t294, .int .i64 t295, .slice Ao20 t296.length co20, .bool t299, .slice Ao21 t300.length co21, .slice Ao22 t303.length co22] 25 (0, 0)) (Mark.b BK306) hb); have n10_ := Aside0.mk (blk_below (g := gb320) (o := .cells #[.string t307, .string t308, .int .i64 t309, .slice Ao27 t310.length co27, .bool t313, .slice Ao28 t314.length co28, .slice Ao29 t317.length co29] 25 (0, 0)) (Mark.b BK320) hb); have n11_ := Aside0.mk (below_step Mark.h hb); clear HO298; clear HO302; clear HO305; clear HO312; clear HO316; clear HO319; clear BK306; clear BK320; clear HB; have HO298 := n0_; have HO302 := n1_; have HO305 := n2_; have HO312 := n3_; have HO316 := n4_; have HO319 := n5_; have HO329 := n6_; have HO333 := n7_; have HO336 := n8_; have BK306 := n9_; have BK320 := n10_; have HB := n11_; clear n0_ n1_ n2_ n3_ n4_ n5_ n6_ n7_ n8_ n9_ n10_ n11_; (try clear hb); (try clear hb2); (try clear hk); (try clear hi); (try clear ho0); (try clear ho1); (try clear ho2)) | ((with_reducible refine gate_dst (N := 6) rfl ?_); (try (refine gate_guard (by rfl) ?_; dsimp only)); refine box_event ?hg (N := 6) ?hd (cs := #[.string (⟨#[]⟩ : ByteArray), .string (⟨#[]⟩ : ByteArray), .int .i64 0, .slice none 0 0, .bool false, .slice none 0 0, .slice none 0 0]) (t := 25) ?hr ?_; (case hd => rfl); (case hg => rfl); (case hr => first | (go_simp; done) | (go_simp; rfl)); intro gb337 hg w40 hbox hb; have n0_ := Aside0.mk (Kd.R_below (Mark.r HO298) hb); have n1_ := Aside0.mk (Kd.V_below (Kd.V_elderB (Mark.v HO302) gb337 (Nat.le_of_eq hg.symm)) hb); have n2_ := Aside0.mk (Kd.R_below (Mark.r HO305) hb); have n3_ := Aside0.mk (Kd.R_below (Mark.r HO312) hb); have n4_ := Aside0.mk (Kd.R_below (Mark.r HO316) hb); have n5_ := Aside0.mk (Kd.R_below (Mark.r HO319) hb); have n6_ := Aside0.mk (Kd.R_below (Mark.r HO329) hb); have n7_ := Aside0.mk (Kd.R_below (Mark.r HO333) hb); have n8_ := Aside0.mk (Kd.R_below (Mark.r HO336) hb); have n9_ := Aside0.mk (blk_below (g := gb306) (o := .cells #[.string t293, .string t294, .int .i64 t295, .slice Ao20 t296.length co20, .bool t299, .slice Ao21 t300.length co21, .slice Ao22 t303.length co22] 25 (0, 0)) (Mark.b BK306) hb); have n10_ := Aside0.mk (blk_below (g := gb320) (o := .cells #[.string t307, .string t308, .int .i64 t309, .slice Ao27 t310.length co27, .bool t313, .slice Ao28 t314.length co28, .slice Ao29 t317.length co29] 25 (0, 0)) (Mark.b BK320) hb); have n11_ := Aside0.mk (below_step Mark.h hb); have n12_ := Aside0.mk (hbox); have n13_ := Aside0.mk ((by rw [hg]; exact (below_size Mark.h) : w.heap.size ≤ gb337)); have n14_ := Aside0.mk ((by rw [hg]; exact (below_size Mark.h) : w.heap.size ≤ gb337)); have n15_ := Aside0.mk ((by rw [hg]; exact Nat.ne_of_lt (blk_lt (g := gb306) (o := .cells #[.string t293, .string t294, .int .i64 t295, .slice Ao20 t296.length co20, .bool t299, .slice Ao21 t300.length co21, .slice Ao22 t303.length co22] 25 (0, 0)) (Mark.b BK306)) : gb306 ≠ gb337)); have n16_ := Aside0.mk ((by rw [hg]; exact Nat.ne_of_gt (blk_lt (g := gb306) (o := .cells #[.string t293, .string t294, .int .i64 t295, .slice Ao20 t296.length co20, .bool t299, .slice Ao21 t300.length co21, .slice Ao22 t303.length co22] 25 (0, 0)) (Mark.b BK306)) : gb337 ≠ gb306)); have n17_ := Aside0.mk ((by rw [hg]; exact Nat.ne_of_lt (blk_lt (g := gb320) (o := .cells #[.string t307, .string t308, .int .i64 t309, .slice Ao27 t310.length co27, .bool t313, .slice Ao28 t314.length co28, .slice Ao29 t317.length co29] 25 (0, 0)) (Mark.b BK320)) : gb320 ≠ gb337)); have n18_ := Aside0.mk ((by rw [hg]; exact Nat.ne_of_gt (blk_lt (g := gb320) (o := .cells #[.string t307, .string t308, .int .i64 t309, .slice Ao27 t310.length co27, .bool t313, .slice Ao28 t314.length co28, .slice Ao29 t317.length co29] 25 (0, 0)) (Mark.b BK320)) : gb337 ≠ gb320)); clear HO298; clear HO302; clear HO305; clear HO312; clear HO316; clear HO319; clear HO329; clear HO333; clear HO336; clear BK306; clear BK320; clear HB; have HO298 := n0_; have HO302 := n1_; have HO305 := n2_; have HO312 := n3_; have HO316 := n4_; have HO319 := n5_; have HO329 := n6_; have HO333 := n7_; have HO336 := n8_; have BK306 := n9_; have BK320 := n10_; have HB := n11_; have BK337 := n12_; have GW337 := n13_; have GE337 := n14_; have NB306_337 := n15_; have NB337_306 := n16_; have NB320_337 := n17_; have NB337_320 := n18_; clear n0_ n1_ n2_ n3_ n4_ n5_ n6_ n7_ n8_ n9_ n10_ n11_ n12_ n13_ n14_ n15_ n16_ n17_ n18_; clear hb hbox hg; have hnb41 := NB337_306.out; have hnc41 := NB306_337.out; have hnb42 := NB337_320.out; have hnc42 := NB320_337.out; have hcz43_0 : w40.cell? ⟨gb337, 0, none⟩ = some (.string (⟨#[]⟩ : ByteArray)) := (blk_cell BK337.out 0).trans rfl; have hcz43_1 : w40.cell? ⟨gb337, 1, none⟩ = some (.string (⟨#[]⟩ : ByteArray)) := (blk_cell BK337.out 1).trans rfl; have hcz43_2 : w40.cell? ⟨gb337, 2, none⟩ = some (.int .i64 0) := (blk_cell BK337.out 2).trans rfl; have hcz43_3 : w40.cell? ⟨gb337, 3, none⟩ = some (.slice none 0 0) := (blk_cell BK337.out 3).trans rfl; have hcz43_4 : w40.cell? ⟨gb337, 4, none⟩ = some (.bool false) := (blk_cell BK337.out 4).trans rfl; have hcz43_5 : w40.cell? ⟨gb337, 5, none⟩ = some (.slice none 0 0) := (blk_cell BK337.out 5).trans rfl; have hcz43_6 : w40.cell? ⟨gb337, 6, none⟩ = some (.slice none 0 0) := (blk_cell BK337.out 6).trans rfl; have hfz43_0 := blk_frozen BK337.out 0; have hfz43_1 := blk_frozen BK337.out 1; have hfz43_2 := blk_frozen BK337.out 2; have hfz43_3 := blk_frozen BK337.out 3; have hfz43_4 := blk_frozen BK337.out 4; have hfz43_5 := blk_frozen BK337.out 5; have hfz43_6 := blk_frozen BK337.out 6; obtain ⟨Ao44, co44, eo44⟩ := Kd.R_slice HO329.out; subst eo44; obtain ⟨Ao45, co45, eo45⟩ := Kd.R_slice HO333.out; subst eo45; obtain ⟨Ao46, co46, eo46⟩ := Kd.R_slice HO336.out; subst eo46) | (go_at_call 6; (with_reducible refine (parallaxlaw12_known.calls k  true _ rfl A2.out).mono ?_); rintro e w16 ⟨rfl, hb⟩; have n0_ := Aside0.mk (below_step Mark.h hb); clear HB; have HB := n0_; clear n0_; (try clear hb); (try clear hb2); (try clear hk); (try clear hi)) | (go_at_call 8; (with_reducible refine (parallaxseat_Neat.calls k _ _ l0 t293 t294 t295 t296 t299 t300 t303 _ ?side1 ?side2 A6.out).mono ?_); (case side1 => repeat (first | exact (Kd.C_below HR0.out HB.out) | (with_reducible refine Kd.C_alloc ?_ _) | (with_reducible refine Kd.C_drewN ?_ _) | (with_reducible refine Kd.C_drew ?_))); (case side2 => exact HC0.out); rintro e w17 ⟨v297, v301, v304, rfl, ho0, ho1, ho2, hb⟩; have n0_ := Aside0.mk (Kd.R_lower (Kd.R_mono (ok' := fun k_ => some k_ ≠ (v304 : Value).ownBlock) ho0 (fun _ hk_ => hk_.2)) (below_size Mark.h)); have n1_ := Aside0.mk (Kd.V_lower (Kd.V_mono (ok' := fun k_ => some k_ ≠ (v297 : Value).ownBlock ∧ some k_ ≠ (v304 : Value).ownBlock) ho1 (fun k_ hk_ => ⟨hk_.2.1, hk_.2.2⟩)) (below_size Mark.h)); have n2_ := Aside0.mk (Kd.R_lower (Kd.R_mono (ok' := fun k_ => some k_ ≠ (v297 : Value).ownBlock) ho2 (fun _ hk_ => hk_.2)) (below_size Mark.h)); have n3_ := Aside0.mk (below_step Mark.h hb); clear HB; have HO298 := n0_; have HO302 := n1_; have HO305 := n2_; have HB := n3_; clear n0_ n1_ n2_ n3_; (try clear hb); (try clear hb2); (try clear hk); (try clear hi); (try clear ho0); (try clear ho1); (try clear ho2)) | (go_at_call 18; (with_reducible refine (record_Copy.calls t293 t294 t295 _ _ t296 t299 _ _ t300 _ _ t303 t307 t308 t309 t310 t313 t314 t317 _ ?side1 ?side2 ?side3 ?side4 ?side5 ?side6 A7.out).mono ?_); (case side1 => refine (Kd.R_reads' (e := 31) (base := w.heap.size) (ok := fun k_ => some k_ ≠ (.slice Ao22 t303.length co22 : Value).ownBlock) (n := t296.length) (c := co20) ?_).2.2; exact (by (with_reducible repeat (first | apply Kd.R_alloc | apply Kd.R_drewN | apply Kd.R_drew)); exact (Kd.R_mono (Kd.R_far (p := ⟨gb306, 6, none⟩) (Kd.R_far (p := ⟨gb306, 5, none⟩) (Kd.R_far (p := ⟨gb306, 4, none⟩) (Kd.R_far (p := ⟨gb306, 3, none⟩) (Kd.R_far (p := ⟨gb306, 2, none⟩) (Kd.R_far (p := ⟨gb306, 1, none⟩) (Kd.R_far (p := ⟨gb306, 0, none⟩) (Kd.R_types HO298.out BK306.out (by decide)) Mark.K (.string t293)) Mark.K (.string t294)) Mark.K (.int .i64 t295)) Mark.K (.slice Ao20 t296.length co20)) Mark.K (.bool t299)) Mark.K (.slice Ao21 t300.length co21)) Mark.K (.slice Ao22 t303.length co22)) (fun _ h_ => h_.1)))); (case side2 => exact (Kd.R_reads' HO298.out).2.1); (case side3 => refine (Kd.V_reads' (e := 5) (base := w.heap.size) (ok := fun k_ => ((some k_ ≠ (.slice Ao20 t296.length co20 : Value).ownBlock ∧ some k_ ≠ (.slice Ao22 t303.length co22 : Value).ownBlock) ∧ k_ ≠ gb306)) (n := t300.length) (c := co21) ?_).2.2; exact (by (with_reducible repeat (first | apply Kd.V_alloc | apply Kd.V_drewN | apply Kd.V_drew)); exact (Kd.V_mono (Kd.V_far (p := ⟨gb306, 6, none⟩) (Kd.V_far (p := ⟨gb306, 5, none⟩) (Kd.V_far (p := ⟨gb306, 4, none⟩) (Kd.V_far (p := ⟨gb306, 3, none⟩) (Kd.V_far (p := ⟨gb306, 2, none⟩) (Kd.V_far (p := ⟨gb306, 1, none⟩) (Kd.V_far (p := ⟨gb306, 0, none⟩) (Kd.V_mono HO302.out (fun k_ hk => (⟨hk, hk.2⟩ : _ ∧ k_ ≠ gb306))) Mark.K (.string t293)) Mark.K (.string t294)) Mark.K (.int .i64 t295)) Mark.K (.slice Ao20 t296.length co20)) Mark.K (.bool t299)) Mark.K (.slice Ao21 t300.length co21)) Mark.K (.slice Ao22 t303.length co22)) (fun _ h_ => h_.1)))); (case side4 => exact (Kd.V_reads' HO302.out).2.1); (case side5 => refine (Kd.R_reads' (e := 31) (base := w.heap.size) (ok := fun k_ => some k_ ≠ (.slice Ao20 t296.length co20 : Value).ownBlock) (n := t303.length) (c := co22) ?_).2.2; exact (by (with_reducible repeat (first | apply Kd.R_alloc | apply Kd.R_drewN | apply Kd.R_drew)); exact (Kd.R_mono (Kd.R_far (p := ⟨gb306, 6, none⟩) (Kd.R_far (p := ⟨gb306, 5, none⟩) (Kd.R_far (p := ⟨gb306, 4, none⟩) (Kd.R_far (p := ⟨gb306, 3, none⟩) (Kd.R_far (p := ⟨gb306, 2, none⟩) (Kd.R_far (p := ⟨gb306, 1, none⟩) (Kd.R_far (p := ⟨gb306, 0, none⟩) (Kd.R_types HO305.out BK306.out (by decide)) Mark.K (.string t293)) Mark.K (.string t294)) Mark.K (.int .i64 t295)) Mark.K (.slice Ao20 t296.length co20)) Mark.K (.bool t299)) Mark.K (.slice Ao21 t300.length co21)) Mark.K (.slice Ao22 t303.length co22)) (fun _ h_ => h_.1)))); (case side6 => exact (Kd.R_reads' HO305.out).2.1); rintro e w23 ⟨v311, v315, v318, rfl, ho0, ho1, ho2, hb⟩; have n0_ := Aside0.mk (Kd.R_mono (Kd.R_told (Kd.R_told (Kd.R_old (by (with_reducible repeat (first | apply Kd.R_alloc | apply Kd.R_drewN | apply Kd.R_drew)); exact (Kd.R_mono (Kd.R_far (p := ⟨gb306, 6, none⟩) (Kd.R_far (p := ⟨gb306, 5, none⟩) (Kd.R_far (p := ⟨gb306, 4, none⟩) (Kd.R_far (p := ⟨gb306, 3, none⟩) (Kd.R_far (p := ⟨gb306, 2, none⟩) (Kd.R_far (p := ⟨gb306, 1, none⟩) (Kd.R_far (p := ⟨gb306, 0, none⟩) (Kd.R_types HO298.out BK306.out (by decide)) Mark.K (.string t293)) Mark.K (.string t294)) Mark.K (.int .i64 t295)) Mark.K (.slice Ao20 t296.length co20)) Mark.K (.bool t299)) Mark.K (.slice Ao21 t300.length co21)) Mark.K (.slice Ao22 t303.length co22)) (fun _ h_ => h_.1))) hb) (Kd.R_base ho0)) (Kd.R_base ho2)) (fun _ h_ => h_.1)); have n1_ := Aside0.mk (Kd.V_mono (Kd.V_told (Kd.V_told (Kd.V_told (Kd.V_old (by (with_reducible repeat (first | apply Kd.V_alloc | apply Kd.V_drewN | apply Kd.V_drew)); exact (Kd.V_mono (Kd.V_far (p := ⟨gb306, 6, none⟩) (Kd.V_far (p := ⟨gb306, 5, none⟩) (Kd.V_far (p := ⟨gb306, 4, none⟩) (Kd.V_far (p := ⟨gb306, 3, none⟩) (Kd.V_far (p := ⟨gb306, 2, none⟩) (Kd.V_far (p := ⟨gb306, 1, none⟩) (Kd.V_far (p := ⟨gb306, 0, none⟩) (Kd.V_mono HO302.out (fun k_ hk => (⟨hk, hk.2⟩ : _ ∧ k_ ≠ gb306))) Mark.K (.string t293)) Mark.K (.string t294)) Mark.K (.int .i64 t295)) Mark.K (.slice Ao20 t296.length co20)) Mark.K (.bool t299)) Mark.K (.slice Ao21 t300.length co21)) Mark.K (.slice Ao22 t303.length co22)) (fun _ h_ => h_.1))) hb) (Kd.R_base ho0)) (Kd.R_base ho1)) (Kd.R_base ho2)) (fun _ h_ => h_.1)); have n2_ := Aside0.mk (Kd.R_mono (Kd.R_told (Kd.R_told (Kd.R_old (by (with_reducible repeat (first | apply Kd.R_alloc | apply Kd.R_drewN | apply Kd.R_drew)); exact (Kd.R_mono (Kd.R_far (p := ⟨gb306, 6, none⟩) (Kd.R_far (p := ⟨gb306, 5, none⟩) (Kd.R_far (p := ⟨gb306, 4, none⟩) (Kd.R_far (p := ⟨gb306, 3, none⟩) (Kd.R_far (p := ⟨gb306, 2, none⟩) (Kd.R_far (p := ⟨gb306, 1, none⟩) (Kd.R_far (p := ⟨gb306, 0, none⟩) (Kd.R_types HO305.out BK306.out (by decide)) Mark.K (.string t293)) Mark.K (.string t294)) Mark.K (.int .i64 t295)) Mark.K (.slice Ao20 t296.length co20)) Mark.K (.bool t299)) Mark.K (.slice Ao21 t300.length co21)) Mark.K (.slice Ao22 t303.length co22)) (fun _ h_ => h_.1))) hb) (Kd.R_base ho0)) (Kd.R_base ho2)) (fun _ h_ => h_.1)); have n3_ := Aside0.mk (Kd.R_lower (Kd.R_new' (Kd.R_new' ho0 (Kd.R_lt (by (with_reducible repeat (first | apply Kd.R_alloc | apply Kd.R_drewN | apply Kd.R_drew)); exact (Kd.R_mono (Kd.R_far (p := ⟨gb306, 6, none⟩) (Kd.R_far (p := ⟨gb306, 5, none⟩) (Kd.R_far (p := ⟨gb306, 4, none⟩) (Kd.R_far (p := ⟨gb306, 3, none⟩) (Kd.R_far (p := ⟨gb306, 2, none⟩) (Kd.R_far (p := ⟨gb306, 1, none⟩) (Kd.R_far (p := ⟨gb306, 0, none⟩) (Kd.R_types HO298.out BK306.out (by decide)) Mark.K (.string t293)) Mark.K (.string t294)) Mark.K (.int .i64 t295)) Mark.K (.slice Ao20 t296.length co20)) Mark.K (.bool t299)) Mark.K (.slice Ao21 t300.length co21)) Mark.K (.slice Ao22 t303.length co22)) (fun _ h_ => h_.1))))) (Kd.R_lt (by (with_reducible repeat (first | apply Kd.R_alloc | apply Kd.R_drewN | apply Kd.R_drew)); exact (Kd.R_mono (Kd.R_far (p := ⟨gb306, 6, none⟩) (Kd.R_far (p := ⟨gb306, 5, none⟩) (Kd.R_far (p := ⟨gb306, 4, none⟩) (Kd.R_far (p := ⟨gb306, 3, none⟩) (Kd.R_far (p := ⟨gb306, 2, none⟩) (Kd.R_far (p := ⟨gb306, 1, none⟩) (Kd.R_far (p := ⟨gb306, 0, none⟩) (Kd.R_types HO305.out BK306.out (by decide)) Mark.K (.string t293)) Mark.K (.string t294)) Mark.K (.int .i64 t295)) Mark.K (.slice Ao20 t296.length co20)) Mark.K (.bool t299)) Mark.K (.slice Ao21 t300.length co21)) Mark.K (.slice Ao22 t303.length co22)) (fun _ h_ => h_.1))))) (below_size Mark.h)); have n4_ := Aside0.mk (Kd.R_lower ho1 (below_size Mark.h)); have n5_ := Aside0.mk (Kd.R_lower (Kd.R_new' (Kd.R_new' ho2 (Kd.R_lt (by (with_reducible repeat (first | apply Kd.R_alloc | apply Kd.R_drewN | apply Kd.R_drew)); exact (Kd.R_mono (Kd.R_far (p := ⟨gb306, 6, none⟩) (Kd.R_far (p := ⟨gb306, 5, none⟩) (Kd.R_far (p := ⟨gb306, 4, none⟩) (Kd.R_far (p := ⟨gb306, 3, none⟩) (Kd.R_far (p := ⟨gb306, 2, none⟩) (Kd.R_far (p := ⟨gb306, 1, none⟩) (Kd.R_far (p := ⟨gb306, 0, none⟩) (Kd.R_types HO298.out BK306.out (by decide)) Mark.K (.string t293)) Mark.K (.string t294)) Mark.K (.int .i64 t295)) Mark.K (.slice Ao20 t296.length co20)) Mark.K (.bool t299)) Mark.K (.slice Ao21 t300.length co21)) Mark.K (.slice Ao22 t303.length co22)) (fun _ h_ => h_.1))))) (Kd.R_lt (by (with_reducible repeat (first | apply Kd.R_alloc | apply Kd.R_drewN | apply Kd.R_drew)); exact (Kd.R_mono (Kd.R_far (p := ⟨gb306, 6, none⟩) (Kd.R_far (p := ⟨gb306, 5, none⟩) (Kd.R_far (p := ⟨gb306, 4, none⟩) (Kd.R_far (p := ⟨gb306, 3, none⟩) (Kd.R_far (p := ⟨gb306, 2, none⟩) (Kd.R_far (p := ⟨gb306, 1, none⟩) (Kd.R_far (p := ⟨gb306, 0, none⟩) (Kd.R_types HO305.out BK306.out (by decide)) Mark.K (.string t293)) Mark.K (.string t294)) Mark.K (.int .i64 t295)) Mark.K (.slice Ao20 t296.length co20)) Mark.K (.bool t299)) Mark.K (.slice Ao21 t300.length co21)) Mark.K (.slice Ao22 t303.length co22)) (fun _ h_ => h_.1))))) (below_size Mark.h)); have n6_ := Aside0.mk (blk_below (g := gb306) (o := .cells #[.string t293, .string t294, .int .i64 t295, .slice Ao20 t296.length co20, .bool t299, .slice Ao21 t300.length co21, .slice Ao22 t303.length co22] 25 (0, 0)) (by (with_reducible repeat (first | refine blk_drewN ?_ _ | refine blk_drew ?_ | refine blk_alloc ?_ _)); refine blk_put (cs := #[.string t293, .string t294, .int .i64 t295, .slice Ao20 t296.length co20, .bool t299, .slice Ao21 t300.length co21, .slice none 0 0]) ?_ 6 _ rfl; (with_reducible repeat (first | refine blk_drewN ?_ _ | refine blk_drew ?_ | refine blk_alloc ?_ _)); refine blk_put (cs := #[.string t293, .string t294, .int .i64 t295, .slice Ao20 t296.length co20, .bool t299, .slice none 0 0, .slice none 0 0]) ?_ 5 _ rfl; (with_reducible repeat (first | refine blk_drewN ?_ _ | refine blk_drew ?_ | refine blk_alloc ?_ _)); refine blk_put (cs := #[.string t293, .string t294, .int .i64 t295, .slice Ao20 t296.length co20, .bool false, .slice none 0 0, .slice none 0 0]) ?_ 4 _ rfl; (with_reducible repeat (first | refine blk_drewN ?_ _ | refine blk_drew ?_ | refine blk_alloc ?_ _)); refine blk_put (cs := #[.string t293, .string t294, .int .i64 t295, .slice none 0 0, .bool false, .slice none 0 0, .slice none 0 0]) ?_ 3 _ rfl; (with_reducible repeat (first | refine blk_drewN ?_ _ | refine blk_drew ?_ | refine blk_alloc ?_ _)); refine blk_put (cs := #[.string t293, .string t294, .int .i64 0, .slice none 0 0, .bool false, .slice none 0 0, .slice none 0 0]) ?_ 2 _ rfl; (with_reducible repeat (first | refine blk_drewN ?_ _ | refine blk_drew ?_ | refine blk_alloc ?_ _)); refine blk_put (cs := #[.string t293, .string (⟨#[]⟩ : ByteArray), .int .i64 0, .slice none 0 0, .bool false, .slice none 0 0, .slice none 0 0]) ?_ 1 _ rfl; (with_reducible repeat (first | refine blk_drewN ?_ _ | refine blk_drew ?_ | refine blk_alloc ?_ _)); refine blk_put (cs := #[.string (⟨#[]⟩ : ByteArray), .string (⟨#[]⟩ : ByteArray), .int .i64 0, .slice none 0 0, .bool false, .slice none 0 0, .slice none 0 0]) ?_ 0 _ rfl; (with_reducible repeat (first | refine blk_drewN ?_ _ | refine blk_drew ?_ | refine blk_alloc ?_ _)); exact BK306.out) hb); have n7_ := Aside0.mk (below_step Mark.h hb); clear HO298; clear HO302; clear HO305; clear BK306; clear HB; have HO298 := n0_; have HO302 := n1_; have HO305 := n2_; have HO312 := n3_; have HO316 := n4_; have HO319 := n5_; have BK306 := n6_; have HB := n7_; clear n0_ n1_ n2_ n3_ n4_ n5_ n6_ n7_; (try clear hb); (try clear hb2); (try clear hk); (try clear hi); (try clear ho0); (try clear ho1); (try clear ho2)) | (go_at_call 12; (with_reducible refine (record_Size.calls k t293 t294 t295 _ _ t296 t299 _ _ t300 _ _ t303 t321 _ ?side1 ?side2 ?side3 ?side4 ?side5 ?side6 A8.out).mono ?_); (case side1 => refine (Kd.R_reads' (e := 31) (base := w.heap.size) (ok := fun k_ => ((some k_ ≠ (.slice Ao22 t303.length co22 : Value).ownBlock ∧ some k_ ≠ (.slice Ao27 t310.length co27 : Value).ownBlock) ∧ some k_ ≠ (.slice Ao29 t317.length co29 : Value).ownBlock)) (n := t296.length) (c := co20) ?_).2.2; exact (by (with_reducible repeat (first | apply Kd.R_alloc | apply Kd.R_drewN | apply Kd.R_drew)); exact (Kd.R_mono (Kd.R_far (p := ⟨gb320, 6, none⟩) (Kd.R_far (p := ⟨gb320, 5, none⟩) (Kd.R_far (p := ⟨gb320, 4, none⟩) (Kd.R_far (p := ⟨gb320, 3, none⟩) (Kd.R_far (p := ⟨gb320, 2, none⟩) (Kd.R_far (p := ⟨gb320, 1, none⟩) (Kd.R_far (p := ⟨gb320, 0, none⟩) (Kd.R_types HO298.out BK320.out (by decide)) Mark.K (.string t307)) Mark.K (.string t308)) Mark.K (.int .i64 t309)) Mark.K (.slice Ao27 t310.length co27)) Mark.K (.bool t313)) Mark.K (.slice Ao28 t314.length co28)) Mark.K (.slice Ao29 t317.length co29)) (fun _ h_ => h_.1)))); (case side2 => exact (Kd.R_reads' HO298.out).2.1); (case side3 => refine (Kd.V_reads' (e := 5) (base := w.heap.size) (ok := fun k_ => ((((((some k_ ≠ (.slice Ao20 t296.length co20 : Value).ownBlock ∧ some k_ ≠ (.slice Ao22 t303.length co22 : Value).ownBlock) ∧ k_ ≠ gb306) ∧ some k_ ≠ (.slice Ao27 t310.length co27 : Value).ownBlock) ∧ some k_ ≠ (.slice Ao28 t314.length co28 : Value).ownBlock) ∧ some k_ ≠ (.slice Ao29 t317.length co29 : Value).ownBlock) ∧ k_ ≠ gb320)) (n := t300.length) (c := co21) ?_).2.2; exact (by (with_reducible repeat (first | apply Kd.V_alloc | apply Kd.V_drewN | apply Kd.V_drew)); exact (Kd.V_mono (Kd.V_far (p := ⟨gb320, 6, none⟩) (Kd.V_far (p := ⟨gb320, 5, none⟩) (Kd.V_far (p := ⟨gb320, 4, none⟩) (Kd.V_far (p := ⟨gb320, 3, none⟩) (Kd.V_far (p := ⟨gb320, 2, none⟩) (Kd.V_far (p := ⟨gb320, 1, none⟩) (Kd.V_far (p := ⟨gb320, 0, none⟩) (Kd.V_mono HO302.out (fun k_ hk => (⟨hk, hk.2⟩ : _ ∧ k_ ≠ gb320))) Mark.K (.string t307)) Mark.K (.string t308)) Mark.K (.int .i64 t309)) Mark.K (.slice Ao27 t310.length co27)) Mark.K (.bool t313)) Mark.K (.slice Ao28 t314.length co28)) Mark.K (.slice Ao29 t317.length co29)) (fun _ h_ => h_.1)))); (case side4 => exact (Kd.V_reads' HO302.out).2.1); (case side5 => refine (Kd.R_reads' (e := 31) (base := w.heap.size) (ok := fun k_ => ((some k_ ≠ (.slice Ao20 t296.length co20 : Value).ownBlock ∧ some k_ ≠ (.slice Ao27 t310.length co27 : Value).ownBlock) ∧ some k_ ≠ (.slice Ao29 t317.length co29 : Value).ownBlock)) (n := t303.length) (c := co22) ?_).2.2; exact (by (with_reducible repeat (first | apply Kd.R_alloc | apply Kd.R_drewN | apply Kd.R_drew)); exact (Kd.R_mono (Kd.R_far (p := ⟨gb320, 6, none⟩) (Kd.R_far (p := ⟨gb320, 5, none⟩) (Kd.R_far (p := ⟨gb320, 4, none⟩) (Kd.R_far (p := ⟨gb320, 3, none⟩) (Kd.R_far (p := ⟨gb320, 2, none⟩) (Kd.R_far (p := ⟨gb320, 1, none⟩) (Kd.R_far (p := ⟨gb320, 0, none⟩) (Kd.R_types HO305.out BK320.out (by decide)) Mark.K (.string t307)) Mark.K (.string t308)) Mark.K (.int .i64 t309)) Mark.K (.slice Ao27 t310.length co27)) Mark.K (.bool t313)) Mark.K (.slice Ao28 t314.length co28)) Mark.K (.slice Ao29 t317.length co29)) (fun _ h_ => h_.1)))); (case side6 => exact (Kd.R_reads' HO305.out).2.1); rintro e w31 ⟨rfl, hb⟩; have n0_ := Aside0.mk (Kd.R_below (by (with_reducible repeat (first | apply Kd.R_alloc | apply Kd.R_drewN | apply Kd.R_drew)); exact (Kd.R_mono (Kd.R_far (p := ⟨gb320, 6, none⟩) (Kd.R_far (p := ⟨gb320, 5, none⟩) (Kd.R_far (p := ⟨gb320, 4, none⟩) (Kd.R_far (p := ⟨gb320, 3, none⟩) (Kd.R_far (p := ⟨gb320, 2, none⟩) (Kd.R_far (p := ⟨gb320, 1, none⟩) (Kd.R_far (p := ⟨gb320, 0, none⟩) (Kd.R_types HO298.out BK320.out (by decide)) Mark.K (.string t307)) Mark.K (.string t308)) Mark.K (.int .i64 t309)) Mark.K (.slice Ao27 t310.length co27)) Mark.K (.bool t313)) Mark.K (.slice Ao28 t314.length co28)) Mark.K (.slice Ao29 t317.length co29)) (fun _ h_ => h_.1))) hb); have n1_ := Aside0.mk (Kd.V_below (by (with_reducible repeat (first | apply Kd.V_alloc | apply Kd.V_drewN | apply Kd.V_drew)); exact (Kd.V_mono (Kd.V_far (p := ⟨gb320, 6, none⟩) (Kd.V_far (p := ⟨gb320, 5, none⟩) (Kd.V_far (p := ⟨gb320, 4, none⟩) (Kd.V_far (p := ⟨gb320, 3, none⟩) (Kd.V_far (p := ⟨gb320, 2, none⟩) (Kd.V_far (p := ⟨gb320, 1, none⟩) (Kd.V_far (p := ⟨gb320, 0, none⟩) (Kd.V_mono HO302.out (fun k_ hk => (⟨hk, hk.2⟩ : _ ∧ k_ ≠ gb320))) Mark.K (.string t307)) Mark.K (.string t308)) Mark.K (.int .i64 t309)) Mark.K (.slice Ao27 t310.length co27)) Mark.K (.bool t313)) Mark.K (.slice Ao28 t314.length co28)) Mark.K (.slice Ao29 t317.length co29)) (fun _ h_ => h_.1))) hb); have n2_ := Aside0.mk (Kd.R_below (by (with_reducible repeat (first | apply Kd.R_alloc | apply Kd.R_drewN | apply Kd.R_drew)); exact (Kd.R_mono (Kd.R_far (p := ⟨gb320, 6, none⟩) (Kd.R_far (p := ⟨gb320, 5, none⟩) (Kd.R_far (p := ⟨gb320, 4, none⟩) (Kd.R_far (p := ⟨gb320, 3, none⟩) (Kd.R_far (p := ⟨gb320, 2, none⟩) (Kd.R_far (p := ⟨gb320, 1, none⟩) (Kd.R_far (p := ⟨gb320, 0, none⟩) (Kd.R_types HO305.out BK320.out (by decide)) Mark.K (.string t307)) Mark.K (.string t308)) Mark.K (.int .i64 t309)) Mark.K (.slice Ao27 t310.length co27)) Mark.K (.bool t313)) Mark.K (.slice Ao28 t314.length co28)) Mark.K (.slice Ao29 t317.length co29)) (fun _ h_ => h_.1))) hb); have n3_ := Aside0.mk (Kd.R_below (by (with_reducible repeat (first | apply Kd.R_alloc | apply Kd.R_drewN | apply Kd.R_drew)); exact (Kd.R_mono (Kd.R_far (p := ⟨gb320, 6, none⟩) (Kd.R_far (p := ⟨gb320, 5, none⟩) (Kd.R_far (p := ⟨gb320, 4, none⟩) (Kd.R_far (p := ⟨gb320, 3, none⟩) (Kd.R_far (p := ⟨gb320, 2, none⟩) (Kd.R_far (p := ⟨gb320, 1, none⟩) (Kd.R_far (p := ⟨gb320, 0, none⟩) (Kd.R_types HO312.out BK320.out (by decide)) Mark.K (.string t307)) Mark.K (.string t308)) Mark.K (.int .i64 t309)) Mark.K (.slice Ao27 t310.length co27)) Mark.K (.bool t313)) Mark.K (.slice Ao28 t314.length co28)) Mark.K (.slice Ao29 t317.length co29)) (fun _ h_ => h_.1))) hb); have n4_ := Aside0.mk (Kd.R_below (by (with_reducible repeat (first | apply Kd.R_alloc | apply Kd.R_drewN | apply Kd.R_drew)); exact (Kd.R_mono (Kd.R_far (p := ⟨gb320, 6, none⟩) (Kd.R_far (p := ⟨gb320, 5, none⟩) (Kd.R_far (p := ⟨gb320, 4, none⟩) (Kd.R_far (p := ⟨gb320, 3, none⟩) (Kd.R_far (p := ⟨gb320, 2, none⟩) (Kd.R_far (p := ⟨gb320, 1, none⟩) (Kd.R_far (p := ⟨gb320, 0, none⟩) (Kd.R_types HO316.out BK320.out (by decide)) Mark.K (.string t307)) Mark.K (.string t308)) Mark.K (.int .i64 t309)) Mark.K (.slice Ao27 t310.length co27)) Mark.K (.bool t313)) Mark.K (.slice Ao28 t314.length co28)) Mark.K (.slice Ao29 t317.length co29)) (fun _ h_ => h_.1))) hb); have n5_ := Aside0.mk (Kd.R_below (by (with_reducible repeat (first | apply Kd.R_alloc | apply Kd.R_drewN | apply Kd.R_drew)); exact (Kd.R_mono (Kd.R_far (p := ⟨gb320, 6, none⟩) (Kd.R_far (p := ⟨gb320, 5, none⟩) (Kd.R_far (p := ⟨gb320, 4, none⟩) (Kd.R_far (p := ⟨gb320, 3, none⟩) (Kd.R_far (p := ⟨gb320, 2, none⟩) (Kd.R_far (p := ⟨gb320, 1, none⟩) (Kd.R_far (p := ⟨gb320, 0, none⟩) (Kd.R_types HO319.out BK320.out (by decide)) Mark.K (.string t307)) Mark.K (.string t308)) Mark.K (.int .i64 t309)) Mark.K (.slice Ao27 t310.length co27)) Mark.K (.bool t313)) Mark.K (.slice Ao28 t314.length co28)) Mark.K (.slice Ao29 t317.length co29)) (fun _ h_ => h_.1))) hb); have n6_ := Aside0.mk (blk_below (g := gb306) (o := .cells #[.string t293, .string t294, .int .i64 t295, .slice Ao20 t296.length co20, .bool t299, .slice Ao21 t300.length co21, .slice Ao22 t303.length co22] 25 (0, 0)) (by (repeat ((with_reducible repeat (first | refine blk_drewN ?_ _ | refine blk_drew ?_ | refine blk_alloc ?_ _)); refine blk_far ?_ NB306_320.out _)); (with_reducible repeat (first | refine blk_drewN ?_ _ | refine blk_drew ?_ | refine blk_alloc ?_ _)); exact BK306.out) hb); have n7_ := Aside0.mk (blk_below (g := gb320) (o := .cells #[.string t307, .string t308, .int .i64 t309, .slice Ao27 t310.length co27, .bool t313, .slice Ao28 t314.length co28, .slice Ao29 t317.length co29] 25 (0, 0)) (by (with_reducible repeat (first | refine blk_drewN ?_ _ | refine blk_drew ?_ | refine blk_alloc ?_ _)); refine blk_put (cs := #[.string t307, .string t308, .int .i64 t309, .slice Ao27 t310.length co27, .bool t313, .slice Ao28 t314.length co28, .slice none 0 0]) ?_ 6 _ rfl; (with_reducible repeat (first | refine blk_drewN ?_ _ | refine blk_drew ?_ | refine blk_alloc ?_ _)); refine blk_put (cs := #[.string t307, .string t308, .int .i64 t309, .slice Ao27 t310.length co27, .bool t313, .slice none 0 0, .slice none 0 0]) ?_ 5 _ rfl; (with_reducible repeat (first | refine blk_drewN ?_ _ | refine blk_drew ?_ | refine blk_alloc ?_ _)); refine blk_put (cs := #[.string t307, .string t308, .int .i64 t309, .slice Ao27 t310.length co27, .bool false, .slice none 0 0, .slice none 0 0]) ?_ 4 _ rfl; (with_reducible repeat (first | refine blk_drewN ?_ _ | refine blk_drew ?_ | refine blk_alloc ?_ _)); refine blk_put (cs := #[.string t307, .string t308, .int .i64 t309, .slice none 0 0, .bool false, .slice none 0 0, .slice none 0 0]) ?_ 3 _ rfl; (with_reducible repeat (first | refine blk_drewN ?_ _ | refine blk_drew ?_ | refine blk_alloc ?_ _)); refine blk_put (cs := #[.string t307, .string t308, .int .i64 0, .slice none 0 0, .bool false, .slice none 0 0, .slice none 0 0]) ?_ 2 _ rfl; (with_reducible repeat (first | refine blk_drewN ?_ _ | refine blk_drew ?_ | refine blk_alloc ?_ _)); refine blk_put (cs := #[.string t307, .string (⟨#[]⟩ : ByteArray), .int .i64 0, .slice none 0 0, .bool false, .slice none 0 0, .slice none 0 0]) ?_ 1 _ rfl; (with_reducible repeat (first | refine blk_drewN ?_ _ | refine blk_drew ?_ | refine blk_alloc ?_ _)); refine blk_put (cs := #[.string (⟨#[]⟩ : ByteArray), .string (⟨#[]⟩ : ByteArray), .int .i64 0, .slice none 0 0, .bool false, .slice none 0 0, .slice none 0 0]) ?_ 0 _ rfl; (with_reducible repeat (first | refine blk_drewN ?_ _ | refine blk_drew ?_ | refine blk_alloc ?_ _)); exact BK320.out) hb); have n8_ := Aside0.mk (below_step Mark.h hb); clear HO298; clear HO302; clear HO305; clear HO312; clear HO316; clear HO319; clear BK306; clear BK320; clear HB; have HO298 := n0_; have HO302 := n1_; have HO305 := n2_; have HO312 := n3_; have HO316 := n4_; have HO319 := n5_; have BK306 := n6_; have BK320 := n7_; have HB := n8_; clear n0_ n1_ n2_ n3_ n4_ n5_ n6_ n7_ n8_; (try clear hb); (try clear hb2); (try clear hk); (try clear hi); have hcz32_0 : w31.cell? ⟨gb320, 0, none⟩ = some (.string t307) := (blk_cell BK320.out 0).trans rfl; have hcz32_1 : w31.cell? ⟨gb320, 1, none⟩ = some (.string t308) := (blk_cell BK320.out 1).trans rfl; have hcz32_2 : w31.cell? ⟨gb320, 2, none⟩ = some (.int .i64 t309) := (blk_cell BK320.out 2).trans rfl; have hcz32_3 : w31.cell? ⟨gb320, 3, none⟩ = some (.slice Ao27 t310.length co27) := (blk_cell BK320.out 3).trans rfl; have hcz32_4 : w31.cell? ⟨gb320, 4, none⟩ = some (.bool t313) := (blk_cell BK320.out 4).trans rfl; have hcz32_5 : w31.cell? ⟨gb320, 5, none⟩ = some (.slice Ao28 t314.length co28) := (blk_cell BK320.out 5).trans rfl; have hcz32_6 : w31.cell? ⟨gb320, 6, none⟩ = some (.slice Ao29 t317.length co29) := (blk_cell BK320.out 6).trans rfl; have hfz32_0 := blk_frozen BK320.out 0; have hfz32_1 := blk_frozen BK320.out 1; have hfz32_2 := blk_frozen BK320.out 2; have hfz32_3 := blk_frozen BK320.out 3; have hfz32_4 := blk_frozen BK320.out 4; have hfz32_5 := blk_frozen BK320.out 5; have hfz32_6 := blk_frozen BK320.out 6; have hcz33_0 : w31.cell? ⟨gb306, 0, none⟩ = some (.string t293) := (blk_cell BK306.out 0).trans rfl; have hcz33_1 : w31.cell? ⟨gb306, 1, none⟩ = some (.string t294) := (blk_cell BK306.out 1).trans rfl; have hcz33_2 : w31.cell? ⟨gb306, 2, none⟩ = some (.int .i64 t295) := (blk_cell BK306.out 2).trans rfl; have hcz33_3 : w31.cell? ⟨gb306, 3, none⟩ = some (.slice Ao20 t296.length co20) := (blk_cell BK306.out 3).trans rfl; have hcz33_4 : w31.cell? ⟨gb306, 4, none⟩ = some (.bool t299) := (blk_cell BK306.out 4).trans rfl; have hcz33_5 : w31.cell? ⟨gb306, 5, none⟩ = some (.slice Ao21 t300.length co21) := (blk_cell BK306.out 5).trans rfl; have hcz33_6 : w31.cell? ⟨gb306, 6, none⟩ = some (.slice Ao22 t303.length co22) := (blk_cell BK306.out 6).trans rfl; have hfz33_0 := blk_frozen BK306.out 0; have hfz33_1 := blk_frozen BK306.out 1; have hfz33_2 := blk_frozen BK306.out 2; have hfz33_3 := blk_frozen BK306.out 3; have hfz33_4 := blk_frozen BK306.out 4; have hfz33_5 := blk_frozen BK306.out 5; have hfz33_6 := blk_frozen BK306.out 6) | (go_at_call 10; (with_reducible refine (record_Same.calls k t307 t308 t309 _ _ t310 t313 _ _ t314 _ _ t317 t293 t294 t295 _ _ t296 t299 _ _ t300 _ _ t303 true _ ?side1 ?side2 ?side3 ?side4 ?side5 ?side6 ?side7 ?side8 ?side9 ?side10 ?side11 ?side12 A9.out).mono ?_); (case side1 => repeat (first | exact (Kd.R_reads' HO312.out).2.2 | (with_reducible refine Kd.C_alloc ?_ _) | (with_reducible refine Kd.C_drewN ?_ _) | (with_reducible refine Kd.C_drew ?_))); (case side2 => exact (Kd.R_reads' HO312.out).2.1); (case side3 => repeat (first | exact (Kd.R_reads' HO316.out).2.2 | (with_reducible refine Kd.C_alloc ?_ _) | (with_reducible refine Kd.C_drewN ?_ _) | (with_reducible refine Kd.C_drew ?_))); (case side4 => exact (Kd.R_reads' HO316.out).2.1); (case side5 => repeat (first | exact (Kd.R_reads' HO319.out).2.2 | (with_reducible refine Kd.C_alloc ?_ _) | (with_reducible refine Kd.C_drewN ?_ _) | (with_reducible refine Kd.C_drew ?_))); (case side6 => exact (Kd.R_reads' HO319.out).2.1); (case side7 => repeat (first | exact (Kd.R_reads' HO298.out).2.2 | (with_reducible refine Kd.C_alloc ?_ _) | (with_reducible refine Kd.C_drewN ?_ _) | (with_reducible refine Kd.C_drew ?_))); (case side8 => exact (Kd.R_reads' HO298.out).2.1); (case side9 => repeat (first | exact (Kd.V_reads' HO302.out).2.2 | (with_reducible refine Kd.C_alloc ?_ _) | (with_reducible refine Kd.C_drewN ?_ _) | (with_reducible refine Kd.C_drew ?_))); (case side10 => exact (Kd.V_reads' HO302.out).2.1); (case side11 => repeat (first | exact (Kd.R_reads' HO305.out).2.2 | (with_reducible refine Kd.C_alloc ?_ _) | (with_reducible refine Kd.C_drewN ?_ _) | (with_reducible refine Kd.C_drew ?_))); (case side12 => exact (Kd.R_reads' HO305.out).2.1); rintro e w34 ⟨rfl, hb⟩; have n0_ := Aside0.mk (Kd.R_below (Mark.r HO298) hb); have n1_ := Aside0.mk (Kd.V_below (Mark.v HO302) hb); have n2_ := Aside0.mk (Kd.R_below (Mark.r HO305) hb); have n3_ := Aside0.mk (Kd.R_below (Mark.r HO312) hb); have n4_ := Aside0.mk (Kd.R_below (Mark.r HO316) hb); have n5_ := Aside0.mk (Kd.R_below (Mark.r HO319) hb); have n6_ := Aside0.mk (blk_below (g := gb306) (o := .cells #[.string t293, .string t294, .int .i64 t295, .slice Ao20 t296.length co20, .bool t299, .slice Ao21 t300.length co21, .slice Ao22 t303.length co22] 25 (0, 0)) (Mark.b BK306) hb); have n7_ := Aside0.mk (blk_below (g := gb320) (o := .cells #[.string t307, .string t308, .int .i64 t309, .slice Ao27 t310.length co27, .bool t313, .slice Ao28 t314.length co28, .slice Ao29 t317.length co29] 25 (0, 0)) (Mark.b BK320) hb); have n8_ := Aside0.mk (below_step Mark.h hb); clear HO298; clear HO302; clear HO305; clear HO312; clear HO316; clear HO319; clear BK306; clear BK320; clear HB; have HO298 := n0_; have HO302 := n1_; have HO305 := n2_; have HO312 := n3_; have HO316 := n4_; have HO319 := n5_; have BK306 := n6_; have BK320 := n7_; have HB := n8_; clear n0_ n1_ n2_ n3_ n4_ n5_ n6_ n7_ n8_; (try clear hb); (try clear hb2); (try clear hk); (try clear hi); have hcz35_0 : w34.cell? ⟨gb320, 0, none⟩ = some (.string t307) := (blk_cell BK320.out 0).trans rfl; have hcz35_1 : w34.cell? ⟨gb320, 1, none⟩ = some (.string t308) := (blk_cell BK320.out 1).trans rfl; have hcz35_2 : w34.cell? ⟨gb320, 2, none⟩ = some (.int .i64 t309) := (blk_cell BK320.out 2).trans rfl; have hcz35_3 : w34.cell? ⟨gb320, 3, none⟩ = some (.slice Ao27 t310.length co27) := (blk_cell BK320.out 3).trans rfl; have hcz35_4 : w34.cell? ⟨gb320, 4, none⟩ = some (.bool t313) := (blk_cell BK320.out 4).trans rfl; have hcz35_5 : w34.cell? ⟨gb320, 5, none⟩ = some (.slice Ao28 t314.length co28) := (blk_cell BK320.out 5).trans rfl; have hcz35_6 : w34.cell? ⟨gb320, 6, none⟩ = some (.slice Ao29 t317.length co29) := (blk_cell BK320.out 6).trans rfl; have hfz35_0 := blk_frozen BK320.out 0; have hfz35_1 := blk_frozen BK320.out 1; have hfz35_2 := blk_frozen BK320.out 2; have hfz35_3 := blk_frozen BK320.out 3; have hfz35_4 := blk_frozen BK320.out 4; have hfz35_5 := blk_frozen BK320.out 5; have hfz35_6 := blk_frozen BK320.out 6) | (go_at_call 18; (with_reducible refine (record_Copy.calls t307 t308 t309 _ _ t310 t313 _ _ t314 _ _ t317 t324 t325 t326 t327 t330 t331 t334 _ ?side1 ?side2 ?side3 ?side4 ?side5 ?side6 A15.out).mono ?_); (case side1 => repeat (first | exact (Kd.R_reads' HO312.out).2.2 | (with_reducible refine Kd.C_alloc ?_ _) | (with_reducible refine Kd.C_drewN ?_ _) | (with_reducible refine Kd.C_drew ?_))); (case side2 => exact (Kd.R_reads' HO312.out).2.1); (case side3 => repeat (first | exact (Kd.R_reads' HO316.out).2.2 | (with_reducible refine Kd.C_alloc ?_ _) | (with_reducible refine Kd.C_drewN ?_ _) | (with_reducible refine Kd.C_drew ?_))); (case side4 => exact (Kd.R_reads' HO316.out).2.1); (case side5 => repeat (first | exact (Kd.R_reads' HO319.out).2.2 | (with_reducible refine Kd.C_alloc ?_ _) | (with_reducible refine Kd.C_drewN ?_ _) | (with_reducible refine Kd.C_drew ?_))); (case side6 => exact (Kd.R_reads' HO319.out).2.1); rintro e w39 ⟨v328, v332, v335, rfl, ho0, ho1, ho2, hb⟩; have n0_ := Aside0.mk (Kd.R_mono (Kd.R_told (Kd.R_told (Kd.R_old (Mark.r HO298) hb) (Kd.R_base ho0)) (Kd.R_base ho2)) (fun _ h_ => h_.1)); have n1_ := Aside0.mk (Kd.V_mono (Kd.V_told (Kd.V_told (Kd.V_told (Kd.V_old (Mark.v HO302) hb) (Kd.R_base ho0)) (Kd.R_base ho1)) (Kd.R_base ho2)) (fun _ h_ => h_.1)); have n2_ := Aside0.mk (Kd.R_mono (Kd.R_told (Kd.R_told (Kd.R_old (Mark.r HO305) hb) (Kd.R_base ho0)) (Kd.R_base ho2)) (fun _ h_ => h_.1)); have n3_ := Aside0.mk (Kd.R_mono (Kd.R_told (Kd.R_told (Kd.R_old (Mark.r HO312) hb) (Kd.R_base ho0)) (Kd.R_base ho2)) (fun _ h_ => h_.1)); have n4_ := Aside0.mk (Kd.R_elder' (Mark.r HO316) (Kd.R_base ho1) hb); have n5_ := Aside0.mk (Kd.R_mono (Kd.R_told (Kd.R_told (Kd.R_old (Mark.r HO319) hb) (Kd.R_base ho0)) (Kd.R_base ho2)) (fun _ h_ => h_.1)); have n6_ := Aside0.mk (Kd.R_lower (Kd.R_new' (Kd.R_new' (Kd.R_new' (Kd.R_new' ho0 (Kd.R_lt (Mark.r HO298))) (Kd.R_lt (Mark.r HO305))) (Kd.R_lt (Mark.r HO312))) (Kd.R_lt (Mark.r HO319))) (below_size Mark.h)); have n7_ := Aside0.mk (Kd.R_lower (Kd.R_new' ho1 (Kd.R_lt (Mark.r HO316))) (below_size Mark.h)); have n8_ := Aside0.mk (Kd.R_lower (Kd.R_new' (Kd.R_new' (Kd.R_new' (Kd.R_new' ho2 (Kd.R_lt (Mark.r HO298))) (Kd.R_lt (Mark.r HO305))) (Kd.R_lt (Mark.r HO312))) (Kd.R_lt (Mark.r HO319))) (below_size Mark.h)); have n9_ := Aside0.mk (blk_below (g := gb306) (o := .cells #[.string t293, .string t294, .int .i64 t295, .slice Ao20 t296.length co20, .bool t299, .slice Ao21 t300.length co21, .slice Ao22 t303.length co22] 25 (0, 0)) (Mark.b BK306) hb); have n10_ := Aside0.mk (blk_below (g := gb320) (o := .cells #[.string t307, .string t308, .int .i64 t309, .slice Ao27 t310.length co27, .bool t313, .slice Ao28 t314.length co28, .slice Ao29 t317.length co29] 25 (0, 0)) (Mark.b BK320) hb); have n11_ := Aside0.mk (below_step Mark.h hb); clear HO298; clear HO302; clear HO305; clear HO312; clear HO316; clear HO319; clear BK306; clear BK320; clear HB; have HO298 := n0_; have HO302 := n1_; have HO305 := n2_; have HO312 := n3_; have HO316 := n4_; have HO319 := n5_; have HO329 := n6_; have HO333 := n7_; have HO336 := n8_; have BK306 := n9_; have BK320 := n10_; have HB := n11_; clear n0_ n1_ n2_ n3_ n4_ n5_ n6_ n7_ n8_ n9_ n10_ n11_; (try clear hb); (try clear hb2); (try clear hk); (try clear hi); (try clear ho0); (try clear ho1); (try clear ho2)))
       go_loopg [7] k (fun kq v7 w' => ∃ (x7_1 : Int) (x307003_1 : List (S31)) (x307006_1 : List (S31)) (x321003_1 : List (S31)) (x321006_1 : List (S31)) (x338003_1 : List (S31)) (x338006_1 : List (S31)) (u307003 : Value) (u307006 : Value) (u321003 : Value) (u321006 : Value) (u338003 : Value) (u338006 : Value), v7 = .int .i64 x7_1 ∧ Aside0 (parallaxlaw12_RecordCopies.l0 kq t321 x7_1 t293 t294 t295 x307003_1 t299 t300 x307006_1 t307 t308 t309 x321003_1 t313 t314 x321006_1 t324 t325 t326 x338003_1 t330 t331 x338006_1 = some r) ∧ Aside0 (kq ≤ k) ∧ Aside0 (Kd.R k31 31 w' w.heap.size (fun k_ => some k_ ≠ (u307006 : Value).ownBlock ∧ some k_ ≠ (u321003 : Value).ownBlock ∧ some k_ ≠ (u321006 : Value).ownBlock ∧ some k_ ≠ (u338003 : Value).ownBlock ∧ some k_ ≠ (u338006 : Value).ownBlock) u307003 x307003_1) ∧ Aside0 (Kd.V (Kd.int .u8) 5 w' w.heap.size (fun k_ => some k_ ≠ (u307003 : Value).ownBlock ∧ some k_ ≠ (u307006 : Value).ownBlock ∧ some k_ ≠ (u321003 : Value).ownBlock ∧ some k_ ≠ ((.slice Ao28 t314.length co28) : Value).ownBlock ∧ some k_ ≠ (u321006 : Value).ownBlock ∧ some k_ ≠ (u338003 : Value).ownBlock ∧ some k_ ≠ ((.slice Ao45 t331.length co45) : Value).ownBlock ∧ some k_ ≠ (u338006 : Value).ownBlock ∧ k_ ≠ gb306 ∧ k_ ≠ gb320 ∧ k_ ≠ gb337) (.slice Ao21 t300.length co21) t300) ∧ Aside0 (Kd.R k31 31 w' w.heap.size (fun k_ => some k_ ≠ (u307003 : Value).ownBlock ∧ some k_ ≠ (u321003 : Value).ownBlock ∧ some k_ ≠ (u321006 : Value).ownBlock ∧ some k_ ≠ (u338003 : Value).ownBlock ∧ some k_ ≠ (u338006 : Value).ownBlock) u307006 x307006_1) ∧ Aside0 (Kd.R k31 31 w' w.heap.size (fun k_ => some k_ ≠ (u307003 : Value).ownBlock ∧ some k_ ≠ (u307006 : Value).ownBlock ∧ some k_ ≠ (u321006 : Value).ownBlock ∧ some k_ ≠ (u338003 : Value).ownBlock ∧ some k_ ≠ (u338006 : Value).ownBlock) u321003 x321003_1) ∧ Aside0 (Kd.R (Kd.int .u8) 5 w' w.heap.size (fun k_ => some k_ ≠ ((.slice Ao45 t331.length co45) : Value).ownBlock) (.slice Ao28 t314.length co28) t314) ∧ Aside0 (Kd.R k31 31 w' w.heap.size (fun k_ => some k_ ≠ (u307003 : Value).ownBlock ∧ some k_ ≠ (u307006 : Value).ownBlock ∧ some k_ ≠ (u321003 : Value).ownBlock ∧ some k_ ≠ (u338003 : Value).ownBlock ∧ some k_ ≠ (u338006 : Value).ownBlock) u321006 x321006_1) ∧ Aside0 (Kd.R k31 31 w' w.heap.size (fun k_ => some k_ ≠ (u307003 : Value).ownBlock ∧ some k_ ≠ (u307006 : Value).ownBlock ∧ some k_ ≠ (u321003 : Value).ownBlock ∧ some k_ ≠ (u321006 : Value).ownBlock ∧ some k_ ≠ (u338006 : Value).ownBlock) u338003 x338003_1) ∧ Aside0 (Kd.R (Kd.int .u8) 5 w' w.heap.size (fun k_ => some k_ ≠ ((.slice Ao28 t314.length co28) : Value).ownBlock) (.slice Ao45 t331.length co45) t331) ∧ Aside0 (Kd.R k31 31 w' w.heap.size (fun k_ => some k_ ≠ (u307003 : Value).ownBlock ∧ some k_ ≠ (u307006 : Value).ownBlock ∧ some k_ ≠ (u321003 : Value).ownBlock ∧ some k_ ≠ (u321006 : Value).ownBlock ∧ some k_ ≠ (u338003 : Value).ownBlock) u338006 x338006_1) ∧ Aside0 (w'.heap[gb306]? = some (.cells #[.string t293, .string t294, .int .i64 t295, u307003, .bool t299, (.slice Ao21 t300.length co21), u307006] 25 (0, 0))) ∧ Aside0 (w'.heap[gb320]? = some (.cells #[.string t307, .string t308, .int .i64 t309, u321003, .bool t313, (.slice Ao28 t314.length co28), u321006] 25 (0, 0))) ∧ Aside0 (w'.heap[gb337]? = some (.cells #[.string t324, .string t325, .int .i64 t326, u338003, .bool t330, (.slice Ao45 t331.length co45), u338006] 25 (0, 0))) ∧ Aside0 (Below w.heap.size w w'))
       case atStart => exact ⟨(0), (t296), (t303), (t310), (t317), (t327), (t334), (.slice Ao20 t296.length co20), (.slice Ao22 t303.length co22), (.slice Ao27 t310.length co27), (.slice Ao29 t317.length co29), (.slice Ao44 t327.length co44), (.slice Ao46 t334.length co46), (by first | rfl | (simp; done) | (simp [*]; done)), H', ⟨Nat.le_refl _⟩, ⟨by (with_reducible repeat (first | apply Kd.R_alloc | apply Kd.R_drewN | apply Kd.R_drew)); exact Kd.R_mono (Kd.R_far (p := ⟨gb337, 6, none⟩) (Kd.R_far (p := ⟨gb337, 5, none⟩) (Kd.R_far (p := ⟨gb337, 4, none⟩) (Kd.R_far (p := ⟨gb337, 3, none⟩) (Kd.R_far (p := ⟨gb337, 2, none⟩) (Kd.R_far (p := ⟨gb337, 1, none⟩) (Kd.R_far (p := ⟨gb337, 0, none⟩) (Kd.R_types HO298.out BK337.out (by decide)) Mark.K (.string t324)) Mark.K (.string t325)) Mark.K (.int .i64 t326)) Mark.K (.slice Ao44 t327.length co44)) Mark.K (.bool t330)) Mark.K (.slice Ao45 t331.length co45)) Mark.K (.slice Ao46 t334.length co46)) (fun _ hk => ⟨hk.1.1.1.1.1, ⟨hk.1.1.1.1.2, ⟨hk.1.1.1.2, ⟨hk.1.1.2, hk.1.2⟩⟩⟩⟩)⟩, ⟨by (with_reducible repeat (first | apply Kd.V_alloc | apply Kd.V_drewN | apply Kd.V_drew)); exact Kd.V_mono (Kd.V_far (p := ⟨gb337, 6, none⟩) (Kd.V_far (p := ⟨gb337, 5, none⟩) (Kd.V_far (p := ⟨gb337, 4, none⟩) (Kd.V_far (p := ⟨gb337, 3, none⟩) (Kd.V_far (p := ⟨gb337, 2, none⟩) (Kd.V_far (p := ⟨gb337, 1, none⟩) (Kd.V_far (p := ⟨gb337, 0, none⟩) (Kd.V_mono HO302.out (fun k_ hk => (⟨hk, hk.2⟩ : _ ∧ k_ ≠ gb337))) Mark.K (.string t324)) Mark.K (.string t325)) Mark.K (.int .i64 t326)) Mark.K (.slice Ao44 t327.length co44)) Mark.K (.bool t330)) Mark.K (.slice Ao45 t331.length co45)) Mark.K (.slice Ao46 t334.length co46)) (fun _ hk => ⟨hk.1.1.1.1.1.1.1.1.1.1.1, ⟨hk.1.1.1.1.1.1.1.1.1.1.2, ⟨hk.1.1.1.1.1.1.1.1.2, ⟨hk.1.1.1.1.1.1.1.2, ⟨hk.1.1.1.1.1.1.2, ⟨hk.1.1.1.1.2, ⟨hk.1.1.1.2, ⟨hk.1.1.2, ⟨hk.1.1.1.1.1.1.1.1.1.2, ⟨hk.1.1.1.1.1.2, hk.1.2⟩⟩⟩⟩⟩⟩⟩⟩⟩⟩)⟩, ⟨by (with_reducible repeat (first | apply Kd.R_alloc | apply Kd.R_drewN | apply Kd.R_drew)); exact Kd.R_mono (Kd.R_far (p := ⟨gb337, 6, none⟩) (Kd.R_far (p := ⟨gb337, 5, none⟩) (Kd.R_far (p := ⟨gb337, 4, none⟩) (Kd.R_far (p := ⟨gb337, 3, none⟩) (Kd.R_far (p := ⟨gb337, 2, none⟩) (Kd.R_far (p := ⟨gb337, 1, none⟩) (Kd.R_far (p := ⟨gb337, 0, none⟩) (Kd.R_types HO305.out BK337.out (by decide)) Mark.K (.string t324)) Mark.K (.string t325)) Mark.K (.int .i64 t326)) Mark.K (.slice Ao44 t327.length co44)) Mark.K (.bool t330)) Mark.K (.slice Ao45 t331.length co45)) Mark.K (.slice Ao46 t334.length co46)) (fun _ hk => ⟨hk.1.1.1.1.1, ⟨hk.1.1.1.1.2, ⟨hk.1.1.1.2, ⟨hk.1.1.2, hk.1.2⟩⟩⟩⟩)⟩, ⟨by (with_reducible repeat (first | apply Kd.R_alloc | apply Kd.R_drewN | apply Kd.R_drew)); exact Kd.R_mono (Kd.R_far (p := ⟨gb337, 6, none⟩) (Kd.R_far (p := ⟨gb337, 5, none⟩) (Kd.R_far (p := ⟨gb337, 4, none⟩) (Kd.R_far (p := ⟨gb337, 3, none⟩) (Kd.R_far (p := ⟨gb337, 2, none⟩) (Kd.R_far (p := ⟨gb337, 1, none⟩) (Kd.R_far (p := ⟨gb337, 0, none⟩) (Kd.R_types HO312.out BK337.out (by decide)) Mark.K (.string t324)) Mark.K (.string t325)) Mark.K (.int .i64 t326)) Mark.K (.slice Ao44 t327.length co44)) Mark.K (.bool t330)) Mark.K (.slice Ao45 t331.length co45)) Mark.K (.slice Ao46 t334.length co46)) (fun _ hk => ⟨hk.1.1.1.1.2, ⟨hk.1.1.1.2, ⟨hk.1.1.1.1.1, ⟨hk.1.1.2, hk.1.2⟩⟩⟩⟩)⟩, ⟨by (with_reducible repeat (first | apply Kd.R_alloc | apply Kd.R_drewN | apply Kd.R_drew)); exact Kd.R_mono (Kd.R_far (p := ⟨gb337, 6, none⟩) (Kd.R_far (p := ⟨gb337, 5, none⟩) (Kd.R_far (p := ⟨gb337, 4, none⟩) (Kd.R_far (p := ⟨gb337, 3, none⟩) (Kd.R_far (p := ⟨gb337, 2, none⟩) (Kd.R_far (p := ⟨gb337, 1, none⟩) (Kd.R_far (p := ⟨gb337, 0, none⟩) (Kd.R_types HO316.out BK337.out (by decide)) Mark.K (.string t324)) Mark.K (.string t325)) Mark.K (.int .i64 t326)) Mark.K (.slice Ao44 t327.length co44)) Mark.K (.bool t330)) Mark.K (.slice Ao45 t331.length co45)) Mark.K (.slice Ao46 t334.length co46)) (fun _ hk => hk.1.2)⟩, ⟨by (with_reducible repeat (first | apply Kd.R_alloc | apply Kd.R_drewN | apply Kd.R_drew)); exact Kd.R_mono (Kd.R_far (p := ⟨gb337, 6, none⟩) (Kd.R_far (p := ⟨gb337, 5, none⟩) (Kd.R_far (p := ⟨gb337, 4, none⟩) (Kd.R_far (p := ⟨gb337, 3, none⟩) (Kd.R_far (p := ⟨gb337, 2, none⟩) (Kd.R_far (p := ⟨gb337, 1, none⟩) (Kd.R_far (p := ⟨gb337, 0, none⟩) (Kd.R_types HO319.out BK337.out (by decide)) Mark.K (.string t324)) Mark.K (.string t325)) Mark.K (.int .i64 t326)) Mark.K (.slice Ao44 t327.length co44)) Mark.K (.bool t330)) Mark.K (.slice Ao45 t331.length co45)) Mark.K (.slice Ao46 t334.length co46)) (fun _ hk => ⟨hk.1.1.1.1.2, ⟨hk.1.1.1.2, ⟨hk.1.1.1.1.1, ⟨hk.1.1.2, hk.1.2⟩⟩⟩⟩)⟩, ⟨by (with_reducible repeat (first | apply Kd.R_alloc | apply Kd.R_drewN | apply Kd.R_drew)); exact Kd.R_mono (Kd.R_far (p := ⟨gb337, 6, none⟩) (Kd.R_far (p := ⟨gb337, 5, none⟩) (Kd.R_far (p := ⟨gb337, 4, none⟩) (Kd.R_far (p := ⟨gb337, 3, none⟩) (Kd.R_far (p := ⟨gb337, 2, none⟩) (Kd.R_far (p := ⟨gb337, 1, none⟩) (Kd.R_far (p := ⟨gb337, 0, none⟩) (Kd.R_types HO329.out BK337.out (by decide)) Mark.K (.string t324)) Mark.K (.string t325)) Mark.K (.int .i64 t326)) Mark.K (.slice Ao44 t327.length co44)) Mark.K (.bool t330)) Mark.K (.slice Ao45 t331.length co45)) Mark.K (.slice Ao46 t334.length co46)) (fun _ hk => ⟨hk.1.1.1.1.2, ⟨hk.1.1.1.2, ⟨hk.1.1.2, ⟨hk.1.2, hk.1.1.1.1.1⟩⟩⟩⟩)⟩, ⟨by (with_reducible repeat (first | apply Kd.R_alloc | apply Kd.R_drewN | apply Kd.R_drew)); exact Kd.R_mono (Kd.R_far (p := ⟨gb337, 6, none⟩) (Kd.R_far (p := ⟨gb337, 5, none⟩) (Kd.R_far (p := ⟨gb337, 4, none⟩) (Kd.R_far (p := ⟨gb337, 3, none⟩) (Kd.R_far (p := ⟨gb337, 2, none⟩) (Kd.R_far (p := ⟨gb337, 1, none⟩) (Kd.R_far (p := ⟨gb337, 0, none⟩) (Kd.R_types HO333.out BK337.out (by decide)) Mark.K (.string t324)) Mark.K (.string t325)) Mark.K (.int .i64 t326)) Mark.K (.slice Ao44 t327.length co44)) Mark.K (.bool t330)) Mark.K (.slice Ao45 t331.length co45)) Mark.K (.slice Ao46 t334.length co46)) (fun _ hk => hk.1.2)⟩, ⟨by (with_reducible repeat (first | apply Kd.R_alloc | apply Kd.R_drewN | apply Kd.R_drew)); exact Kd.R_mono (Kd.R_far (p := ⟨gb337, 6, none⟩) (Kd.R_far (p := ⟨gb337, 5, none⟩) (Kd.R_far (p := ⟨gb337, 4, none⟩) (Kd.R_far (p := ⟨gb337, 3, none⟩) (Kd.R_far (p := ⟨gb337, 2, none⟩) (Kd.R_far (p := ⟨gb337, 1, none⟩) (Kd.R_far (p := ⟨gb337, 0, none⟩) (Kd.R_types HO336.out BK337.out (by decide)) Mark.K (.string t324)) Mark.K (.string t325)) Mark.K (.int .i64 t326)) Mark.K (.slice Ao44 t327.length co44)) Mark.K (.bool t330)) Mark.K (.slice Ao45 t331.length co45)) Mark.K (.slice Ao46 t334.length co46)) (fun _ hk => ⟨hk.1.1.1.1.2, ⟨hk.1.1.1.2, ⟨hk.1.1.2, ⟨hk.1.2, hk.1.1.1.1.1⟩⟩⟩⟩)⟩, ⟨by (repeat ((with_reducible repeat (first | refine blk_drewN ?_ _ | refine blk_drew ?_ | refine blk_alloc ?_ _)); refine blk_far ?_ NB306_337.out _)); (with_reducible repeat (first | refine blk_drewN ?_ _ | refine blk_drew ?_ | refine blk_alloc ?_ _)); exact BK306.out⟩, ⟨by (repeat ((with_reducible repeat (first | refine blk_drewN ?_ _ | refine blk_drew ?_ | refine blk_alloc ?_ _)); refine blk_far ?_ NB320_337.out _)); (with_reducible repeat (first | refine blk_drewN ?_ _ | refine blk_drew ?_ | refine blk_alloc ?_ _)); exact BK320.out⟩, ⟨by (with_reducible repeat (first | refine blk_drewN ?_ _ | refine blk_drew ?_ | refine blk_alloc ?_ _)); refine blk_put (cs := #[.string t324, .string t325, .int .i64 t326, .slice Ao44 t327.length co44, .bool t330, .slice Ao45 t331.length co45, .slice none 0 0]) ?_ 6 _ rfl; (with_reducible repeat (first | refine blk_drewN ?_ _ | refine blk_drew ?_ | refine blk_alloc ?_ _)); refine blk_put (cs := #[.string t324, .string t325, .int .i64 t326, .slice Ao44 t327.length co44, .bool t330, .slice none 0 0, .slice none 0 0]) ?_ 5 _ rfl; (with_reducible repeat (first | refine blk_drewN ?_ _ | refine blk_drew ?_ | refine blk_alloc ?_ _)); refine blk_put (cs := #[.string t324, .string t325, .int .i64 t326, .slice Ao44 t327.length co44, .bool false, .slice none 0 0, .slice none 0 0]) ?_ 4 _ rfl; (with_reducible repeat (first | refine blk_drewN ?_ _ | refine blk_drew ?_ | refine blk_alloc ?_ _)); refine blk_put (cs := #[.string t324, .string t325, .int .i64 t326, .slice none 0 0, .bool false, .slice none 0 0, .slice none 0 0]) ?_ 3 _ rfl; (with_reducible repeat (first | refine blk_drewN ?_ _ | refine blk_drew ?_ | refine blk_alloc ?_ _)); refine blk_put (cs := #[.string t324, .string t325, .int .i64 0, .slice none 0 0, .bool false, .slice none 0 0, .slice none 0 0]) ?_ 2 _ rfl; (with_reducible repeat (first | refine blk_drewN ?_ _ | refine blk_drew ?_ | refine blk_alloc ?_ _)); refine blk_put (cs := #[.string t324, .string (⟨#[]⟩ : ByteArray), .int .i64 0, .slice none 0 0, .bool false, .slice none 0 0, .slice none 0 0]) ?_ 1 _ rfl; (with_reducible repeat (first | refine blk_drewN ?_ _ | refine blk_drew ?_ | refine blk_alloc ?_ _)); refine blk_put (cs := #[.string (⟨#[]⟩ : ByteArray), .string (⟨#[]⟩ : ByteArray), .int .i64 0, .slice none 0 0, .bool false, .slice none 0 0, .slice none 0 0]) ?_ 0 _ rfl; (with_reducible repeat (first | refine blk_drewN ?_ _ | refine blk_drew ?_ | refine blk_alloc ?_ _)); exact BK337.out⟩, ⟨Mark.h⟩⟩
       case round =>
        clear H'
        try clear c1
        try clear c2
        try clear p2
        try clear c3
        try clear c4
        try clear c4b0
        try clear c4b1
        try clear c5
        try clear c6
        try clear c8
        try clear c10
        try clear c12
        try clear c12b0
        try clear c12b1
        try clear c13
        try clear c13b0
        try clear c13b1
        try clear c13b2
        try clear c14
        try clear c14b0
        try clear c14b1
        try clear c14b2
        try clear c18
        try clear c25
        try clear c41
        try clear c42
        try clear hcz19_0
        try clear hcz19_1
        try clear hcz19_2
        try clear hcz19_3
        try clear hcz19_4
        try clear hcz19_5
        try clear hcz19_6
        try clear hcz26_0
        try clear hcz26_1
        try clear hcz26_2
        try clear hcz26_3
        try clear hcz26_4
        try clear hcz26_5
        try clear hcz26_6
        try clear hcz30_0
        try clear hcz30_1
        try clear hcz30_2
        try clear hcz30_3
        try clear hcz30_4
        try clear hcz30_5
        try clear hcz30_6
        try clear hcz32_0
        try clear hcz32_1
        try clear hcz32_2
        try clear hcz32_3
        try clear hcz32_4
        try clear hcz32_5
        try clear hcz32_6
        try clear hcz33_0
        try clear hcz33_1
        try clear hcz33_2
        try clear hcz33_3
        try clear hcz33_4
        try clear hcz33_5
        try clear hcz33_6
        try clear hcz35_0
        try clear hcz35_1
        try clear hcz35_2
        try clear hcz35_3
        try clear hcz35_4
        try clear hcz35_5
        try clear hcz35_6
        try clear hcz37_0
        try clear hcz37_1
        try clear hcz37_2
        try clear hcz37_3
        try clear hcz37_4
        try clear hcz37_5
        try clear hcz37_6
        try clear hcz38_0
        try clear hcz38_1
        try clear hcz38_2
        try clear hcz38_3
        try clear hcz38_4
        try clear hcz38_5
        try clear hcz38_6
        try clear hcz43_0
        try clear hcz43_1
        try clear hcz43_2
        try clear hcz43_3
        try clear hcz43_4
        try clear hcz43_5
        try clear hcz43_6
        try clear hfz19_0
        try clear hfz19_1
        try clear hfz19_2
        try clear hfz19_3
        try clear hfz19_4
        try clear hfz19_5
        try clear hfz19_6
        try clear hfz26_0
        try clear hfz26_1
        try clear hfz26_2
        try clear hfz26_3
        try clear hfz26_4
        try clear hfz26_5
        try clear hfz26_6
        try clear hfz30_0
        try clear hfz30_1
        try clear hfz30_2
        try clear hfz30_3
        try clear hfz30_4
        try clear hfz30_5
        try clear hfz30_6
        try clear hfz32_0
        try clear hfz32_1
        try clear hfz32_2
        try clear hfz32_3
        try clear hfz32_4
        try clear hfz32_5
        try clear hfz32_6
        try clear hfz33_0
        try clear hfz33_1
        try clear hfz33_2
        try clear hfz33_3
        try clear hfz33_4
        try clear hfz33_5
        try clear hfz33_6
        try clear hfz35_0
        try clear hfz35_1
        try clear hfz35_2
        try clear hfz35_3
        try clear hfz35_4
        try clear hfz35_5
        try clear hfz35_6
        try clear hfz37_0
        try clear hfz37_1
        try clear hfz37_2
        try clear hfz37_3
        try clear hfz37_4
        try clear hfz37_5
        try clear hfz37_6
        try clear hfz38_0
        try clear hfz38_1
        try clear hfz38_2
        try clear hfz38_3
        try clear hfz38_4
        try clear hfz38_5
        try clear hfz38_6
        try clear hfz43_0
        try clear hfz43_1
        try clear hfz43_2
        try clear hfz43_3
        try clear hfz43_4
        try clear hfz43_5
        try clear hfz43_6
        obtain ⟨x7_1, x307003_1, x307006_1, x321003_1, x321006_1, x338003_1, x338006_1, u307003, u307006, u321003, u321006, u338003, u338006, rfl, HA, HK1, HO_307003, HO_307005, HO_307006, HO_321003, HO_321005, HO_321006, HO_338003, HO_338005, HO_338006, BK306, BK320, BK337, HB⟩ := hrel
        cases gk with
        | zero => exact absurd HA.out (by simp [parallaxlaw12_RecordCopies.l0])
        | succ k1 =>
         have H := HA.out
         clear HA
         simp only [parallaxlaw12_RecordCopies.l0] at H
         by_cases c47 : x7_1 < (x338003_1.length : Int)
         ·rw [if_pos c47] at H
          have c47b0 : decide (x7_1 < (x338003_1.length : Int)) = true := decide_eq_true c47
          clear c47
          by_cases c48 : 0 ≤ x7_1
          ·rw [if_pos c48] at H
           have c48b0 : decide (0 ≤ x7_1) = true := decide_eq_true c48
           clear c48
           by_cases c49 : ((rd_T31 x338003_1 x7_1).f1).size + 1 ≤ 9223372036854775807
           ·rw [if_pos c49] at H
            have c49b0 := eq_true c49
            have c49b1 : decide (((rd_T31 x338003_1 x7_1).f1).size + 1 ≤ 9223372036854775807) = true := decide_eq_true c49
            try have c49b2 : (9223372036854775807 < ((rd_T31 x338003_1 x7_1).f1).size + 1) = False := eq_false (Nat.not_lt.2 c49)
            obtain ⟨y339, hy339⟩ : ∃ y_ : List (S31), y_ = (x338003_1.set (x7_1 : Int).toNat (⟨(rd_T31 x338003_1 x7_1).f0, ((rd_T31 x338003_1 x7_1).f1) ++ (⟨#[33]⟩ : ByteArray)⟩ : S31)) := ⟨_, rfl⟩
            replace H : (parallaxlaw12_RecordCopies.l0 k1 t321 (wrap64 (x7_1 + 1)) t293 t294 t295 x307003_1 t299 t300 x307006_1 t307 t308 t309 x321003_1 t313 t314 x321006_1 t324 t325 t326 y339 t330 t331 x338006_1) = some r := by first | (rw [hy339]; with_reducible exact H) | (have H2_ := (Option.bind_some _ _).symm.trans H; rw [hy339]; with_reducible exact H2_) | (have H2_ := (Option.bind_some _ _).symm.trans H; with_reducible exact H2_) | with_reducible exact H | (rw [hy339]; exact H) | exact H
            have Ny339 := Aside0.mk hy339
            clear hy339
            have H' := Aside0.mk H
            clear H
            have hnb51 := NB337_306.out
            have hnc51 := NB306_337.out
            have hnb52 := NB337_320.out
            have hnc52 := NB320_337.out
            have hcz53_0 : wr.cell? ⟨gb337, 0, none⟩ = some (.string t324) := (blk_cell BK337.out 0).trans rfl
            have hcz53_1 : wr.cell? ⟨gb337, 1, none⟩ = some (.string t325) := (blk_cell BK337.out 1).trans rfl
            have hcz53_2 : wr.cell? ⟨gb337, 2, none⟩ = some (.int .i64 t326) := (blk_cell BK337.out 2).trans rfl
            have hcz53_3 : wr.cell? ⟨gb337, 3, none⟩ = some (u338003) := (blk_cell BK337.out 3).trans rfl
            have hcz53_4 : wr.cell? ⟨gb337, 4, none⟩ = some (.bool t330) := (blk_cell BK337.out 4).trans rfl
            have hcz53_5 : wr.cell? ⟨gb337, 5, none⟩ = some (.slice Ao45 t331.length co45) := (blk_cell BK337.out 5).trans rfl
            have hcz53_6 : wr.cell? ⟨gb337, 6, none⟩ = some (u338006) := (blk_cell BK337.out 6).trans rfl
            have hfz53_0 := blk_frozen BK337.out 0
            have hfz53_1 := blk_frozen BK337.out 1
            have hfz53_2 := blk_frozen BK337.out 2
            have hfz53_3 := blk_frozen BK337.out 3
            have hfz53_4 := blk_frozen BK337.out 4
            have hfz53_5 := blk_frozen BK337.out 5
            have hfz53_6 := blk_frozen BK337.out 6
            obtain ⟨Ao54, co54, eo54⟩ := Kd.R_slice HO_338003.out
            subst eo54
            try go_wp2
            have n0_ := Aside0.mk (Kd.R_drew HO_307003.out)
            have n1_ := Aside0.mk (Kd.V_drew HO_307005.out)
            have n2_ := Aside0.mk (Kd.R_drew HO_307006.out)
            have n3_ := Aside0.mk (Kd.R_drew HO_321003.out)
            have n4_ := Aside0.mk (Kd.R_drew HO_321005.out)
            have n5_ := Aside0.mk (Kd.R_drew HO_321006.out)
            have n6_ := Aside0.mk (Kd.R_drew HO_338003.out)
            have n7_ := Aside0.mk (Kd.R_drew HO_338005.out)
            have n8_ := Aside0.mk (Kd.R_drew HO_338006.out)
            have n9_ := Aside0.mk (blk_drew BK306.out)
            have n10_ := Aside0.mk (blk_drew BK320.out)
            have n11_ := Aside0.mk (blk_drew BK337.out)
            have n12_ := Aside0.mk (below_drew1 HB.out)
            clear HO_307003
            clear HO_307005
            clear HO_307006
            clear HO_321003
            clear HO_321005
            clear HO_321006
            clear HO_338003
            clear HO_338005
            clear HO_338006
            clear BK306
            clear BK320
            clear BK337
            clear HB
            have HO_307003 := n0_
            have HO_307005 := n1_
            have HO_307006 := n2_
            have HO_321003 := n3_
            have HO_321005 := n4_
            have HO_321006 := n5_
            have HO_338003 := n6_
            have HO_338005 := n7_
            have HO_338006 := n8_
            have BK306 := n9_
            have BK320 := n10_
            have BK337 := n11_
            have HB := n12_
            clear n0_ n1_ n2_ n3_ n4_ n5_ n6_ n7_ n8_ n9_ n10_ n11_ n12_
            have p338 : 0 ≤ (x7_1 : Int) := of_decide_eq_true (by first | (with_reducible assumption) | assumption)
            have q338 : x7_1 < (x338003_1.length : Int) := of_decide_eq_true (by first | (with_reducible assumption) | assumption)
            obtain ⟨ad338, e338, hx338_0, hx338_1⟩ := at_T31 (Kd.R_reads' HO_338003.out).2.2 x7_1 p338 q338
            cases e338
            replace p338 := eq_true p338
            replace q338 := eq_true q338
            have p50 : 0 ≤ (x7_1 : Int) := of_decide_eq_true (by first | (with_reducible assumption) | assumption)
            have q50 : (x7_1 : Int) < ((x338003_1.length : Int) : Int) := of_decide_eq_true (by first | (with_reducible assumption) | assumption)
            obtain ⟨go50, co50, eo50, gb50, gl50, cl50, HG50⟩ := Kd.R_form HO_338003.out (by omega)
            (first | cases eo50 | (injection eo50 with ea_ en_ ec_; (first | subst ea_ | (injection ea_ with ea_; subst ea_)); subst ec_; clear en_))
            have GB50 := Aside0.mk gb50
            have GG50 := Aside0.mk HG50
            clear gb50 gl50 HG50
            (first | simp only [add_plain] at hx338_0 | skip)
            (first | simp only [add_plain] at hx338_1 | skip)
            obtain ⟨ce50, hcl50, hM50, hcc50, hfr50⟩ := Kd.R_elem HO_338003.out z31 (x7_1 : Int) p50 q50
            obtain rfl := k31_openM hM50
            have hx50_0 : World.cell? _ ⟨go50, (x7_1 : Int).toNat * 2, none⟩ = some (.string ((rd_T31 x338003_1 x7_1).f0)) := hcc50 0 _ rfl
            have hx50_1 : World.cell? _ ⟨go50, (x7_1 : Int).toNat * 2 + 1, none⟩ = some (.string ((rd_T31 x338003_1 x7_1).f1)) := hcc50 1 _ rfl
            have hf50_0 : World.frozen? _ ⟨go50, (x7_1 : Int).toNat * 2, none⟩ = false := hfr50 0
            have hf50_1 : World.frozen? _ ⟨go50, (x7_1 : Int).toNat * 2 + 1, none⟩ = false := hfr50 1
            clear hcl50 hcc50 hfr50 hM50
            replace p50 := eq_true p50
            replace q50 := eq_true q50
            obtain ⟨ce56, hcl56, hM56, hcc56, hfr56⟩ := Kd.R_elem HO_338003.out z31 (x7_1 : Int) (of_decide_eq_true (by first | (with_reducible assumption) | assumption)) (by have h_ : (x7_1 : Int) < ((x338003_1.length : Int) : Int) := of_decide_eq_true (by first | (with_reducible assumption) | assumption); first | exact h_ | (have e_ := (Kd.R_reads' HO_338003.out).1; omega) | simpa using h_)
            obtain rfl := k31_openM hM56
            have HP56 := (Kd.R_seg HO_338003.out (x7_1 : Int) (of_decide_eq_true (by first | (with_reducible assumption) | assumption)) (by have h_ : (x7_1 : Int) < ((x338003_1.length : Int) : Int) := of_decide_eq_true (by first | (with_reducible assumption) | assumption); first | exact h_ | (have e_ := (Kd.R_reads' HO_338003.out).1; omega) | simpa using h_) (seg := [.string (((rd_T31 x338003_1 x7_1).f1) ++ (⟨#[33]⟩ : ByteArray))]) (j := 1) hcl56 hcc56 (show 2 ≤ 2 from by decide) (x' := (⟨(rd_T31 x338003_1 x7_1).f0, ((rd_T31 x338003_1 x7_1).f1) ++ (⟨#[33]⟩ : ByteArray)⟩ : S31)) (k31_mkM _ _ _ (⟨(rd_T31 x338003_1 x7_1).f0, ((rd_T31 x338003_1 x7_1).f1) ++ (⟨#[33]⟩ : ByteArray)⟩ : S31) ) (fun _ hk => hk)).1
            rw [← Ny339.out] at HP56
            have HQ56 := Aside0.mk HP56
            clear hcl56 hcc56 hfr56 hM56 HP56
            refine start_ (n := 13) (S := fun w' => w'.cell? ⟨gb337, 0, none⟩ = some (.string t324) ∧ w'.cell? ⟨gb337, 1, none⟩ = some (.string t325) ∧ w'.cell? ⟨gb337, 2, none⟩ = some (.int .i64 t326) ∧ w'.cell? ⟨gb337, 3, none⟩ = some (.slice (some ⟨go50, 0, none⟩) x338003_1.length co54) ∧ w'.cell? ⟨gb337, 4, none⟩ = some (.bool t330) ∧ w'.cell? ⟨gb337, 5, none⟩ = some (.slice Ao45 t331.length co45) ∧ w'.cell? ⟨gb337, 6, none⟩ = some (u338006) ∧ w'.cell? ⟨go50, ((x7_1).toNat * 2), none⟩ = some (.string ((rd_T31 x338003_1 x7_1).f0)) ∧ w'.cell? ⟨go50, ((x7_1).toNat * 2) + 1, none⟩ = some (.string ((rd_T31 x338003_1 x7_1).f1))) (ds := [12]) #[false, false, false, false, false, false, false, false, false, false, false, false, false] (by kernel_rfl) rfl rfl ⟨(blk_cell BK337.out 0).trans rfl, (blk_cell BK337.out 1).trans rfl, (blk_cell BK337.out 2).trans rfl, (blk_cell BK337.out 3).trans rfl, (blk_cell BK337.out 4).trans rfl, (blk_cell BK337.out 5).trans rfl, (blk_cell BK337.out 6).trans rfl, hx338_0, hx338_1⟩ (fun hHeld => ?_); refine with_tabW parallaxlaw12_RecordCopies.tab14 parallaxlaw12_RecordCopies.bits14 (fun HT_ HW_ => ?_)
            generalize wr.drew = w55 at HO_307003 HO_307005 HO_307006 HO_321003 HO_321005 HO_321006 HO_338003 HO_338005 HO_338006 BK306 BK320 BK337 HB GG50 HQ56 hf50_0 hf50_1 hx338_0 hx338_1 hx50_0 hx50_1 hHeld ⊢
            refine pure_ (i := 0) (N := some 57) (v := ?_) (a' := ?_) #[true, false, false, false, false, false, false, false, false, false, false, false, false] rfl rfl (any_of HT_.out (by kernel_rfl)) (fun _ _ _ h => h) (Or.inl ⟨by rfl, ?_⟩) ?_ ?_
            rotate_left
            ·intro w'
             go_simp
             with_reducible rfl
            rotate_left
            ·simp only [Act.put, List.setIfInBounds_toArray, List.set_cons_zero, List.set_cons_succ, i64_w, i32_w]
             rfl
            refine pure_ (i := 2) (N := some 59) (v := ?_) (a' := ?_) #[true, false, true, false, false, false, false, false, false, false, false, false, false] rfl rfl (any_of HT_.out (by kernel_rfl)) (fun _ _ _ h => h) (Or.inl ⟨by rfl, ?_⟩) ?_ ?_
            rotate_left
            ·intro w'
             go_simp
             with_reducible rfl
            rotate_left
            ·simp only [Act.put, List.setIfInBounds_toArray, List.set_cons_zero, List.set_cons_succ, i64_w, i32_w]
             rfl
            refine pure_ (i := 3) (N := some 60) (v := ?_) (a' := ?_) #[true, false, true, true, false, false, false, false, false, false, false, false, false] rfl rfl (any_of HT_.out (by kernel_rfl)) (fun _ _ _ h => h) (Or.inl ⟨by rfl, ?_⟩) ?_ ?_
            rotate_left
            ·intro w'
             go_simp
             with_reducible rfl
            rotate_left
            ·simp only [Act.put, List.setIfInBounds_toArray, List.set_cons_zero, List.set_cons_succ, i64_w, i32_w]
             rfl
            refine pure_ (i := 5) (N := some 62) (v := ?_) (a' := ?_) #[true, false, true, true, false, true, false, false, false, false, false, false, false] rfl rfl (any_of HT_.out (by kernel_rfl)) (fun _ _ _ h => h) (Or.inl ⟨by rfl, ?_⟩) ?_ ?_
            rotate_left
            ·intro w'
             go_simp
             with_reducible rfl
            rotate_left
            ·simp only [Act.put, List.setIfInBounds_toArray, List.set_cons_zero, List.set_cons_succ, i64_w, i32_w]
             rfl
            refine take_ (i := 1) (N := some 58) (v := ?_) (a' := ?_) #[true, true, true, true, false, true, false, false, false, false, false, false, false] rfl rfl (take_ofW HT_.out HW_.out (by kernel_rfl)) (fun _ _ _ h => h) (Or.inl ⟨by rfl, ?_⟩) hHeld ?_ ?_
            rotate_left
            ·rintro w' ⟨s0, s1, s2, s3, s4, s5, s6, s7, s8⟩
             go_simp
             with_reducible rfl
            rotate_left
            ·simp only [Act.put, List.setIfInBounds_toArray, List.set_cons_zero, List.set_cons_succ, i64_w, i32_w]
             rfl
            refine take_ (i := 4) (N := some 61) (v := ?_) (a' := ?_) #[true, true, true, true, true, true, false, false, false, false, false, false, false] rfl rfl (take_ofW HT_.out HW_.out (by kernel_rfl)) (fun _ _ _ h => h) (Or.inl ⟨by rfl, ?_⟩) hHeld ?_ ?_
            rotate_left
            ·rintro w' ⟨s0, s1, s2, s3, s4, s5, s6, s7, s8⟩
             go_simp
             with_reducible rfl
            rotate_left
            ·simp only [Act.put, List.setIfInBounds_toArray, List.set_cons_zero, List.set_cons_succ, i64_w, i32_w]
             rfl
            refine pure_ (i := 6) (N := some 63) (v := ?_) (a' := ?_) #[true, true, true, true, true, true, true, false, false, false, false, false, false] rfl rfl (any_of HT_.out (by kernel_rfl)) (fun _ _ _ h => h) (Or.inl ⟨by rfl, ?_⟩) ?_ ?_
            rotate_left
            ·intro w'
             go_simp
             with_reducible rfl
            rotate_left
            ·simp only [Act.put, List.setIfInBounds_toArray, List.set_cons_zero, List.set_cons_succ, i64_w, i32_w]
             rfl
            refine pure_ (i := 7) (N := some 64) (v := ?_) (a' := ?_) #[true, true, true, true, true, true, true, true, false, false, false, false, false] rfl rfl (any_of HT_.out (by kernel_rfl)) (fun _ _ _ h => h) (Or.inl ⟨by rfl, ?_⟩) ?_ ?_
            rotate_left
            ·intro w'
             go_simp
             with_reducible rfl
            rotate_left
            ·simp only [Act.put, List.setIfInBounds_toArray, List.set_cons_zero, List.set_cons_succ, i64_w, i32_w]
             rfl
            refine take_ (i := 8) (N := some 65) (v := ?_) (a' := ?_) #[true, true, true, true, true, true, true, true, true, false, false, false, false] rfl rfl (take_ofW HT_.out HW_.out (by kernel_rfl)) (fun _ _ _ h => h) (Or.inl ⟨by rfl, ?_⟩) hHeld ?_ ?_
            rotate_left
            ·rintro w' ⟨s0, s1, s2, s3, s4, s5, s6, s7, s8⟩
             go_simp
             with_reducible rfl
            rotate_left
            ·simp only [Act.put, List.setIfInBounds_toArray, List.set_cons_zero, List.set_cons_succ, i64_w, i32_w]
             rfl
            refine pure_ (i := 9) (N := some 66) (v := ?_) (a' := ?_) #[true, true, true, true, true, true, true, true, true, true, false, false, false] rfl rfl (any_of HT_.out (by kernel_rfl)) (fun _ _ _ h => h) (Or.inl ⟨by rfl, ?_⟩) ?_ ?_
            rotate_left
            ·intro w'
             go_simp
             with_reducible rfl
            rotate_left
            ·simp only [Act.put, List.setIfInBounds_toArray, List.set_cons_zero, List.set_cons_succ, i64_w, i32_w]
             rfl
            refine pure_ (i := 10) (N := some 67) (v := ?_) (a' := ?_) #[true, true, true, true, true, true, true, true, true, true, true, false, false] rfl rfl (any_of HT_.out (by kernel_rfl)) (fun _ _ _ h => h) (Or.inl ⟨by rfl, ?_⟩) ?_ ?_
            rotate_left
            ·intro w'
             go_simp
             with_reducible rfl
            rotate_left
            ·simp only [Act.put, List.setIfInBounds_toArray, List.set_cons_zero, List.set_cons_succ, i64_w, i32_w]
             rfl
            refine pure_ (i := 11) (N := some 68) (v := ?_) (a' := ?_) #[true, true, true, true, true, true, true, true, true, true, true, true, false] rfl rfl (any_of HT_.out (by kernel_rfl)) (fun _ _ _ h => h) (Or.inl ⟨by rfl, ?_⟩) ?_ ?_
            rotate_left
            ·intro w'
             go_simp
             with_reducible rfl
            rotate_left
            ·simp only [Act.put, List.setIfInBounds_toArray, List.set_cons_zero, List.set_cons_succ, i64_w, i32_w]
             rfl
            refine last_ (i := 12) (N := none) #[true, true, true, true, true, true, true, true, true, true, true, true, true] rfl rfl (one_of HT_.out (by kernel_rfl)) (by decide) (fun K hK => ?_)
            refine skip_ (w1 := ?_) (by rfl) rfl ?_ ?_
            rotate_left
            ·go_simp
             rfl
            refine hK.out _ _ ?_
            clear hK K
            refine done_ (done_of HT_.out (by kernel_rfl)) ?_
            try go_wp2
            go_roundg k1
            case measure => have := HK1.out; omega
            case rel => exact ⟨(wrap64 (x7_1 + 1)), (x307003_1), (x307006_1), (x321003_1), (x321006_1), (y339), (x338006_1), (u307003), (u307006), (u321003), (u321006), (.slice (some ⟨go50, 0, none⟩) x338003_1.length co54), (u338006), (by first | rfl | (simp; done) | (simp [*]; done)), H', ⟨by have := HK1.out; omega⟩, ⟨by (with_reducible repeat (first | apply Kd.R_alloc | apply Kd.R_drewN | apply Kd.R_drew)); exact Kd.R_mono (Kd.R_far (p := ⟨go50, (x7_1 : Int).toNat * 2 + 1, none⟩) (Kd.R_mono HO_307003.out (fun k_ hk => (⟨hk, fun e_ => hk.2.2.2.1 (by rw [e_]; rfl)⟩ : _ ∧ k_ ≠ go50))) Mark.K (.string (((rd_T31 x338003_1 x7_1).f1) ++ (⟨#[33]⟩ : ByteArray)))) (fun _ hk => ⟨hk.1.1, ⟨hk.1.2.1, ⟨hk.1.2.2.1, ⟨hk.1.2.2.2.1, hk.1.2.2.2.2⟩⟩⟩⟩)⟩, ⟨by (with_reducible repeat (first | apply Kd.V_alloc | apply Kd.V_drewN | apply Kd.V_drew)); exact Kd.V_mono (Kd.V_far (p := ⟨go50, (x7_1 : Int).toNat * 2 + 1, none⟩) (Kd.V_mono HO_307005.out (fun k_ hk => (⟨hk, fun e_ => hk.2.2.2.2.2.1 (by rw [e_]; rfl)⟩ : _ ∧ k_ ≠ go50))) Mark.K (.string (((rd_T31 x338003_1 x7_1).f1) ++ (⟨#[33]⟩ : ByteArray)))) (fun _ hk => ⟨hk.1.1, ⟨hk.1.2.1, ⟨hk.1.2.2.1, ⟨hk.1.2.2.2.1, ⟨hk.1.2.2.2.2.1, ⟨hk.1.2.2.2.2.2.1, ⟨hk.1.2.2.2.2.2.2.1, ⟨hk.1.2.2.2.2.2.2.2.1, ⟨hk.1.2.2.2.2.2.2.2.2.1, ⟨hk.1.2.2.2.2.2.2.2.2.2.1, hk.1.2.2.2.2.2.2.2.2.2.2⟩⟩⟩⟩⟩⟩⟩⟩⟩⟩)⟩, ⟨by (with_reducible repeat (first | apply Kd.R_alloc | apply Kd.R_drewN | apply Kd.R_drew)); exact Kd.R_mono (Kd.R_far (p := ⟨go50, (x7_1 : Int).toNat * 2 + 1, none⟩) (Kd.R_mono HO_307006.out (fun k_ hk => (⟨hk, fun e_ => hk.2.2.2.1 (by rw [e_]; rfl)⟩ : _ ∧ k_ ≠ go50))) Mark.K (.string (((rd_T31 x338003_1 x7_1).f1) ++ (⟨#[33]⟩ : ByteArray)))) (fun _ hk => ⟨hk.1.1, ⟨hk.1.2.1, ⟨hk.1.2.2.1, ⟨hk.1.2.2.2.1, hk.1.2.2.2.2⟩⟩⟩⟩)⟩, ⟨by (with_reducible repeat (first | apply Kd.R_alloc | apply Kd.R_drewN | apply Kd.R_drew)); exact Kd.R_mono (Kd.R_far (p := ⟨go50, (x7_1 : Int).toNat * 2 + 1, none⟩) (Kd.R_mono HO_321003.out (fun k_ hk => (⟨hk, fun e_ => hk.2.2.2.1 (by rw [e_]; rfl)⟩ : _ ∧ k_ ≠ go50))) Mark.K (.string (((rd_T31 x338003_1 x7_1).f1) ++ (⟨#[33]⟩ : ByteArray)))) (fun _ hk => ⟨hk.1.1, ⟨hk.1.2.1, ⟨hk.1.2.2.1, ⟨hk.1.2.2.2.1, hk.1.2.2.2.2⟩⟩⟩⟩)⟩, ⟨by (with_reducible repeat (first | apply Kd.R_alloc | apply Kd.R_drewN | apply Kd.R_drew)); exact Kd.R_mono (Kd.R_far (p := ⟨go50, (x7_1 : Int).toNat * 2 + 1, none⟩) (Kd.R_types HO_321005.out GG50.out (by decide)) Mark.K (.string (((rd_T31 x338003_1 x7_1).f1) ++ (⟨#[33]⟩ : ByteArray)))) (fun _ hk => hk.1)⟩, ⟨by (with_reducible repeat (first | apply Kd.R_alloc | apply Kd.R_drewN | apply Kd.R_drew)); exact Kd.R_mono (Kd.R_far (p := ⟨go50, (x7_1 : Int).toNat * 2 + 1, none⟩) (Kd.R_mono HO_321006.out (fun k_ hk => (⟨hk, fun e_ => hk.2.2.2.1 (by rw [e_]; rfl)⟩ : _ ∧ k_ ≠ go50))) Mark.K (.string (((rd_T31 x338003_1 x7_1).f1) ++ (⟨#[33]⟩ : ByteArray)))) (fun _ hk => ⟨hk.1.1, ⟨hk.1.2.1, ⟨hk.1.2.2.1, ⟨hk.1.2.2.2.1, hk.1.2.2.2.2⟩⟩⟩⟩)⟩, ⟨by (with_reducible repeat (first | apply Kd.R_alloc | apply Kd.R_drewN | apply Kd.R_drew)); exact HQ56.out⟩, ⟨by (with_reducible repeat (first | apply Kd.R_alloc | apply Kd.R_drewN | apply Kd.R_drew)); exact Kd.R_mono (Kd.R_far (p := ⟨go50, (x7_1 : Int).toNat * 2 + 1, none⟩) (Kd.R_types HO_338005.out GG50.out (by decide)) Mark.K (.string (((rd_T31 x338003_1 x7_1).f1) ++ (⟨#[33]⟩ : ByteArray)))) (fun _ hk => hk.1)⟩, ⟨by (with_reducible repeat (first | apply Kd.R_alloc | apply Kd.R_drewN | apply Kd.R_drew)); exact Kd.R_mono (Kd.R_far (p := ⟨go50, (x7_1 : Int).toNat * 2 + 1, none⟩) (Kd.R_mono HO_338006.out (fun k_ hk => (⟨hk, fun e_ => hk.2.2.2.2 (by rw [e_]; rfl)⟩ : _ ∧ k_ ≠ go50))) Mark.K (.string (((rd_T31 x338003_1 x7_1).f1) ++ (⟨#[33]⟩ : ByteArray)))) (fun _ hk => ⟨hk.1.1, ⟨hk.1.2.1, ⟨hk.1.2.2.1, ⟨hk.1.2.2.2.1, hk.1.2.2.2.2⟩⟩⟩⟩)⟩, ⟨by (with_reducible repeat (first | refine blk_drewN ?_ _ | refine blk_drew ?_ | refine blk_alloc ?_ _)); refine blk_far ?_ (by have h_ := Kd.R_ne HO_338003.out BK306.out (by decide); intro e_; exact h_ (by rw [e_]; rfl)) _; (with_reducible repeat (first | refine blk_drewN ?_ _ | refine blk_drew ?_ | refine blk_alloc ?_ _)); exact BK306.out⟩, ⟨by (with_reducible repeat (first | refine blk_drewN ?_ _ | refine blk_drew ?_ | refine blk_alloc ?_ _)); refine blk_far ?_ (by have h_ := Kd.R_ne HO_338003.out BK320.out (by decide); intro e_; exact h_ (by rw [e_]; rfl)) _; (with_reducible repeat (first | refine blk_drewN ?_ _ | refine blk_drew ?_ | refine blk_alloc ?_ _)); exact BK320.out⟩, ⟨by (with_reducible repeat (first | refine blk_drewN ?_ _ | refine blk_drew ?_ | refine blk_alloc ?_ _)); refine blk_far ?_ (by have h_ := Kd.R_ne HO_338003.out BK337.out (by decide); intro e_; exact h_ (by rw [e_]; rfl)) _; (with_reducible repeat (first | refine blk_drewN ?_ _ | refine blk_drew ?_ | refine blk_alloc ?_ _)); exact BK337.out⟩, ⟨by repeat (first | (with_reducible first | exact HB.out | apply below_alloc | apply pw_below_drewN | apply below_drew1 | refine below_set ?_ GB50.out | refine below_set ?_ GE306.out | refine below_set ?_ GE320.out | refine below_set ?_ GE337.out) | exact HB.out)⟩⟩
           ·rw [if_neg c49] at H
            exact absurd H (by simp)
          ·rw [if_neg c48] at H
           exact absurd H (by simp)
         ·rw [if_neg c47] at H
          have c47b0 : decide (x7_1 < (x338003_1.length : Int)) = false := decide_eq_false c47
          clear c47
          have H' := Aside0.mk H
          clear H
          have hnb57 := NB337_306.out
          have hnc57 := NB306_337.out
          have hnb58 := NB337_320.out
          have hnc58 := NB320_337.out
          have hcz59_0 : wr.cell? ⟨gb337, 0, none⟩ = some (.string t324) := (blk_cell BK337.out 0).trans rfl
          have hcz59_1 : wr.cell? ⟨gb337, 1, none⟩ = some (.string t325) := (blk_cell BK337.out 1).trans rfl
          have hcz59_2 : wr.cell? ⟨gb337, 2, none⟩ = some (.int .i64 t326) := (blk_cell BK337.out 2).trans rfl
          have hcz59_3 : wr.cell? ⟨gb337, 3, none⟩ = some (u338003) := (blk_cell BK337.out 3).trans rfl
          have hcz59_4 : wr.cell? ⟨gb337, 4, none⟩ = some (.bool t330) := (blk_cell BK337.out 4).trans rfl
          have hcz59_5 : wr.cell? ⟨gb337, 5, none⟩ = some (.slice Ao45 t331.length co45) := (blk_cell BK337.out 5).trans rfl
          have hcz59_6 : wr.cell? ⟨gb337, 6, none⟩ = some (u338006) := (blk_cell BK337.out 6).trans rfl
          have hfz59_0 := blk_frozen BK337.out 0
          have hfz59_1 := blk_frozen BK337.out 1
          have hfz59_2 := blk_frozen BK337.out 2
          have hfz59_3 := blk_frozen BK337.out 3
          have hfz59_4 := blk_frozen BK337.out 4
          have hfz59_5 := blk_frozen BK337.out 5
          have hfz59_6 := blk_frozen BK337.out 6
          obtain ⟨Ao60, co60, eo60⟩ := Kd.R_slice HO_338003.out
          subst eo60
          go_wp2
          go_loopg [8] k1 (fun kq v8 w' => ∃ (x8_2 : Int) (x307005_2 : List Int) (x321005_2 : List Int) (x338005_2 : List Int) (u307005 : Value) (u321005 : Value) (u338005 : Value), v8 = .int .i64 x8_2 ∧ Aside0 (parallaxlaw12_RecordCopies.l1 kq t321 x8_2 t293 t294 t295 x307003_1 t299 x307005_2 x307006_1 t307 t308 t309 x321003_1 t313 x321005_2 x321006_1 t324 t325 t326 x338003_1 t330 x338005_2 x338006_1 = some r) ∧ Aside0 (kq ≤ k1) ∧ Aside0 (Kd.R k31 31 w' w.heap.size (fun k_ => some k_ ≠ (u307006 : Value).ownBlock ∧ some k_ ≠ (u321003 : Value).ownBlock ∧ some k_ ≠ (u321006 : Value).ownBlock ∧ some k_ ≠ ((.slice Ao60 x338003_1.length co60) : Value).ownBlock ∧ some k_ ≠ (u338006 : Value).ownBlock) u307003 x307003_1) ∧ Aside0 (Kd.V (Kd.int .u8) 5 w' w.heap.size (fun k_ => some k_ ≠ (u307003 : Value).ownBlock ∧ some k_ ≠ (u307006 : Value).ownBlock ∧ some k_ ≠ (u321003 : Value).ownBlock ∧ some k_ ≠ (u321005 : Value).ownBlock ∧ some k_ ≠ (u321006 : Value).ownBlock ∧ some k_ ≠ ((.slice Ao60 x338003_1.length co60) : Value).ownBlock ∧ some k_ ≠ (u338005 : Value).ownBlock ∧ some k_ ≠ (u338006 : Value).ownBlock ∧ k_ ≠ gb306 ∧ k_ ≠ gb320 ∧ k_ ≠ gb337) u307005 x307005_2) ∧ Aside0 (Kd.R k31 31 w' w.heap.size (fun k_ => some k_ ≠ (u307003 : Value).ownBlock ∧ some k_ ≠ (u321003 : Value).ownBlock ∧ some k_ ≠ (u321006 : Value).ownBlock ∧ some k_ ≠ ((.slice Ao60 x338003_1.length co60) : Value).ownBlock ∧ some k_ ≠ (u338006 : Value).ownBlock) u307006 x307006_1) ∧ Aside0 (Kd.R k31 31 w' w.heap.size (fun k_ => some k_ ≠ (u307003 : Value).ownBlock ∧ some k_ ≠ (u307006 : Value).ownBlock ∧ some k_ ≠ (u321006 : Value).ownBlock ∧ some k_ ≠ ((.slice Ao60 x338003_1.length co60) : Value).ownBlock ∧ some k_ ≠ (u338006 : Value).ownBlock) u321003 x321003_1) ∧ Aside0 (Kd.R (Kd.int .u8) 5 w' w.heap.size (fun k_ => some k_ ≠ (u338005 : Value).ownBlock) u321005 x321005_2) ∧ Aside0 (Kd.R k31 31 w' w.heap.size (fun k_ => some k_ ≠ (u307003 : Value).ownBlock ∧ some k_ ≠ (u307006 : Value).ownBlock ∧ some k_ ≠ (u321003 : Value).ownBlock ∧ some k_ ≠ ((.slice Ao60 x338003_1.length co60) : Value).ownBlock ∧ some k_ ≠ (u338006 : Value).ownBlock) u321006 x321006_1) ∧ Aside0 (Kd.R k31 31 w' w.heap.size (fun k_ => some k_ ≠ (u307003 : Value).ownBlock ∧ some k_ ≠ (u307006 : Value).ownBlock ∧ some k_ ≠ (u321003 : Value).ownBlock ∧ some k_ ≠ (u321006 : Value).ownBlock ∧ some k_ ≠ (u338006 : Value).ownBlock) (.slice Ao60 x338003_1.length co60) x338003_1) ∧ Aside0 (Kd.R (Kd.int .u8) 5 w' w.heap.size (fun k_ => some k_ ≠ (u321005 : Value).ownBlock) u338005 x338005_2) ∧ Aside0 (Kd.R k31 31 w' w.heap.size (fun k_ => some k_ ≠ (u307003 : Value).ownBlock ∧ some k_ ≠ (u307006 : Value).ownBlock ∧ some k_ ≠ (u321003 : Value).ownBlock ∧ some k_ ≠ (u321006 : Value).ownBlock ∧ some k_ ≠ ((.slice Ao60 x338003_1.length co60) : Value).ownBlock) u338006 x338006_1) ∧ Aside0 (w'.heap[gb306]? = some (.cells #[.string t293, .string t294, .int .i64 t295, u307003, .bool t299, u307005, u307006] 25 (0, 0))) ∧ Aside0 (w'.heap[gb320]? = some (.cells #[.string t307, .string t308, .int .i64 t309, u321003, .bool t313, u321005, u321006] 25 (0, 0))) ∧ Aside0 (w'.heap[gb337]? = some (.cells #[.string t324, .string t325, .int .i64 t326, (.slice Ao60 x338003_1.length co60), .bool t330, u338005, u338006] 25 (0, 0))) ∧ Aside0 (Below w.heap.size w w'))
          case atStart => exact ⟨(0), (t300), (t314), (t331), (.slice Ao21 t300.length co21), (.slice Ao28 t314.length co28), (.slice Ao45 t331.length co45), (by first | rfl | (simp; done) | (simp [*]; done)), H', ⟨Nat.le_refl _⟩, ⟨Mark.r HO_307003⟩, ⟨Mark.v HO_307005⟩, ⟨Mark.r HO_307006⟩, ⟨Mark.r HO_321003⟩, ⟨Mark.r HO_321005⟩, ⟨Mark.r HO_321006⟩, ⟨Mark.r HO_338003⟩, ⟨Mark.r HO_338005⟩, ⟨Mark.r HO_338006⟩, ⟨Mark.b BK306⟩, ⟨Mark.b BK320⟩, ⟨Mark.b BK337⟩, ⟨Mark.h⟩⟩
          case round =>
           clear H'
           try clear c1
           try clear c2
           try clear p2
           try clear c3
           try clear p3
           try clear q3
           try clear hx3
           try clear c4
           try clear c4b0
           try clear c4b1
           try clear c5
           try clear p5
           try clear q5
           try clear hx5
           try clear hf5
           try clear c6
           try clear p6
           try clear c8
           try clear c10
           try clear c12
           try clear c12b0
           try clear c12b1
           try clear c13
           try clear c13b0
           try clear c13b1
           try clear c13b2
           try clear c14
           try clear c14b0
           try clear c14b1
           try clear c14b2
           try clear c18
           try clear c25
           try clear p33
           try clear q33
           try clear hx33
           try clear c41
           try clear c42
           try clear c47
           try clear c47b0
           try clear c48
           try clear c48b0
           try clear c49
           try clear c49b0
           try clear c49b1
           try clear c49b2
           try clear c50
           try clear p50
           try clear q50
           try clear hx50
           try clear hf50
           try clear c51
           try clear c52
           try clear c56
           try clear c57
           try clear c58
           try clear hcz19_0
           try clear hcz19_1
           try clear hcz19_2
           try clear hcz19_3
           try clear hcz19_4
           try clear hcz19_5
           try clear hcz19_6
           try clear hcz26_0
           try clear hcz26_1
           try clear hcz26_2
           try clear hcz26_3
           try clear hcz26_4
           try clear hcz26_5
           try clear hcz26_6
           try clear hcz30_0
           try clear hcz30_1
           try clear hcz30_2
           try clear hcz30_3
           try clear hcz30_4
           try clear hcz30_5
           try clear hcz30_6
           try clear hcz32_0
           try clear hcz32_1
           try clear hcz32_2
           try clear hcz32_3
           try clear hcz32_4
           try clear hcz32_5
           try clear hcz32_6
           try clear hcz33_0
           try clear hcz33_1
           try clear hcz33_2
           try clear hcz33_3
           try clear hcz33_4
           try clear hcz33_5
           try clear hcz33_6
           try clear hcz35_0
           try clear hcz35_1
           try clear hcz35_2
           try clear hcz35_3
           try clear hcz35_4
           try clear hcz35_5
           try clear hcz35_6
           try clear hcz37_0
           try clear hcz37_1
           try clear hcz37_2
           try clear hcz37_3
           try clear hcz37_4
           try clear hcz37_5
           try clear hcz37_6
           try clear hcz38_0
           try clear hcz38_1
           try clear hcz38_2
           try clear hcz38_3
           try clear hcz38_4
           try clear hcz38_5
           try clear hcz38_6
           try clear hcz43_0
           try clear hcz43_1
           try clear hcz43_2
           try clear hcz43_3
           try clear hcz43_4
           try clear hcz43_5
           try clear hcz43_6
           try clear hcz53_0
           try clear hcz53_1
           try clear hcz53_2
           try clear hcz53_3
           try clear hcz53_4
           try clear hcz53_5
           try clear hcz53_6
           try clear hcz59_0
           try clear hcz59_1
           try clear hcz59_2
           try clear hcz59_3
           try clear hcz59_4
           try clear hcz59_5
           try clear hcz59_6
           try clear hfz19_0
           try clear hfz19_1
           try clear hfz19_2
           try clear hfz19_3
           try clear hfz19_4
           try clear hfz19_5
           try clear hfz19_6
           try clear hfz26_0
           try clear hfz26_1
           try clear hfz26_2
           try clear hfz26_3
           try clear hfz26_4
           try clear hfz26_5
           try clear hfz26_6
           try clear hfz30_0
           try clear hfz30_1
           try clear hfz30_2
           try clear hfz30_3
           try clear hfz30_4
           try clear hfz30_5
           try clear hfz30_6
           try clear hfz32_0
           try clear hfz32_1
           try clear hfz32_2
           try clear hfz32_3
           try clear hfz32_4
           try clear hfz32_5
           try clear hfz32_6
           try clear hfz33_0
           try clear hfz33_1
           try clear hfz33_2
           try clear hfz33_3
           try clear hfz33_4
           try clear hfz33_5
           try clear hfz33_6
           try clear hfz35_0
           try clear hfz35_1
           try clear hfz35_2
           try clear hfz35_3
           try clear hfz35_4
           try clear hfz35_5
           try clear hfz35_6
           try clear hfz37_0
           try clear hfz37_1
           try clear hfz37_2
           try clear hfz37_3
           try clear hfz37_4
           try clear hfz37_5
           try clear hfz37_6
           try clear hfz38_0
           try clear hfz38_1
           try clear hfz38_2
           try clear hfz38_3
           try clear hfz38_4
           try clear hfz38_5
           try clear hfz38_6
           try clear hfz43_0
           try clear hfz43_1
           try clear hfz43_2
           try clear hfz43_3
           try clear hfz43_4
           try clear hfz43_5
           try clear hfz43_6
           try clear hfz53_0
           try clear hfz53_1
           try clear hfz53_2
           try clear hfz53_3
           try clear hfz53_4
           try clear hfz53_5
           try clear hfz53_6
           try clear hfz59_0
           try clear hfz59_1
           try clear hfz59_2
           try clear hfz59_3
           try clear hfz59_4
           try clear hfz59_5
           try clear hfz59_6
           try clear hx338_0
           try clear hx338_1
           try clear hx50_0
           try clear hx50_1
           try clear p2
           try clear p338
           try clear p50
           try clear q338
           try clear q50
           obtain ⟨x8_2, x307005_2, x321005_2, x338005_2, u307005, u321005, u338005, rfl, HA, HK2, HO_307003, HO_307005, HO_307006, HO_321003, HO_321005, HO_321006, HO_338003, HO_338005, HO_338006, BK306, BK320, BK337, HB⟩ := hrel
           cases gk with
           | zero => exact absurd HA.out (by simp [parallaxlaw12_RecordCopies.l1])
           | succ k2 =>
            have H := HA.out
            clear HA
            simp only [parallaxlaw12_RecordCopies.l1] at H
            by_cases c61 : x8_2 < (x338005_2.length : Int)
            ·rw [if_pos c61] at H
             have c61b0 : decide (x8_2 < (x338005_2.length : Int)) = true := decide_eq_true c61
             clear c61
             by_cases c62 : 0 ≤ x8_2
             ·rw [if_pos c62] at H
              have c62b0 : decide (0 ≤ x8_2) = true := decide_eq_true c62
              clear c62
              obtain ⟨y341, hy341⟩ : ∃ y_ : List Int, y_ = (x338005_2.set (x8_2 : Int).toNat (((rd x338005_2 x8_2) + 1) % 256)) := ⟨_, rfl⟩
              replace H : (parallaxlaw12_RecordCopies.l1 k2 t321 (wrap64 (x8_2 + 1)) t293 t294 t295 x307003_1 t299 x307005_2 x307006_1 t307 t308 t309 x321003_1 t313 x321005_2 x321006_1 t324 t325 t326 x338003_1 t330 y341 x338006_1) = some r := by first | (rw [hy341]; with_reducible exact H) | (have H2_ := (Option.bind_some _ _).symm.trans H; rw [hy341]; with_reducible exact H2_) | (have H2_ := (Option.bind_some _ _).symm.trans H; with_reducible exact H2_) | with_reducible exact H | (rw [hy341]; exact H) | exact H
              have Ny341 := Aside0.mk hy341
              clear hy341
              have H' := Aside0.mk H
              clear H
              have hnb64 := NB337_306.out
              have hnc64 := NB306_337.out
              have hnb65 := NB337_320.out
              have hnc65 := NB320_337.out
              have hcz66_0 : wr.cell? ⟨gb337, 0, none⟩ = some (.string t324) := (blk_cell BK337.out 0).trans rfl
              have hcz66_1 : wr.cell? ⟨gb337, 1, none⟩ = some (.string t325) := (blk_cell BK337.out 1).trans rfl
              have hcz66_2 : wr.cell? ⟨gb337, 2, none⟩ = some (.int .i64 t326) := (blk_cell BK337.out 2).trans rfl
              have hcz66_3 : wr.cell? ⟨gb337, 3, none⟩ = some (.slice Ao60 x338003_1.length co60) := (blk_cell BK337.out 3).trans rfl
              have hcz66_4 : wr.cell? ⟨gb337, 4, none⟩ = some (.bool t330) := (blk_cell BK337.out 4).trans rfl
              have hcz66_5 : wr.cell? ⟨gb337, 5, none⟩ = some (u338005) := (blk_cell BK337.out 5).trans rfl
              have hcz66_6 : wr.cell? ⟨gb337, 6, none⟩ = some (u338006) := (blk_cell BK337.out 6).trans rfl
              have hfz66_0 := blk_frozen BK337.out 0
              have hfz66_1 := blk_frozen BK337.out 1
              have hfz66_2 := blk_frozen BK337.out 2
              have hfz66_3 := blk_frozen BK337.out 3
              have hfz66_4 := blk_frozen BK337.out 4
              have hfz66_5 := blk_frozen BK337.out 5
              have hfz66_6 := blk_frozen BK337.out 6
              obtain ⟨Ao67, co67, eo67⟩ := Kd.R_slice HO_338005.out
              subst eo67
              have p340 : 0 ≤ (x8_2 : Int) := of_decide_eq_true (by first | (with_reducible assumption) | assumption)
              have q340 : x8_2 < (x338005_2.length : Int) := of_decide_eq_true (by first | (with_reducible assumption) | assumption)
              obtain ⟨ad340, e340, hx340_0⟩ := Kd.at_int (Kd.R_reads' HO_338005.out).2.2 x8_2 p340 q340
              cases e340
              replace p340 := eq_true p340
              replace q340 := eq_true q340
              have p63 : 0 ≤ (x8_2 : Int) := of_decide_eq_true (by first | (with_reducible assumption) | assumption)
              have q63 : (x8_2 : Int) < ((x338005_2.length : Int) : Int) := of_decide_eq_true (by first | (with_reducible assumption) | assumption)
              obtain ⟨go63, co63, eo63, gb63, gl63, cl63, HG63⟩ := Kd.R_form HO_338005.out (by omega)
              (first | cases eo63 | (injection eo63 with ea_ en_ ec_; (first | subst ea_ | (injection ea_ with ea_; subst ea_)); subst ec_; clear en_))
              have GB63 := Aside0.mk gb63
              have GG63 := Aside0.mk HG63
              clear gb63 gl63 HG63
              (first | simp only [add_plain] at hx340_0 | skip)
              obtain ⟨hx63_0, hf63_0⟩ := Kd.R_celln 0 HO_338005.out (x8_2 : Int) p63 q63
              replace p63 := eq_true p63
              replace q63 := eq_true q63
              have HP68 := Kd.R_putg HO_338005.out (x8_2 : Int) (((rd x338005_2 x8_2) + 1) % 256)
              go_wp2_with (first | ((with_reducible refine gate_store (t := 5) (p := 82) rfl ?_); refine store_event (t := 5) (p := 82) (v := ?vo_w69) (w1 := (wr.setCell ⟨go63, (x8_2 : Int).toNat, none⟩ (.int .u8 (((rd x338005_2 x8_2) + 1) % 256)))) ?hg ?ho ?hn ?hr ?_; (case ho => rfl); (case hg => rfl); (case hn => rfl); (case hr => first | (go_simp; done) | (go_simp; rfl)); intro w69 hw; have hg : wr.grownBy w69 (some go63) := (by rw [hw]; exact HP68.2); have hp_ : Kd.R (Kd.int .u8) 5 w69 w.heap.size (fun k_ => some k_ ≠ (u321005 : Value).ownBlock) (.slice (some ⟨go63, 0, none⟩) x338005_2.length co67) y341 := (by rw [hw, Ny341.out]; exact HP68.1); clear HP68; have n0_ := Aside0.mk (Kd.R_over' (v := (.slice (some ⟨go63, 0, none⟩) x338005_2.length co67)) (Mark.r HO_307003) (Kd.R_typed HO_338005.out) (by decide) hg); have n1_ := Aside0.mk (Kd.V_afterv (v := (.slice (some ⟨go63, 0, none⟩) x338005_2.length co67)) (v1 := (.slice (some ⟨go63, 0, none⟩) x338005_2.length co67)) (ok := (fun k_ => some k_ ≠ (u307003 : Value).ownBlock ∧ some k_ ≠ (u307006 : Value).ownBlock ∧ some k_ ≠ (u321003 : Value).ownBlock ∧ some k_ ≠ (u321005 : Value).ownBlock ∧ some k_ ≠ (u321006 : Value).ownBlock ∧ some k_ ≠ (.slice Ao60 x338003_1.length co60 : Value).ownBlock ∧ some k_ ≠ (u338006 : Value).ownBlock ∧ k_ ≠ gb306 ∧ k_ ≠ gb320 ∧ k_ ≠ gb337)) (by (with_reducible repeat (first | apply Kd.V_alloc | apply Kd.V_drewN | apply Kd.V_drew)); exact Kd.V_mono HO_307005.out (fun _ hk => ⟨⟨hk.1, ⟨hk.2.1, ⟨hk.2.2.1, ⟨hk.2.2.2.1, ⟨hk.2.2.2.2.1, ⟨hk.2.2.2.2.2.1, ⟨hk.2.2.2.2.2.2.2.1, ⟨hk.2.2.2.2.2.2.2.2.1, ⟨hk.2.2.2.2.2.2.2.2.2.1, hk.2.2.2.2.2.2.2.2.2.2⟩⟩⟩⟩⟩⟩⟩⟩⟩, hk.2.2.2.2.2.2.1⟩)) hg (.inl rfl)); have n2_ := Aside0.mk (Kd.R_over' (v := (.slice (some ⟨go63, 0, none⟩) x338005_2.length co67)) (Mark.r HO_307006) (Kd.R_typed HO_338005.out) (by decide) hg); have n3_ := Aside0.mk (Kd.R_over' (v := (.slice (some ⟨go63, 0, none⟩) x338005_2.length co67)) (Mark.r HO_321003) (Kd.R_typed HO_338005.out) (by decide) hg); have n4_ := Aside0.mk (Kd.R_after (v := (.slice (some ⟨go63, 0, none⟩) x338005_2.length co67)) (v1 := (.slice (some ⟨go63, 0, none⟩) x338005_2.length co67)) (ok := (fun _ => True)) (by (with_reducible repeat (first | apply Kd.R_alloc | apply Kd.R_drewN | apply Kd.R_drew)); exact Kd.R_mono HO_321005.out (fun _ hk => ⟨trivial, hk⟩)) hg (.inl rfl)); have n5_ := Aside0.mk (Kd.R_over' (v := (.slice (some ⟨go63, 0, none⟩) x338005_2.length co67)) (Mark.r HO_321006) (Kd.R_typed HO_338005.out) (by decide) hg); have n6_ := Aside0.mk (Kd.R_over' (v := (.slice (some ⟨go63, 0, none⟩) x338005_2.length co67)) (Mark.r HO_338003) (Kd.R_typed HO_338005.out) (by decide) hg); have n7_ := Aside0.mk (hp_); have n8_ := Aside0.mk (Kd.R_over' (v := (.slice (some ⟨go63, 0, none⟩) x338005_2.length co67)) (Mark.r HO_338006) (Kd.R_typed HO_338005.out) (by decide) hg); have n9_ := Aside0.mk (blk_grown (g := gb306) (o := .cells #[.string t293, .string t294, .int .i64 t295, u307003, .bool t299, u307005, u307006] 25 (0, 0)) (Mark.b BK306) hg (Kd.R_ne HO_338005.out BK306.out (by decide))); have n10_ := Aside0.mk (blk_grown (g := gb320) (o := .cells #[.string t307, .string t308, .int .i64 t309, u321003, .bool t313, u321005, u321006] 25 (0, 0)) (Mark.b BK320) hg (Kd.R_ne HO_338005.out BK320.out (by decide))); have n11_ := Aside0.mk (blk_grown (g := gb337) (o := .cells #[.string t324, .string t325, .int .i64 t326, .slice Ao60 x338003_1.length co60, .bool t330, .slice (some ⟨go63, 0, none⟩) x338005_2.length co67, u338006] 25 (0, 0)) (Mark.b BK337) hg (Kd.R_ne HO_338005.out BK337.out (by decide))); have n12_ := Aside0.mk ((by rw [hw]; exact below_set (HB.out) GB63.out : Below w.heap.size w w69)); clear HO_307003; clear HO_307005; clear HO_307006; clear HO_321003; clear HO_321005; clear HO_321006; clear HO_338003; clear HO_338005; clear HO_338006; clear BK306; clear BK320; clear BK337; clear HB; have HO_307003 := n0_; have HO_307005 := n1_; have HO_307006 := n2_; have HO_321003 := n3_; have HO_321005 := n4_; have HO_321006 := n5_; have HO_338003 := n6_; have HO_338005 := n7_; have HO_338006 := n8_; have BK306 := n9_; have BK320 := n10_; have BK337 := n11_; have HB := n12_; clear n0_ n1_ n2_ n3_ n4_ n5_ n6_ n7_ n8_ n9_ n10_ n11_ n12_; clear hg hw hp_))
              go_roundg k2
              case measure => have := HK1.out; have := HK2.out; omega
              case rel => exact ⟨(wrap64 (x8_2 + 1)), (x307005_2), (x321005_2), (y341), (u307005), (u321005), (.slice (some ⟨go63, 0, none⟩) x338005_2.length co67), (by first | rfl | (simp; done) | (simp [*]; done)), H', ⟨by have := HK1.out; have := HK2.out; omega⟩, ⟨Mark.r HO_307003⟩, ⟨by (with_reducible repeat (first | apply Kd.V_alloc | apply Kd.V_drewN | apply Kd.V_drew)); exact Kd.V_mono HO_307005.out (fun _ hk => ⟨hk.1.1, ⟨hk.1.2.1, ⟨hk.1.2.2.1, ⟨hk.1.2.2.2.1, ⟨hk.1.2.2.2.2.1, ⟨hk.1.2.2.2.2.2.1, ⟨hk.2, ⟨hk.1.2.2.2.2.2.2.1, ⟨hk.1.2.2.2.2.2.2.2.1, ⟨hk.1.2.2.2.2.2.2.2.2.1, hk.1.2.2.2.2.2.2.2.2.2⟩⟩⟩⟩⟩⟩⟩⟩⟩⟩)⟩, ⟨Mark.r HO_307006⟩, ⟨Mark.r HO_321003⟩, ⟨by (with_reducible repeat (first | apply Kd.R_alloc | apply Kd.R_drewN | apply Kd.R_drew)); exact Kd.R_mono HO_321005.out Mark.K⟩, ⟨Mark.r HO_321006⟩, ⟨Mark.r HO_338003⟩, ⟨Mark.r HO_338005⟩, ⟨Mark.r HO_338006⟩, ⟨Mark.b BK306⟩, ⟨Mark.b BK320⟩, ⟨Mark.b BK337⟩, ⟨Mark.h⟩⟩
             ·rw [if_neg c62] at H
              exact absurd H (by simp)
            ·rw [if_neg c61] at H
             have c61b0 : decide (x8_2 < (x338005_2.length : Int)) = false := decide_eq_false c61
             clear c61
             replace H := Option.bind_eq_some_iff.mp H
             obtain ⟨t342, A700, H⟩ := H
             (try dsimp only at H)
             have A70 := Aside0.mk A700
             clear A700
             by_cases c71 : t342 = true
             ·subst c71
              rw [if_pos rfl] at H
              replace H := Option.bind_eq_some_iff.mp H
              obtain ⟨t343, A720, H⟩ := H
              (try dsimp only at H)
              have A72 := Aside0.mk A720
              clear A720
              by_cases c73 : t343 = true
              ·subst c73
               rw [if_pos rfl] at H
               exact absurd ((Option.some.inj H).trans HT.out) (by decide)
              ·replace c73 := Bool.eq_false_iff.mpr c73
               subst c73
               rw [if_neg (show ¬ (false = true) by decide)] at H
               replace H := Option.bind_eq_some_iff.mp H
               obtain ⟨t344, A740, H⟩ := H
               (try dsimp only at H)
               have A74 := Aside0.mk A740
               clear A740
               obtain rfl := Option.some.inj H
               have hnb75 := NB337_306.out
               have hnc75 := NB306_337.out
               have hnb76 := NB337_320.out
               have hnc76 := NB320_337.out
               have hcz77_0 : wr.cell? ⟨gb337, 0, none⟩ = some (.string t324) := (blk_cell BK337.out 0).trans rfl
               have hcz77_1 : wr.cell? ⟨gb337, 1, none⟩ = some (.string t325) := (blk_cell BK337.out 1).trans rfl
               have hcz77_2 : wr.cell? ⟨gb337, 2, none⟩ = some (.int .i64 t326) := (blk_cell BK337.out 2).trans rfl
               have hcz77_3 : wr.cell? ⟨gb337, 3, none⟩ = some (.slice Ao60 x338003_1.length co60) := (blk_cell BK337.out 3).trans rfl
               have hcz77_4 : wr.cell? ⟨gb337, 4, none⟩ = some (.bool t330) := (blk_cell BK337.out 4).trans rfl
               have hcz77_5 : wr.cell? ⟨gb337, 5, none⟩ = some (u338005) := (blk_cell BK337.out 5).trans rfl
               have hcz77_6 : wr.cell? ⟨gb337, 6, none⟩ = some (u338006) := (blk_cell BK337.out 6).trans rfl
               have hfz77_0 := blk_frozen BK337.out 0
               have hfz77_1 := blk_frozen BK337.out 1
               have hfz77_2 := blk_frozen BK337.out 2
               have hfz77_3 := blk_frozen BK337.out 3
               have hfz77_4 := blk_frozen BK337.out 4
               have hfz77_5 := blk_frozen BK337.out 5
               have hfz77_6 := blk_frozen BK337.out 6
               obtain ⟨Ao78, co78, eo78⟩ := Kd.R_slice HO_338005.out
               subst eo78
               try go_wp2
               have n0_ := Aside0.mk (Kd.R_drew HO_307003.out)
               have n1_ := Aside0.mk (Kd.V_drew HO_307005.out)
               have n2_ := Aside0.mk (Kd.R_drew HO_307006.out)
               have n3_ := Aside0.mk (Kd.R_drew HO_321003.out)
               have n4_ := Aside0.mk (Kd.R_drew HO_321005.out)
               have n5_ := Aside0.mk (Kd.R_drew HO_321006.out)
               have n6_ := Aside0.mk (Kd.R_drew HO_338003.out)
               have n7_ := Aside0.mk (Kd.R_drew HO_338005.out)
               have n8_ := Aside0.mk (Kd.R_drew HO_338006.out)
               have n9_ := Aside0.mk (blk_drew BK306.out)
               have n10_ := Aside0.mk (blk_drew BK320.out)
               have n11_ := Aside0.mk (blk_drew BK337.out)
               have n12_ := Aside0.mk (below_drew1 HB.out)
               clear HO_307003
               clear HO_307005
               clear HO_307006
               clear HO_321003
               clear HO_321005
               clear HO_321006
               clear HO_338003
               clear HO_338005
               clear HO_338006
               clear BK306
               clear BK320
               clear BK337
               clear HB
               have HO_307003 := n0_
               have HO_307005 := n1_
               have HO_307006 := n2_
               have HO_321003 := n3_
               have HO_321005 := n4_
               have HO_321006 := n5_
               have HO_338003 := n6_
               have HO_338005 := n7_
               have HO_338006 := n8_
               have BK306 := n9_
               have BK320 := n10_
               have BK337 := n11_
               have HB := n12_
               clear n0_ n1_ n2_ n3_ n4_ n5_ n6_ n7_ n8_ n9_ n10_ n11_ n12_
               obtain ⟨Ao80, co80, eo80⟩ := Kd.R_slice HO_321003.out
               (first | subst eo80 | (injection eo80 with f1_ f2_ f3_; have f4_ := f1_.symm; have f5_ := f3_.symm; clear f1_ f2_ f3_; subst f4_; subst f5_))
               obtain ⟨Ao81, co81, eo81⟩ := Kd.R_slice HO_321005.out
               (first | subst eo81 | (injection eo81 with f1_ f2_ f3_; have f4_ := f1_.symm; have f5_ := f3_.symm; clear f1_ f2_ f3_; subst f4_; subst f5_))
               obtain ⟨Ao82, co82, eo82⟩ := Kd.R_slice HO_321006.out
               (first | subst eo82 | (injection eo82 with f1_ f2_ f3_; have f4_ := f1_.symm; have f5_ := f3_.symm; clear f1_ f2_ f3_; subst f4_; subst f5_))
               obtain ⟨Ao83, co83, eo83⟩ := Kd.R_slice HO_307003.out
               (first | subst eo83 | (injection eo83 with f1_ f2_ f3_; have f4_ := f1_.symm; have f5_ := f3_.symm; clear f1_ f2_ f3_; subst f4_; subst f5_))
               obtain ⟨Ao84, co84, eo84⟩ := Kd.V_slice HO_307005.out
               (first | subst eo84 | (injection eo84 with f1_ f2_ f3_; have f4_ := f1_.symm; have f5_ := f3_.symm; clear f1_ f2_ f3_; subst f4_; subst f5_))
               obtain ⟨Ao85, co85, eo85⟩ := Kd.R_slice HO_307006.out
               (first | subst eo85 | (injection eo85 with f1_ f2_ f3_; have f4_ := f1_.symm; have f5_ := f3_.symm; clear f1_ f2_ f3_; subst f4_; subst f5_))
               refine start_ (n := 20) (S := fun w' => w'.cell? ⟨gb320, 0, none⟩ = some (.string t307) ∧ w'.cell? ⟨gb320, 1, none⟩ = some (.string t308) ∧ w'.cell? ⟨gb320, 2, none⟩ = some (.int .i64 t309) ∧ w'.cell? ⟨gb320, 3, none⟩ = some (.slice Ao80 x321003_1.length co80) ∧ w'.cell? ⟨gb320, 4, none⟩ = some (.bool t313) ∧ w'.cell? ⟨gb320, 5, none⟩ = some (.slice Ao81 x321005_2.length co81) ∧ w'.cell? ⟨gb320, 6, none⟩ = some (.slice Ao82 x321006_1.length co82) ∧ w'.cell? ⟨gb306, 0, none⟩ = some (.string t293) ∧ w'.cell? ⟨gb306, 1, none⟩ = some (.string t294) ∧ w'.cell? ⟨gb306, 2, none⟩ = some (.int .i64 t295) ∧ w'.cell? ⟨gb306, 3, none⟩ = some (.slice Ao83 x307003_1.length co83) ∧ w'.cell? ⟨gb306, 4, none⟩ = some (.bool t299) ∧ w'.cell? ⟨gb306, 5, none⟩ = some (.slice Ao84 x307005_2.length co84) ∧ w'.cell? ⟨gb306, 6, none⟩ = some (.slice Ao85 x307006_1.length co85) ∧ w'.cell? ⟨gb337, 0, none⟩ = some (.string t324) ∧ w'.cell? ⟨gb337, 1, none⟩ = some (.string t325) ∧ w'.cell? ⟨gb337, 2, none⟩ = some (.int .i64 t326) ∧ w'.cell? ⟨gb337, 3, none⟩ = some (.slice Ao60 x338003_1.length co60) ∧ w'.cell? ⟨gb337, 4, none⟩ = some (.bool t330) ∧ w'.cell? ⟨gb337, 5, none⟩ = some (.slice Ao78 x338005_2.length co78) ∧ w'.cell? ⟨gb337, 6, none⟩ = some (u338006)) (ds := []) #[false, false, false, false, false, false, false, false, false, false, false, false, false, false, false, false, false, false, false, false] (by kernel_rfl) rfl rfl ⟨(blk_cell BK320.out 0).trans rfl, (blk_cell BK320.out 1).trans rfl, (blk_cell BK320.out 2).trans rfl, (blk_cell BK320.out 3).trans rfl, (blk_cell BK320.out 4).trans rfl, (blk_cell BK320.out 5).trans rfl, (blk_cell BK320.out 6).trans rfl, (blk_cell BK306.out 0).trans rfl, (blk_cell BK306.out 1).trans rfl, (blk_cell BK306.out 2).trans rfl, (blk_cell BK306.out 3).trans rfl, (blk_cell BK306.out 4).trans rfl, (blk_cell BK306.out 5).trans rfl, (blk_cell BK306.out 6).trans rfl, (blk_cell BK337.out 0).trans rfl, (blk_cell BK337.out 1).trans rfl, (blk_cell BK337.out 2).trans rfl, (blk_cell BK337.out 3).trans rfl, (blk_cell BK337.out 4).trans rfl, (blk_cell BK337.out 5).trans rfl, (blk_cell BK337.out 6).trans rfl⟩ (fun hHeld => ?_); refine with_tabW parallaxlaw12_RecordCopies.tab19 parallaxlaw12_RecordCopies.bits19 (fun HT_ HW_ => ?_)
               generalize wr.drew = w79 at HO_307003 HO_307005 HO_307006 HO_321003 HO_321005 HO_321006 HO_338003 HO_338005 HO_338006 BK306 BK320 BK337 HB hHeld ⊢
               refine take_ (i := 0) (N := some 83) (v := ?_) (a' := ?_) #[true, false, false, false, false, false, false, false, false, false, false, false, false, false, false, false, false, false, false, false] rfl rfl (take_ofW HT_.out HW_.out (by kernel_rfl)) (fun _ _ _ h => h) (Or.inl ⟨by rfl, ?_⟩) hHeld ?_ ?_
               rotate_left
               ·rintro w' ⟨s0, s1, s2, s3, s4, s5, s6, s7, s8, s9, s10, s11, s12, s13, s14, s15, s16, s17, s18, s19, s20⟩
                go_simp
                with_reducible rfl
               rotate_left
               ·simp only [Act.put, List.setIfInBounds_toArray, List.set_cons_zero, List.set_cons_succ, i64_w, i32_w]
                rfl
               refine take_ (i := 1) (N := some 84) (v := ?_) (a' := ?_) #[true, true, false, false, false, false, false, false, false, false, false, false, false, false, false, false, false, false, false, false] rfl rfl (take_ofW HT_.out HW_.out (by kernel_rfl)) (fun _ _ _ h => h) (Or.inl ⟨by rfl, ?_⟩) hHeld ?_ ?_
               rotate_left
               ·rintro w' ⟨s0, s1, s2, s3, s4, s5, s6, s7, s8, s9, s10, s11, s12, s13, s14, s15, s16, s17, s18, s19, s20⟩
                go_simp
                with_reducible rfl
               rotate_left
               ·simp only [Act.put, List.setIfInBounds_toArray, List.set_cons_zero, List.set_cons_succ, i64_w, i32_w]
                rfl
               refine one_ (i := 2) (N := some 85) #[true, true, true, false, false, false, false, false, false, false, false, false, false, false, false, false, false, false, false, false] rfl rfl (one_of HT_.out (by kernel_rfl)) (by decide) (fun K hK => ?_)
               refine goes_ Tryd.func10 (by kernel_rfl) rfl #[.agg #[.string t307, .string t308, .int .i64 t309, .slice Ao80 x321003_1.length co80, .bool t313, .slice Ao81 x321005_2.length co81, .slice Ao82 x321006_1.length co82], .agg #[.string t293, .string t294, .int .i64 t295, .slice Ao83 x307003_1.length co83, .bool t299, .slice Ao84 x307005_2.length co84, .slice Ao85 x307006_1.length co85]] (by rfl) rfl rfl (by (try simp only [List.map_toArray, List.map_cons, List.map_nil]); first | done | rfl | (simp only [List.length_drop, List.length_take]; rfl)) ?_
               with_reducible refine (record_Same.calls k2 t307 t308 t309 _ _ x321003_1 t313 _ _ x321005_2 _ _ x321006_1 t293 t294 t295 _ _ x307003_1 t299 _ _ x307005_2 _ _ x307006_1 true _ ?side1 ?side2 ?side3 ?side4 ?side5 ?side6 ?side7 ?side8 ?side9 ?side10 ?side11 ?side12 A70.out).mono ?_
               (case side1 => repeat (first | exact (Kd.R_reads' HO_321003.out).2.2 | (with_reducible refine Kd.C_alloc ?_ _) | (with_reducible refine Kd.C_drewN ?_ _) | (with_reducible refine Kd.C_drew ?_)))
               (case side2 => exact (Kd.R_reads' HO_321003.out).2.1)
               (case side3 => repeat (first | exact (Kd.R_reads' HO_321005.out).2.2 | (with_reducible refine Kd.C_alloc ?_ _) | (with_reducible refine Kd.C_drewN ?_ _) | (with_reducible refine Kd.C_drew ?_)))
               (case side4 => exact (Kd.R_reads' HO_321005.out).2.1)
               (case side5 => repeat (first | exact (Kd.R_reads' HO_321006.out).2.2 | (with_reducible refine Kd.C_alloc ?_ _) | (with_reducible refine Kd.C_drewN ?_ _) | (with_reducible refine Kd.C_drew ?_)))
               (case side6 => exact (Kd.R_reads' HO_321006.out).2.1)
               (case side7 => repeat (first | exact (Kd.R_reads' HO_307003.out).2.2 | (with_reducible refine Kd.C_alloc ?_ _) | (with_reducible refine Kd.C_drewN ?_ _) | (with_reducible refine Kd.C_drew ?_)))
               (case side8 => exact (Kd.R_reads' HO_307003.out).2.1)
               (case side9 => repeat (first | exact (Kd.V_reads' HO_307005.out).2.2 | (with_reducible refine Kd.C_alloc ?_ _) | (with_reducible refine Kd.C_drewN ?_ _) | (with_reducible refine Kd.C_drew ?_)))
               (case side10 => exact (Kd.V_reads' HO_307005.out).2.1)
               (case side11 => repeat (first | exact (Kd.R_reads' HO_307006.out).2.2 | (with_reducible refine Kd.C_alloc ?_ _) | (with_reducible refine Kd.C_drewN ?_ _) | (with_reducible refine Kd.C_drew ?_)))
               (case side12 => exact (Kd.R_reads' HO_307006.out).2.1)
               rintro e w86 ⟨rfl, hb⟩
               refine ⟨_, rfl, ?_⟩
               have n0_ := Aside0.mk (Kd.R_below (Mark.r HO_307003) hb)
               have n1_ := Aside0.mk (Kd.V_below (Mark.v HO_307005) hb)
               have n2_ := Aside0.mk (Kd.R_below (Mark.r HO_307006) hb)
               have n3_ := Aside0.mk (Kd.R_below (Mark.r HO_321003) hb)
               have n4_ := Aside0.mk (Kd.R_below (Mark.r HO_321005) hb)
               have n5_ := Aside0.mk (Kd.R_below (Mark.r HO_321006) hb)
               have n6_ := Aside0.mk (Kd.R_below (Mark.r HO_338003) hb)
               have n7_ := Aside0.mk (Kd.R_below (Mark.r HO_338005) hb)
               have n8_ := Aside0.mk (Kd.R_below (Mark.r HO_338006) hb)
               have n9_ := Aside0.mk (blk_below (g := gb306) (o := .cells #[.string t293, .string t294, .int .i64 t295, .slice Ao83 x307003_1.length co83, .bool t299, .slice Ao84 x307005_2.length co84, .slice Ao85 x307006_1.length co85] 25 (0, 0)) (Mark.b BK306) hb)
               have n10_ := Aside0.mk (blk_below (g := gb320) (o := .cells #[.string t307, .string t308, .int .i64 t309, .slice Ao80 x321003_1.length co80, .bool t313, .slice Ao81 x321005_2.length co81, .slice Ao82 x321006_1.length co82] 25 (0, 0)) (Mark.b BK320) hb)
               have n11_ := Aside0.mk (blk_below (g := gb337) (o := .cells #[.string t324, .string t325, .int .i64 t326, .slice Ao60 x338003_1.length co60, .bool t330, .slice Ao78 x338005_2.length co78, u338006] 25 (0, 0)) (Mark.b BK337) hb)
               have n12_ := Aside0.mk (below_step Mark.h hb)
               clear HO_307003
               clear HO_307005
               clear HO_307006
               clear HO_321003
               clear HO_321005
               clear HO_321006
               clear HO_338003
               clear HO_338005
               clear HO_338006
               clear BK306
               clear BK320
               clear BK337
               clear HB
               have HO_307003 := n0_
               have HO_307005 := n1_
               have HO_307006 := n2_
               have HO_321003 := n3_
               have HO_321005 := n4_
               have HO_321006 := n5_
               have HO_338003 := n6_
               have HO_338005 := n7_
               have HO_338006 := n8_
               have BK306 := n9_
               have BK320 := n10_
               have BK337 := n11_
               have HB := n12_
               clear n0_ n1_ n2_ n3_ n4_ n5_ n6_ n7_ n8_ n9_ n10_ n11_ n12_
               (try clear hb)
               (try clear hb2)
               (try clear hk)
               (try clear hi)
               obtain ⟨Ao87, co87, eo87⟩ := Kd.R_slice HO_338006.out
               (first | subst eo87 | (injection eo87 with f1_ f2_ f3_; have f4_ := f1_.symm; have f5_ := f3_.symm; clear f1_ f2_ f3_; subst f4_; subst f5_))
               refine hK.out _ _ ⟨(blk_cell BK320.out 0).trans rfl, (blk_cell BK320.out 1).trans rfl, (blk_cell BK320.out 2).trans rfl, (blk_cell BK320.out 3).trans rfl, (blk_cell BK320.out 4).trans rfl, (blk_cell BK320.out 5).trans rfl, (blk_cell BK320.out 6).trans rfl, (blk_cell BK306.out 0).trans rfl, (blk_cell BK306.out 1).trans rfl, (blk_cell BK306.out 2).trans rfl, (blk_cell BK306.out 3).trans rfl, (blk_cell BK306.out 4).trans rfl, (blk_cell BK306.out 5).trans rfl, (blk_cell BK306.out 6).trans rfl, (blk_cell BK337.out 0).trans rfl, (blk_cell BK337.out 1).trans rfl, (blk_cell BK337.out 2).trans rfl, (blk_cell BK337.out 3).trans rfl, (blk_cell BK337.out 4).trans rfl, (blk_cell BK337.out 5).trans rfl, (blk_cell BK337.out 6).trans rfl⟩ (fun hHeld => ?_)
               clear hK K
               refine norm_ (a' := ?_) ?_ ?_
               rotate_left
               ·show Act.put _ (some 85) _ = _
                simp only [Act.put, List.setIfInBounds_toArray, List.set_cons_zero, List.set_cons_succ, i64_w, i32_w]
                rfl
               refine pure_ (i := 3) (N := some 86) (v := ?_) (a' := ?_) #[true, true, true, true, false, false, false, false, false, false, false, false, false, false, false, false, false, false, false, false] rfl rfl (any_of HT_.out (by kernel_rfl)) (fun _ _ _ h => h) (Or.inl ⟨by rfl, ?_⟩) ?_ ?_
               rotate_left
               ·intro w'
                go_simp
                with_reducible rfl
               rotate_left
               ·simp only [Act.put, List.setIfInBounds_toArray, List.set_cons_zero, List.set_cons_succ, i64_w, i32_w]
                rfl
               refine take_ (i := 4) (N := some 87) (v := ?_) (a' := ?_) #[true, true, true, true, true, false, false, false, false, false, false, false, false, false, false, false, false, false, false, false] rfl rfl (take_ofW HT_.out HW_.out (by kernel_rfl)) (fun _ _ _ h => h) (Or.inl ⟨by rfl, ?_⟩) hHeld ?_ ?_
               rotate_left
               ·rintro w' ⟨s0, s1, s2, s3, s4, s5, s6, s7, s8, s9, s10, s11, s12, s13, s14, s15, s16, s17, s18, s19, s20⟩
                go_simp
                with_reducible rfl
               rotate_left
               ·simp only [Act.put, List.setIfInBounds_toArray, List.set_cons_zero, List.set_cons_succ, i64_w, i32_w]
                rfl
               refine take_ (i := 5) (N := some 88) (v := ?_) (a' := ?_) #[true, true, true, true, true, true, false, false, false, false, false, false, false, false, false, false, false, false, false, false] rfl rfl (take_ofW HT_.out HW_.out (by kernel_rfl)) (fun _ _ _ h => h) (Or.inl ⟨by rfl, ?_⟩) hHeld ?_ ?_
               rotate_left
               ·rintro w' ⟨s0, s1, s2, s3, s4, s5, s6, s7, s8, s9, s10, s11, s12, s13, s14, s15, s16, s17, s18, s19, s20⟩
                go_simp
                with_reducible rfl
               rotate_left
               ·simp only [Act.put, List.setIfInBounds_toArray, List.set_cons_zero, List.set_cons_succ, i64_w, i32_w]
                rfl
               refine one_ (i := 6) (N := some 89) #[true, true, true, true, true, true, true, false, false, false, false, false, false, false, false, false, false, false, false, false] rfl rfl (one_of HT_.out (by kernel_rfl)) (by decide) (fun K hK => ?_)
               refine goes_ Tryd.func10 (by kernel_rfl) rfl #[.agg #[.string t324, .string t325, .int .i64 t326, .slice Ao60 x338003_1.length co60, .bool t330, .slice Ao78 x338005_2.length co78, .slice Ao87 x338006_1.length co87], .agg #[.string t307, .string t308, .int .i64 t309, .slice Ao80 x321003_1.length co80, .bool t313, .slice Ao81 x321005_2.length co81, .slice Ao82 x321006_1.length co82]] (by rfl) rfl rfl (by (try simp only [List.map_toArray, List.map_cons, List.map_nil]); first | done | rfl | (simp only [List.length_drop, List.length_take]; rfl)) ?_
               with_reducible refine (record_Same.calls k2 t324 t325 t326 _ _ x338003_1 t330 _ _ x338005_2 _ _ x338006_1 t307 t308 t309 _ _ x321003_1 t313 _ _ x321005_2 _ _ x321006_1 false _ ?side1 ?side2 ?side3 ?side4 ?side5 ?side6 ?side7 ?side8 ?side9 ?side10 ?side11 ?side12 A72.out).mono ?_
               (case side1 => repeat (first | exact (Kd.R_reads' HO_338003.out).2.2 | (with_reducible refine Kd.C_alloc ?_ _) | (with_reducible refine Kd.C_drewN ?_ _) | (with_reducible refine Kd.C_drew ?_)))
               (case side2 => exact (Kd.R_reads' HO_338003.out).2.1)
               (case side3 => repeat (first | exact (Kd.R_reads' HO_338005.out).2.2 | (with_reducible refine Kd.C_alloc ?_ _) | (with_reducible refine Kd.C_drewN ?_ _) | (with_reducible refine Kd.C_drew ?_)))
               (case side4 => exact (Kd.R_reads' HO_338005.out).2.1)
               (case side5 => repeat (first | exact (Kd.R_reads' HO_338006.out).2.2 | (with_reducible refine Kd.C_alloc ?_ _) | (with_reducible refine Kd.C_drewN ?_ _) | (with_reducible refine Kd.C_drew ?_)))
               (case side6 => exact (Kd.R_reads' HO_338006.out).2.1)
               (case side7 => repeat (first | exact (Kd.R_reads' HO_321003.out).2.2 | (with_reducible refine Kd.C_alloc ?_ _) | (with_reducible refine Kd.C_drewN ?_ _) | (with_reducible refine Kd.C_drew ?_)))
               (case side8 => exact (Kd.R_reads' HO_321003.out).2.1)
               (case side9 => repeat (first | exact (Kd.R_reads' HO_321005.out).2.2 | (with_reducible refine Kd.C_alloc ?_ _) | (with_reducible refine Kd.C_drewN ?_ _) | (with_reducible refine Kd.C_drew ?_)))
               (case side10 => exact (Kd.R_reads' HO_321005.out).2.1)
               (case side11 => repeat (first | exact (Kd.R_reads' HO_321006.out).2.2 | (with_reducible refine Kd.C_alloc ?_ _) | (with_reducible refine Kd.C_drewN ?_ _) | (with_reducible refine Kd.C_drew ?_)))
               (case side12 => exact (Kd.R_reads' HO_321006.out).2.1)
               rintro e w88 ⟨rfl, hb⟩
               refine ⟨_, rfl, ?_⟩
               have n0_ := Aside0.mk (Kd.R_below (Mark.r HO_307003) hb)
               have n1_ := Aside0.mk (Kd.V_below (Mark.v HO_307005) hb)
               have n2_ := Aside0.mk (Kd.R_below (Mark.r HO_307006) hb)
               have n3_ := Aside0.mk (Kd.R_below (Mark.r HO_321003) hb)
               have n4_ := Aside0.mk (Kd.R_below (Mark.r HO_321005) hb)
               have n5_ := Aside0.mk (Kd.R_below (Mark.r HO_321006) hb)
               have n6_ := Aside0.mk (Kd.R_below (Mark.r HO_338003) hb)
               have n7_ := Aside0.mk (Kd.R_below (Mark.r HO_338005) hb)
               have n8_ := Aside0.mk (Kd.R_below (Mark.r HO_338006) hb)
               have n9_ := Aside0.mk (blk_below (g := gb306) (o := .cells #[.string t293, .string t294, .int .i64 t295, .slice Ao83 x307003_1.length co83, .bool t299, .slice Ao84 x307005_2.length co84, .slice Ao85 x307006_1.length co85] 25 (0, 0)) (Mark.b BK306) hb)
               have n10_ := Aside0.mk (blk_below (g := gb320) (o := .cells #[.string t307, .string t308, .int .i64 t309, .slice Ao80 x321003_1.length co80, .bool t313, .slice Ao81 x321005_2.length co81, .slice Ao82 x321006_1.length co82] 25 (0, 0)) (Mark.b BK320) hb)
               have n11_ := Aside0.mk (blk_below (g := gb337) (o := .cells #[.string t324, .string t325, .int .i64 t326, .slice Ao60 x338003_1.length co60, .bool t330, .slice Ao78 x338005_2.length co78, .slice Ao87 x338006_1.length co87] 25 (0, 0)) (Mark.b BK337) hb)
               have n12_ := Aside0.mk (below_step Mark.h hb)
               clear HO_307003
               clear HO_307005
               clear HO_307006
               clear HO_321003
               clear HO_321005
               clear HO_321006
               clear HO_338003
               clear HO_338005
               clear HO_338006
               clear BK306
               clear BK320
               clear BK337
               clear HB
               have HO_307003 := n0_
               have HO_307005 := n1_
               have HO_307006 := n2_
               have HO_321003 := n3_
               have HO_321005 := n4_
               have HO_321006 := n5_
               have HO_338003 := n6_
               have HO_338005 := n7_
               have HO_338006 := n8_
               have BK306 := n9_
               have BK320 := n10_
               have BK337 := n11_
               have HB := n12_
               clear n0_ n1_ n2_ n3_ n4_ n5_ n6_ n7_ n8_ n9_ n10_ n11_ n12_
               (try clear hb)
               (try clear hb2)
               (try clear hk)
               (try clear hi)
               refine hK.out _ _ ⟨(blk_cell BK320.out 0).trans rfl, (blk_cell BK320.out 1).trans rfl, (blk_cell BK320.out 2).trans rfl, (blk_cell BK320.out 3).trans rfl, (blk_cell BK320.out 4).trans rfl, (blk_cell BK320.out 5).trans rfl, (blk_cell BK320.out 6).trans rfl, (blk_cell BK306.out 0).trans rfl, (blk_cell BK306.out 1).trans rfl, (blk_cell BK306.out 2).trans rfl, (blk_cell BK306.out 3).trans rfl, (blk_cell BK306.out 4).trans rfl, (blk_cell BK306.out 5).trans rfl, (blk_cell BK306.out 6).trans rfl, (blk_cell BK337.out 0).trans rfl, (blk_cell BK337.out 1).trans rfl, (blk_cell BK337.out 2).trans rfl, (blk_cell BK337.out 3).trans rfl, (blk_cell BK337.out 4).trans rfl, (blk_cell BK337.out 5).trans rfl, (blk_cell BK337.out 6).trans rfl⟩ (fun hHeld => ?_)
               clear hK K
               refine norm_ (a' := ?_) ?_ ?_
               rotate_left
               ·show Act.put _ (some 89) _ = _
                simp only [Act.put, List.setIfInBounds_toArray, List.set_cons_zero, List.set_cons_succ, i64_w, i32_w]
                rfl
               refine pure_ (i := 7) (N := some 90) (v := ?_) (a' := ?_) #[true, true, true, true, true, true, true, true, false, false, false, false, false, false, false, false, false, false, false, false] rfl rfl (any_of HT_.out (by kernel_rfl)) (fun _ _ _ h => h) (Or.inl ⟨by rfl, ?_⟩) ?_ ?_
               rotate_left
               ·intro w'
                go_simp
                with_reducible rfl
               rotate_left
               ·simp only [Act.put, List.setIfInBounds_toArray, List.set_cons_zero, List.set_cons_succ, i64_w, i32_w]
                rfl
               refine pure_ (i := 8) (N := some 91) (v := ?_) (a' := ?_) #[true, true, true, true, true, true, true, true, true, false, false, false, false, false, false, false, false, false, false, false] rfl rfl (any_of HT_.out (by kernel_rfl)) (fun _ _ _ h => h) (Or.inl ⟨by rfl, ?_⟩) ?_ ?_
               rotate_left
               ·intro w'
                go_simp
                with_reducible rfl
               rotate_left
               ·simp only [Act.put, List.setIfInBounds_toArray, List.set_cons_zero, List.set_cons_succ, i64_w, i32_w]
                rfl
               refine pure_ (i := 9) (N := some 92) (v := ?_) (a' := ?_) #[true, true, true, true, true, true, true, true, true, true, false, false, false, false, false, false, false, false, false, false] rfl rfl (any_of HT_.out (by kernel_rfl)) (fun _ _ _ h => h) (Or.inl ⟨by rfl, ?_⟩) ?_ ?_
               rotate_left
               ·intro w'
                go_simp
                with_reducible rfl
               rotate_left
               ·simp only [Act.put, List.setIfInBounds_toArray, List.set_cons_zero, List.set_cons_succ, i64_w, i32_w]
                rfl
               refine pure_ (i := 12) (N := some 95) (v := ?_) (a' := ?_) #[true, true, true, true, true, true, true, true, true, true, false, false, true, false, false, false, false, false, false, false] rfl rfl (any_of HT_.out (by kernel_rfl)) (fun _ _ _ h => h) (Or.inl ⟨by rfl, ?_⟩) ?_ ?_
               rotate_left
               ·intro w'
                go_simp
                with_reducible rfl
               rotate_left
               ·simp only [Act.put, List.setIfInBounds_toArray, List.set_cons_zero, List.set_cons_succ, i64_w, i32_w]
                rfl
               refine pure_ (i := 13) (N := some 96) (v := ?_) (a' := ?_) #[true, true, true, true, true, true, true, true, true, true, false, false, true, true, false, false, false, false, false, false] rfl rfl (any_of HT_.out (by kernel_rfl)) (fun _ _ _ h => h) (Or.inl ⟨by rfl, ?_⟩) ?_ ?_
               rotate_left
               ·intro w'
                go_simp
                with_reducible rfl
               rotate_left
               ·simp only [Act.put, List.setIfInBounds_toArray, List.set_cons_zero, List.set_cons_succ, i64_w, i32_w]
                rfl
               refine take_ (i := 10) (N := some 93) (v := ?_) (a' := ?_) #[true, true, true, true, true, true, true, true, true, true, true, false, true, true, false, false, false, false, false, false] rfl rfl (take_ofW HT_.out HW_.out (by kernel_rfl)) (fun _ _ _ h => h) (Or.inl ⟨by rfl, ?_⟩) hHeld ?_ ?_
               rotate_left
               ·rintro w' ⟨s0, s1, s2, s3, s4, s5, s6, s7, s8, s9, s10, s11, s12, s13, s14, s15, s16, s17, s18, s19, s20⟩
                go_simp
                with_reducible rfl
               rotate_left
               ·simp only [Act.put, List.setIfInBounds_toArray, List.set_cons_zero, List.set_cons_succ, i64_w, i32_w]
                rfl
               refine take_ (i := 14) (N := some 97) (v := ?_) (a' := ?_) #[true, true, true, true, true, true, true, true, true, true, true, false, true, true, true, false, false, false, false, false] rfl rfl (take_ofW HT_.out HW_.out (by kernel_rfl)) (fun _ _ _ h => h) (Or.inl ⟨by rfl, ?_⟩) hHeld ?_ ?_
               rotate_left
               ·rintro w' ⟨s0, s1, s2, s3, s4, s5, s6, s7, s8, s9, s10, s11, s12, s13, s14, s15, s16, s17, s18, s19, s20⟩
                go_simp
                with_reducible rfl
               rotate_left
               ·simp only [Act.put, List.setIfInBounds_toArray, List.set_cons_zero, List.set_cons_succ, i64_w, i32_w]
                rfl
               refine pure_ (i := 15) (N := some 98) (v := ?_) (a' := ?_) #[true, true, true, true, true, true, true, true, true, true, true, false, true, true, true, true, false, false, false, false] rfl rfl (any_of HT_.out (by kernel_rfl)) (fun _ _ _ h => h) (Or.inl ⟨by rfl, ?_⟩) ?_ ?_
               rotate_left
               ·intro w'
                go_simp
                with_reducible rfl
               rotate_left
               ·simp only [Act.put, List.setIfInBounds_toArray, List.set_cons_zero, List.set_cons_succ, i64_w, i32_w]
                rfl
               refine pure_ (i := 16) (N := some 99) (v := ?_) (a' := ?_) #[true, true, true, true, true, true, true, true, true, true, true, false, true, true, true, true, true, false, false, false] rfl rfl (any_of HT_.out (by kernel_rfl)) (fun _ _ _ h => h) (Or.inl ⟨by rfl, ?_⟩) ?_ ?_
               rotate_left
               ·intro w'
                go_simp
                with_reducible rfl
               rotate_left
               ·simp only [Act.put, List.setIfInBounds_toArray, List.set_cons_zero, List.set_cons_succ, i64_w, i32_w]
                rfl
               refine one_ (i := 11) (N := some 94) #[true, true, true, true, true, true, true, true, true, true, true, true, true, true, true, true, true, false, false, false] rfl rfl (one_of HT_.out (by kernel_rfl)) (by decide) (fun K hK => ?_)
               refine goes_ Tryd.func12 (by kernel_rfl) rfl #[.agg #[.string t324, .string t325, .int .i64 t326, .slice Ao60 x338003_1.length co60, .bool t330, .slice Ao78 x338005_2.length co78, .slice Ao87 x338006_1.length co87]] (by rfl) rfl rfl (by (try simp only [List.map_toArray, List.map_cons, List.map_nil]); first | done | rfl | (simp only [List.length_drop, List.length_take]; rfl)) ?_
               with_reducible refine (record_Size.calls k2 t324 t325 t326 _ _ x338003_1 t330 _ _ x338005_2 _ _ x338006_1 t344 _ ?side1 ?side2 ?side3 ?side4 ?side5 ?side6 A74.out).mono ?_
               (case side1 => repeat (first | exact (Kd.R_reads' HO_338003.out).2.2 | (with_reducible refine Kd.C_alloc ?_ _) | (with_reducible refine Kd.C_drewN ?_ _) | (with_reducible refine Kd.C_drew ?_)))
               (case side2 => exact (Kd.R_reads' HO_338003.out).2.1)
               (case side3 => repeat (first | exact (Kd.R_reads' HO_338005.out).2.2 | (with_reducible refine Kd.C_alloc ?_ _) | (with_reducible refine Kd.C_drewN ?_ _) | (with_reducible refine Kd.C_drew ?_)))
               (case side4 => exact (Kd.R_reads' HO_338005.out).2.1)
               (case side5 => repeat (first | exact (Kd.R_reads' HO_338006.out).2.2 | (with_reducible refine Kd.C_alloc ?_ _) | (with_reducible refine Kd.C_drewN ?_ _) | (with_reducible refine Kd.C_drew ?_)))
               (case side6 => exact (Kd.R_reads' HO_338006.out).2.1)
               rintro e w89 ⟨rfl, hb⟩
               refine ⟨_, rfl, ?_⟩
               have n0_ := Aside0.mk (Kd.R_below (Mark.r HO_307003) hb)
               have n1_ := Aside0.mk (Kd.V_below (Mark.v HO_307005) hb)
               have n2_ := Aside0.mk (Kd.R_below (Mark.r HO_307006) hb)
               have n3_ := Aside0.mk (Kd.R_below (Mark.r HO_321003) hb)
               have n4_ := Aside0.mk (Kd.R_below (Mark.r HO_321005) hb)
               have n5_ := Aside0.mk (Kd.R_below (Mark.r HO_321006) hb)
               have n6_ := Aside0.mk (Kd.R_below (Mark.r HO_338003) hb)
               have n7_ := Aside0.mk (Kd.R_below (Mark.r HO_338005) hb)
               have n8_ := Aside0.mk (Kd.R_below (Mark.r HO_338006) hb)
               have n9_ := Aside0.mk (blk_below (g := gb306) (o := .cells #[.string t293, .string t294, .int .i64 t295, .slice Ao83 x307003_1.length co83, .bool t299, .slice Ao84 x307005_2.length co84, .slice Ao85 x307006_1.length co85] 25 (0, 0)) (Mark.b BK306) hb)
               have n10_ := Aside0.mk (blk_below (g := gb320) (o := .cells #[.string t307, .string t308, .int .i64 t309, .slice Ao80 x321003_1.length co80, .bool t313, .slice Ao81 x321005_2.length co81, .slice Ao82 x321006_1.length co82] 25 (0, 0)) (Mark.b BK320) hb)
               have n11_ := Aside0.mk (blk_below (g := gb337) (o := .cells #[.string t324, .string t325, .int .i64 t326, .slice Ao60 x338003_1.length co60, .bool t330, .slice Ao78 x338005_2.length co78, .slice Ao87 x338006_1.length co87] 25 (0, 0)) (Mark.b BK337) hb)
               have n12_ := Aside0.mk (below_step Mark.h hb)
               clear HO_307003
               clear HO_307005
               clear HO_307006
               clear HO_321003
               clear HO_321005
               clear HO_321006
               clear HO_338003
               clear HO_338005
               clear HO_338006
               clear BK306
               clear BK320
               clear BK337
               clear HB
               have HO_307003 := n0_
               have HO_307005 := n1_
               have HO_307006 := n2_
               have HO_321003 := n3_
               have HO_321005 := n4_
               have HO_321006 := n5_
               have HO_338003 := n6_
               have HO_338005 := n7_
               have HO_338006 := n8_
               have BK306 := n9_
               have BK320 := n10_
               have BK337 := n11_
               have HB := n12_
               clear n0_ n1_ n2_ n3_ n4_ n5_ n6_ n7_ n8_ n9_ n10_ n11_ n12_
               (try clear hb)
               (try clear hb2)
               (try clear hk)
               (try clear hi)
               refine hK.out _ _ ⟨(blk_cell BK320.out 0).trans rfl, (blk_cell BK320.out 1).trans rfl, (blk_cell BK320.out 2).trans rfl, (blk_cell BK320.out 3).trans rfl, (blk_cell BK320.out 4).trans rfl, (blk_cell BK320.out 5).trans rfl, (blk_cell BK320.out 6).trans rfl, (blk_cell BK306.out 0).trans rfl, (blk_cell BK306.out 1).trans rfl, (blk_cell BK306.out 2).trans rfl, (blk_cell BK306.out 3).trans rfl, (blk_cell BK306.out 4).trans rfl, (blk_cell BK306.out 5).trans rfl, (blk_cell BK306.out 6).trans rfl, (blk_cell BK337.out 0).trans rfl, (blk_cell BK337.out 1).trans rfl, (blk_cell BK337.out 2).trans rfl, (blk_cell BK337.out 3).trans rfl, (blk_cell BK337.out 4).trans rfl, (blk_cell BK337.out 5).trans rfl, (blk_cell BK337.out 6).trans rfl⟩ (fun hHeld => ?_)
               clear hK K
               refine norm_ (a' := ?_) ?_ ?_
               rotate_left
               ·show Act.put _ (some 94) _ = _
                simp only [Act.put, List.setIfInBounds_toArray, List.set_cons_zero, List.set_cons_succ, i64_w, i32_w]
                rfl
               refine pure_ (i := 17) (N := some 100) (v := ?_) (a' := ?_) #[true, true, true, true, true, true, true, true, true, true, true, true, true, true, true, true, true, true, false, false] rfl rfl (any_of HT_.out (by kernel_rfl)) (fun _ _ _ h => h) (Or.inl ⟨by rfl, ?_⟩) ?_ ?_
               rotate_left
               ·intro w'
                go_simp
                with_reducible rfl
               rotate_left
               ·simp only [Act.put, List.setIfInBounds_toArray, List.set_cons_zero, List.set_cons_succ, i64_w, i32_w]
                rfl
               refine pure_ (i := 18) (N := some 101) (v := ?_) (a' := ?_) #[true, true, true, true, true, true, true, true, true, true, true, true, true, true, true, true, true, true, true, false] rfl rfl (any_of HT_.out (by kernel_rfl)) (fun _ _ _ h => h) (Or.inl ⟨by rfl, ?_⟩) ?_ ?_
               rotate_left
               ·intro w'
                go_simp
                with_reducible rfl
               rotate_left
               ·simp only [Act.put, List.setIfInBounds_toArray, List.set_cons_zero, List.set_cons_succ, i64_w, i32_w]
                rfl
               refine pure_ (i := 19) (N := some 2) (v := ?_) (a' := ?_) #[true, true, true, true, true, true, true, true, true, true, true, true, true, true, true, true, true, true, true, true] rfl rfl (any_of HT_.out (by kernel_rfl)) (fun _ _ _ h => h) (Or.inl ⟨by rfl, ?_⟩) ?_ ?_
               rotate_left
               ·intro w'
                go_simp
                with_reducible rfl
               rotate_left
               ·simp only [Act.put, List.setIfInBounds_toArray, List.set_cons_zero, List.set_cons_succ, i64_w, i32_w]
                rfl
               refine done_ (done_of HT_.out (by kernel_rfl)) ?_
               try go_wp2
               go_ret
               exact ⟨by first | rfl | (simp [errW_none, errW_some] <;> rfl) | (simp [*, errW_none, errW_some] <;> rfl), Mark.h⟩
             ·replace c71 := Bool.eq_false_iff.mpr c71
              subst c71
              rw [if_neg (show ¬ (false = true) by decide)] at H
              exact absurd ((Option.some.inj H).trans HT.out) (by decide)
      ·rw [if_neg c14] at H
       have c14b0 : ((t314.length : Int) == (t300.length : Int)) = false := beq_eq_false_iff_ne.mpr c14
       have c14b1 : ((t314.length : Int) != (t300.length : Int)) = true := bne_iff_ne.mpr c14
       have c14b2 : (t314.length == t300.length) = false := by first | simpa using c14 | (simp at c14 ⊢; omega)
       exact absurd ((Option.some.inj H).trans HT.out) (by decide)
     ·rw [if_neg c13] at H
      have c13b0 : ((t310.length : Int) == (t296.length : Int)) = false := beq_eq_false_iff_ne.mpr c13
      have c13b1 : ((t310.length : Int) != (t296.length : Int)) = true := bne_iff_ne.mpr c13
      have c13b2 : (t310.length == t296.length) = false := by first | simpa using c13 | (simp at c13 ⊢; omega)
      exact absurd ((Option.some.inj H).trans HT.out) (by decide)
    ·rw [if_neg c12] at H
     have c12b0 : (t323 == t321) = false := beq_eq_false_iff_ne.mpr c12
     have c12b1 : (t323 != t321) = true := bne_iff_ne.mpr c12
     exact absurd ((Option.some.inj H).trans HT.out) (by decide)
   ·replace c10 := Bool.eq_false_iff.mpr c10
    subst c10
    rw [if_neg (show ¬ (false = true) by decide)] at H
    exact absurd ((Option.some.inj H).trans HT.out) (by decide)
 ·replace c3 := Bool.eq_false_iff.mpr c3
  subst c3
  rw [if_neg (show ¬ (false = true) by decide)] at H
  exact absurd ((Option.some.inj H).trans HT.out) (by decide)

/-- THE ONE PURE STATEMENT of parallaxlaw12_RecordCopies: yours. -/
def parallaxlaw12_RecordCopies.Pure : Prop := ∀ (l0 : List Int), l0.length ≤ maxLen → l0.length * 1 ≤ 140737488351232 → (∀ x ∈ l0, (Lit.int .u8 x).wf = true) → ∃ k, parallaxlaw12_RecordCopies.f k l0 = some true
theorem parallaxlaw12_RecordCopies.walk (P : parallaxlaw12_RecordCopies.Pure) (a0 : Option Addr) (len0 cap0 : Nat) (z0 : List Int) (w : World) (w0 : (a0 = none ∧ len0 = 0 ∧ cap0 = 0 ∧ z0 = []) ∨ ∃ x, a0 = some x ∧ len0 ≤ cap0 ∧ cap0 ≤ maxLen ∧ z0.length = cap0 ∧ (∀ i, i < z0.length → w.cell? (x.add i) = some (.int .u8 (z0.getD i 0))) ∧ ∀ n ∈ z0, (Lit.int .u8 n).wf = true) (y0 : len0 * 1 ≤ 140737488351232) :
  Calls Tryd.prog 5 #[.slice a0 len0 cap0] w fun e w' => e = .returned (.bool true) ∧ Below w.heap.size w w' := by
 obtain ⟨l0, rfl, hr0, hm0, hw0, hc0⟩ := ReadsInt.ofRowC w0
 obtain ⟨k, h⟩ := P l0 hm0 y0 hw0
 refine (parallaxlaw12_RecordCopies.calls k _ _ l0 true w (Kd.C_of_reads (d := (0 : Int)) (h1 := fun _ => rfl) hr0) hc0 rfl h).mono ?_
 rintro e w' ⟨rfl, hd⟩
 exact ⟨rfl, hd⟩

end Go.Proofs.YtomofacchnmepaaDoor.PRecordCopies
