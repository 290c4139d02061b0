-- Written by a program of this session (wip/tools/myprint.sh)
import Derived.Test.YtclaaacdmaeblaaDoorPRequestClausesx0
import Derived.Test.YtclaaacdmaeblaaDoorPRequestClausesx8
namespace Go.Proofs.YtclaaacdmaeblaaDoor.PRequestClauses
open Go.RowKit Go.Proofs.YtclaaacdmaeblaaDoorW.PrintWords Go.Proofs.YtclaaacdmaeblaaDoorW.PrintLast Go.Proofs.YtclaaacdmaeblaaDoorW.PrintMore
attribute [local go_sem] max2_int min2_int max_two min_two max_three min_three max_four min_four   -- for this text's walks alone
set_option linter.unusedVariables false
set_option linter.unusedSimpArgs false

/-! ### parallaxlaw8_RequestClauses: function 5 -/
mutual
def parallaxlaw8_RequestClauses.j0 : Nat → Int → Int → Int → ByteArray → ByteArray → Int → Int → Bool → Option (Bool)
  | 0, _, _, _, _, _, _, _, _ => none
  | k + 1, x0, x8, x14, x15, x16, x17, x18, x68 => if x68 = true then (if x14 = 400 then (some (x18 == 505)) else (some false)) else ((some (([(⟨#[47, 97]⟩ : ByteArray), (⟨#[47, 97]⟩ : ByteArray), (⟨#[47, 97]⟩ : ByteArray), (⟨#[47, 97]⟩ : ByteArray), (⟨#[47, 97, 32, 98]⟩ : ByteArray), (⟨#[47, 97, 1]⟩ : ByteArray)] : List ByteArray) : List ByteArray)).bind fun y303 => (if 0 ≤ (Int.tmod x0 6) then (if (Int.tmod x0 6) < (y303.length : Int) then (if x8 = 6 then (parallaxlaw8_RequestClauses.j1 k x8 x14 x15 x16 x17 x18 (rdOf ByteArray.empty y303 (Int.tmod x0 6)) 0) else (parallaxlaw8_RequestClauses.j1 k x8 x14 x15 x16 x17 x18 (rdOf ByteArray.empty y303 (Int.tmod x0 6)) 1)) else (none)) else (none)))
def parallaxlaw8_RequestClauses.j1 : Nat → Int → Int → ByteArray → ByteArray → Int → Int → ByteArray → Int → Option (Bool)
  | 0, _, _, _, _, _, _, _, _ => none
  | k + 1, x8, x14, x15, x16, x17, x18, x19, x20 => if x8 = 4 then (if x14 = 505 then (if x18 = 0 then (if x15.toList = ([71, 69, 84] : List UInt8) then (if x16.toList = x19.toList then (parallaxlaw8_RequestClauses.j2 k (x17 == x20)) else (parallaxlaw8_RequestClauses.j2 k false)) else (parallaxlaw8_RequestClauses.j2 k false)) else (parallaxlaw8_RequestClauses.j2 k false)) else (parallaxlaw8_RequestClauses.j2 k false)) else (if x8 = 5 then (parallaxlaw8_RequestClauses.j3 k x15 x16 x17 x18 x19 x20 (x14 == 505)) else (parallaxlaw8_RequestClauses.j3 k x15 x16 x17 x18 x19 x20 (x14 == 400)))
def parallaxlaw8_RequestClauses.j2 : Nat → Bool → Option (Bool)
  | 0, _ => none
  | k + 1, x6 => some x6
def parallaxlaw8_RequestClauses.j3 : Nat → ByteArray → ByteArray → Int → Int → ByteArray → Int → Bool → Option (Bool)
  | 0, _, _, _, _, _, _, _ => none
  | k + 1, x15, x16, x17, x18, x19, x20, x21 => if x21 = true then (if x18 = 0 then (if x15.toList = ([71, 69, 84] : List UInt8) then (if x16.toList = x19.toList then (parallaxlaw8_RequestClauses.j4 k (x17 == x20)) else (parallaxlaw8_RequestClauses.j4 k false)) else (parallaxlaw8_RequestClauses.j4 k false)) else (parallaxlaw8_RequestClauses.j4 k false)) else (parallaxlaw8_RequestClauses.j4 k false)
def parallaxlaw8_RequestClauses.j4 : Nat → Bool → Option (Bool)
  | 0, _ => none
  | k + 1, x6 => some x6
end
def parallaxlaw8_RequestClauses.f (k : Nat) (a0 : Int) (a1 : Int) (a2 : Bool) : Option (Bool) := (parallaxlaw8_known.f k).bind fun t275 => (if t275 = true then ((parallaxref4_Usual.f).bind fun bt276 => ((some (([3, 4, 5, 6, 7, 8] : List Int) : List Int)).bind fun y287 => (if 0 ≤ (Int.tmod a0 6) then (if (Int.tmod a0 6) < (y287.length : Int) then ((some (([(⟨#[71, 69, 84, 32, 9, 47, 97, 32, 32, 72, 84, 84, 80, 47, 49, 46, 49]⟩ : ByteArray), (⟨#[71, 69, 84, 32, 47, 97, 32, 72, 84, 84, 80, 47, 49, 46, 55]⟩ : ByteArray), (⟨#[71, 69, 84, 32, 47, 97, 32, 72, 116, 84, 112, 47, 49, 46, 49]⟩ : ByteArray), (⟨#[71, 69, 84, 32, 47, 97]⟩ : ByteArray), (⟨#[71, 69, 84, 32, 47, 97, 32, 98, 32, 72, 84, 84, 80, 47, 49, 46, 49]⟩ : ByteArray), (⟨#[71, 69, 84, 32, 47, 97, 1, 32, 72, 84, 84, 80, 47, 49, 46, 49]⟩ : ByteArray)] : List ByteArray) : List ByteArray)).bind fun y291 => (if (Int.tmod a0 6) < (y291.length : Int) then (if 0 ≤ (rd y287 (Int.tmod a0 6)) then ((request_Parse.f k (rdOf ByteArray.empty y291 (Int.tmod a0 6)) (Go.bits .andNot .u32 (Go.bits .and .u32 a1 1073741823) (shl .u32 1 (rd y287 (Int.tmod a0 6)))) bt276.1 bt276.2.1 bt276.2.2.1 bt276.2.2.2.1 bt276.2.2.2.2.1 bt276.2.2.2.2.2.1 bt276.2.2.2.2.2.2.1 bt276.2.2.2.2.2.2.2.1 bt276.2.2.2.2.2.2.2.2.1 a2).bind fun bt295 => ((request_Parse.f k (rdOf ByteArray.empty y291 (Int.tmod a0 6)) (Go.bits .or .u32 (Go.bits .andNot .u32 (Go.bits .and .u32 a1 1073741823) (shl .u32 1 (rd y287 (Int.tmod a0 6)))) (shl .u32 1 (rd y287 (Int.tmod a0 6)))) bt276.1 bt276.2.1 bt276.2.2.1 bt276.2.2.2.1 bt276.2.2.2.2.1 bt276.2.2.2.2.2.1 bt276.2.2.2.2.2.2.1 bt276.2.2.2.2.2.2.2.1 bt276.2.2.2.2.2.2.2.2.1 a2).bind fun bt299 => (if (rd y287 (Int.tmod a0 6)) = 6 then (parallaxlaw8_RequestClauses.j0 k a0 (rd y287 (Int.tmod a0 6)) bt295.2.2.2 bt299.1 bt299.2.1 bt299.2.2.1 bt299.2.2.2 (!a2)) else (parallaxlaw8_RequestClauses.j0 k a0 (rd y287 (Int.tmod a0 6)) bt295.2.2.2 bt299.1 bt299.2.1 bt299.2.2.1 bt299.2.2.2 false)))) else (none)) else (none))) else (none)) else (none)))) else (some false))
theorem parallaxlaw8_RequestClauses.mono_l : ∀ k, (∀ y0 y1 y2 y3 y4 y5 y6 y7, LeO (parallaxlaw8_RequestClauses.j0 k y0 y1 y2 y3 y4 y5 y6 y7) (parallaxlaw8_RequestClauses.j0 (k + 1) y0 y1 y2 y3 y4 y5 y6 y7)) ∧ (∀ y0 y1 y2 y3 y4 y5 y6 y7, LeO (parallaxlaw8_RequestClauses.j1 k y0 y1 y2 y3 y4 y5 y6 y7) (parallaxlaw8_RequestClauses.j1 (k + 1) y0 y1 y2 y3 y4 y5 y6 y7)) ∧ (∀ y0, LeO (parallaxlaw8_RequestClauses.j2 k y0) (parallaxlaw8_RequestClauses.j2 (k + 1) y0)) ∧ (∀ y0 y1 y2 y3 y4 y5 y6, LeO (parallaxlaw8_RequestClauses.j3 k y0 y1 y2 y3 y4 y5 y6) (parallaxlaw8_RequestClauses.j3 (k + 1) y0 y1 y2 y3 y4 y5 y6)) ∧ (∀ y0, LeO (parallaxlaw8_RequestClauses.j4 k y0) (parallaxlaw8_RequestClauses.j4 (k + 1) y0))
  | 0 => ⟨fun _ _ _ _ _ _ _ _ r h => by simp [parallaxlaw8_RequestClauses.j0] at h, fun _ _ _ _ _ _ _ _ r h => by simp [parallaxlaw8_RequestClauses.j1] at h, fun _ r h => by simp [parallaxlaw8_RequestClauses.j2] at h, fun _ _ _ _ _ _ _ r h => by simp [parallaxlaw8_RequestClauses.j3] at h, fun _ r h => by simp [parallaxlaw8_RequestClauses.j4] at h⟩
  | k + 1 => by
    obtain ⟨ih0, ih1, ih2, ih3, ih4⟩ := parallaxlaw8_RequestClauses.mono_l k
    refine ⟨?_, ?_, ?_, ?_, ?_⟩
    · intro y0 y1 y2 y3 y4 y5 y6 y7
      unfold parallaxlaw8_RequestClauses.j0
      repeat' first
      | (with_reducible exact ih0 _ _ _ _ _ _ _ _)
      | (with_reducible exact ih1 _ _ _ _ _ _ _ _)
      | (with_reducible exact ih2 _)
      | (with_reducible exact ih3 _ _ _ _ _ _ _)
      | (with_reducible exact ih4 _)
      | (with_reducible exact parallaxlaw8_known.mono _)
      | (with_reducible exact request_Parse.mono _ _ _ _ _ _ _ _ _ _ _ _ _)
      | (with_reducible exact LeO.refl _)
      | (with_reducible exact LeO.none _)
      | (with_reducible refine LeO.ite ?_ ?_)
      | (with_reducible refine LeO.bind ?_ (fun _ => ?_))
      | exact ih0 _ _ _ _ _ _ _ _
      | exact ih1 _ _ _ _ _ _ _ _
      | exact ih2 _
      | exact ih3 _ _ _ _ _ _ _
      | exact ih4 _
      | exact parallaxlaw8_known.mono _
      | exact request_Parse.mono _ _ _ _ _ _ _ _ _ _ _ _ _
      | exact LeO.none _
      | refine LeO.ite ?_ ?_
      | refine LeO.bind ?_ (fun _ => ?_)
    · intro y0 y1 y2 y3 y4 y5 y6 y7
      unfold parallaxlaw8_RequestClauses.j1
      repeat' first
      | (with_reducible exact ih0 _ _ _ _ _ _ _ _)
      | (with_reducible exact ih1 _ _ _ _ _ _ _ _)
      | (with_reducible exact ih2 _)
      | (with_reducible exact ih3 _ _ _ _ _ _ _)
      | (with_reducible exact ih4 _)
      | (with_reducible exact parallaxlaw8_known.mono _)
      | (with_reducible exact request_Parse.mono _ _ _ _ _ _ _ _ _ _ _ _ _)
      | (with_reducible exact LeO.refl _)
      | (with_reducible exact LeO.none _)
      | (with_reducible refine LeO.ite ?_ ?_)
      | (with_reducible refine LeO.bind ?_ (fun _ => ?_))
      | exact ih0 _ _ _ _ _ _ _ _
      | exact ih1 _ _ _ _ _ _ _ _
      | exact ih2 _
      | exact ih3 _ _ _ _ _ _ _
      | exact ih4 _
      | exact parallaxlaw8_known.mono _
      | exact request_Parse.mono _ _ _ _ _ _ _ _ _ _ _ _ _
      | exact LeO.none _
      | refine LeO.ite ?_ ?_
      | refine LeO.bind ?_ (fun _ => ?_)
    · intro y0
      unfold parallaxlaw8_RequestClauses.j2
      repeat' first
      | (with_reducible exact ih0 _ _ _ _ _ _ _ _)
      | (with_reducible exact ih1 _ _ _ _ _ _ _ _)
      | (with_reducible exact ih2 _)
      | (with_reducible exact ih3 _ _ _ _ _ _ _)
      | (with_reducible exact ih4 _)
      | (with_reducible exact parallaxlaw8_known.mono _)
      | (with_reducible exact request_Parse.mono _ _ _ _ _ _ _ _ _ _ _ _ _)
      | (with_reducible exact LeO.refl _)
      | (with_reducible exact LeO.none _)
      | (with_reducible refine LeO.ite ?_ ?_)
      | (with_reducible refine LeO.bind ?_ (fun _ => ?_))
      | exact ih0 _ _ _ _ _ _ _ _
      | exact ih1 _ _ _ _ _ _ _ _
      | exact ih2 _
      | exact ih3 _ _ _ _ _ _ _
      | exact ih4 _
      | exact parallaxlaw8_known.mono _
      | exact request_Parse.mono _ _ _ _ _ _ _ _ _ _ _ _ _
      | exact LeO.none _
      | refine LeO.ite ?_ ?_
      | refine LeO.bind ?_ (fun _ => ?_)
    · intro y0 y1 y2 y3 y4 y5 y6
      unfold parallaxlaw8_RequestClauses.j3
      repeat' first
      | (with_reducible exact ih0 _ _ _ _ _ _ _ _)
      | (with_reducible exact ih1 _ _ _ _ _ _ _ _)
      | (with_reducible exact ih2 _)
      | (with_reducible exact ih3 _ _ _ _ _ _ _)
      | (with_reducible exact ih4 _)
      | (with_reducible exact parallaxlaw8_known.mono _)
      | (with_reducible exact request_Parse.mono _ _ _ _ _ _ _ _ _ _ _ _ _)
      | (with_reducible exact LeO.refl _)
      | (with_reducible exact LeO.none _)
      | (with_reducible refine LeO.ite ?_ ?_)
      | (with_reducible refine LeO.bind ?_ (fun _ => ?_))
      | exact ih0 _ _ _ _ _ _ _ _
      | exact ih1 _ _ _ _ _ _ _ _
      | exact ih2 _
      | exact ih3 _ _ _ _ _ _ _
      | exact ih4 _
      | exact parallaxlaw8_known.mono _
      | exact request_Parse.mono _ _ _ _ _ _ _ _ _ _ _ _ _
      | exact LeO.none _
      | refine LeO.ite ?_ ?_
      | refine LeO.bind ?_ (fun _ => ?_)
    · intro y0
      unfold parallaxlaw8_RequestClauses.j4
      repeat' first
      | (with_reducible exact ih0 _ _ _ _ _ _ _ _)
      | (with_reducible exact ih1 _ _ _ _ _ _ _ _)
      | (with_reducible exact ih2 _)
      | (with_reducible exact ih3 _ _ _ _ _ _ _)
      | (with_reducible exact ih4 _)
      | (with_reducible exact parallaxlaw8_known.mono _)
      | (with_reducible exact request_Parse.mono _ _ _ _ _ _ _ _ _ _ _ _ _)
      | (with_reducible exact LeO.refl _)
      | (with_reducible exact LeO.none _)
      | (with_reducible refine LeO.ite ?_ ?_)
      | (with_reducible refine LeO.bind ?_ (fun _ => ?_))
      | exact ih0 _ _ _ _ _ _ _ _
      | exact ih1 _ _ _ _ _ _ _ _
      | exact ih2 _
      | exact ih3 _ _ _ _ _ _ _
      | exact ih4 _
      | exact parallaxlaw8_known.mono _
      | exact request_Parse.mono _ _ _ _ _ _ _ _ _ _ _ _ _
      | exact LeO.none _
      | refine LeO.ite ?_ ?_
      | refine LeO.bind ?_ (fun _ => ?_)
theorem parallaxlaw8_RequestClauses.mono : ∀ a0 a1 a2 k, LeO (parallaxlaw8_RequestClauses.f k a0 a1 a2) (parallaxlaw8_RequestClauses.f (k + 1) a0 a1 a2) := by
  intro a0 a1 a2 k
  obtain ⟨ih0, ih1, ih2, ih3, ih4⟩ := parallaxlaw8_RequestClauses.mono_l k
  unfold parallaxlaw8_RequestClauses.f
  repeat' first
      | (with_reducible exact ih0 _ _ _ _ _ _ _ _)
      | (with_reducible exact ih1 _ _ _ _ _ _ _ _)
      | (with_reducible exact ih2 _)
      | (with_reducible exact ih3 _ _ _ _ _ _ _)
      | (with_reducible exact ih4 _)
      | (with_reducible exact parallaxlaw8_known.mono _)
      | (with_reducible exact request_Parse.mono _ _ _ _ _ _ _ _ _ _ _ _ _)
      | (with_reducible exact LeO.refl _)
      | (with_reducible exact LeO.none _)
      | (with_reducible refine LeO.ite ?_ ?_)
      | (with_reducible refine LeO.bind ?_ (fun _ => ?_))
      | exact ih0 _ _ _ _ _ _ _ _
      | exact ih1 _ _ _ _ _ _ _ _
      | exact ih2 _
      | exact ih3 _ _ _ _ _ _ _
      | exact ih4 _
      | exact parallaxlaw8_known.mono _
      | exact request_Parse.mono _ _ _ _ _ _ _ _ _ _ _ _ _
      | exact LeO.none _
      | refine LeO.ite ?_ ?_
      | refine LeO.bind ?_ (fun _ => ?_)
def parallaxlaw8_RequestClauses.T9 : Bool × List (List Nat × List Nat) := (true, [([], []), ([], []), ([], []), ([2], [2]), ([1, 3], [1, 3]), ([], []), ([0, 4, 5], [0, 4, 5]), ([6], [6]), ([7], [7]), ([7], [7]), ([7], [7]), ([7], [7]), ([8, 6, 0, 1, 2, 3, 4, 5, 6, 7, 8], [8]), ([9, 12, 0, 1, 2, 3, 4, 5, 6, 7, 8, 9, 12], [9]), ([10, 13, 0, 1, 2, 3, 4, 5, 6, 7, 8, 9, 10, 12, 13], [10]), ([11, 14, 0, 1, 2, 3, 4, 5, 6, 7, 8, 9, 10, 11, 12, 13, 14], [11])])
def parallaxlaw8_RequestClauses.B9 : List Nat := [0, 0, 0, 4, 14, 0, 63, 127, 255, 255, 255, 255, 511, 5119, 14335, 32767]
theorem parallaxlaw8_RequestClauses.tab9 : rtab .any (opsOf Tryd.f5 9) = parallaxlaw8_RequestClauses.T9 := by kernel_rfl
theorem parallaxlaw8_RequestClauses.bits9 : waitsOk parallaxlaw8_RequestClauses.T9.2 parallaxlaw8_RequestClauses.B9 = true := by kernel_rfl
set_option maxHeartbeats 8000000 in
set_option maxRecDepth 100000 in
theorem parallaxlaw8_RequestClauses.calls (k : Nat) (a0 : Int) (a1 : Int) (a2 : Bool) (r : Bool) (w : World) (hq0 : (Lit.int .u8 a0).wf = true) (hq1 : (Lit.int .u32 a1).wf = true) (hT : r = true) (h : parallaxlaw8_RequestClauses.f k a0 a1 a2 = some r) :
    Calls Tryd.prog 5 #[.int .u8 a0, .int .u32 a1, .bool a2] w fun e w' => e = .returned (.bool r) ∧ Below w.heap.size w w' := by
  have hu28 := Tryd.underlying28
  have HQ0 := Aside0.mk hq0
  clear hq0
  have HQ1 := Aside0.mk hq1
  clear hq1
  have HT := Aside0.mk hT
  clear hT
  have HB := Aside0.mk (Below.refl w.heap.size w)
  have H : ((parallaxlaw8_known.f k).bind fun t275 => (if t275 = true then ((parallaxref4_Usual.f).bind fun bt276 => ((some (([3, 4, 5, 6, 7, 8] : List Int) : List Int)).bind fun y287 => (if 0 ≤ (Int.tmod a0 6) then (if (Int.tmod a0 6) < (y287.length : Int) then ((some (([(⟨#[71, 69, 84, 32, 9, 47, 97, 32, 32, 72, 84, 84, 80, 47, 49, 46, 49]⟩ : ByteArray), (⟨#[71, 69, 84, 32, 47, 97, 32, 72, 84, 84, 80, 47, 49, 46, 55]⟩ : ByteArray), (⟨#[71, 69, 84, 32, 47, 97, 32, 72, 116, 84, 112, 47, 49, 46, 49]⟩ : ByteArray), (⟨#[71, 69, 84, 32, 47, 97]⟩ : ByteArray), (⟨#[71, 69, 84, 32, 47, 97, 32, 98, 32, 72, 84, 84, 80, 47, 49, 46, 49]⟩ : ByteArray), (⟨#[71, 69, 84, 32, 47, 97, 1, 32, 72, 84, 84, 80, 47, 49, 46, 49]⟩ : ByteArray)] : List ByteArray) : List ByteArray)).bind fun y291 => (if (Int.tmod a0 6) < (y291.length : Int) then (if 0 ≤ (rd y287 (Int.tmod a0 6)) then ((request_Parse.f k (rdOf ByteArray.empty y291 (Int.tmod a0 6)) (Go.bits .andNot .u32 (Go.bits .and .u32 a1 1073741823) (shl .u32 1 (rd y287 (Int.tmod a0 6)))) bt276.1 bt276.2.1 bt276.2.2.1 bt276.2.2.2.1 bt276.2.2.2.2.1 bt276.2.2.2.2.2.1 bt276.2.2.2.2.2.2.1 bt276.2.2.2.2.2.2.2.1 bt276.2.2.2.2.2.2.2.2.1 a2).bind fun bt295 => ((request_Parse.f k (rdOf ByteArray.empty y291 (Int.tmod a0 6)) (Go.bits .or .u32 (Go.bits .andNot .u32 (Go.bits .and .u32 a1 1073741823) (shl .u32 1 (rd y287 (Int.tmod a0 6)))) (shl .u32 1 (rd y287 (Int.tmod a0 6)))) bt276.1 bt276.2.1 bt276.2.2.1 bt276.2.2.2.1 bt276.2.2.2.2.1 bt276.2.2.2.2.2.1 bt276.2.2.2.2.2.2.1 bt276.2.2.2.2.2.2.2.1 bt276.2.2.2.2.2.2.2.2.1 a2).bind fun bt299 => (if (rd y287 (Int.tmod a0 6)) = 6 then (parallaxlaw8_RequestClauses.j0 k a0 (rd y287 (Int.tmod a0 6)) bt295.2.2.2 bt299.1 bt299.2.1 bt299.2.2.1 bt299.2.2.2 (!a2)) else (parallaxlaw8_RequestClauses.j0 k a0 (rd y287 (Int.tmod a0 6)) bt295.2.2.2 bt299.1 bt299.2.1 bt299.2.2.1 bt299.2.2.2 false)))) else (none)) else (none))) else (none)) else (none)))) else (some false))) = some r := h
  clear h
  replace H := Option.bind_eq_some_iff.mp H
  obtain ⟨t275, A40, H⟩ := H
  (try dsimp only at H)
  have A4 := Aside0.mk A40
  clear A40
  by_cases c5 : t275 = true
  · subst c5
    rw [if_pos rfl] at H
    replace H := Option.bind_eq_some_iff.mp H
    obtain ⟨⟨t276, t277, t278, t279, t280, t281, t282, t283, t284, t285⟩, A60, H⟩ := H
    (try dsimp only at H)
    have A6 := Aside0.mk A60
    clear A60
    obtain ⟨y287, hy287⟩ : ∃ y_ : List Int, y_ = (([3, 4, 5, 6, 7, 8] : List Int)) := ⟨_, rfl⟩
    replace H : (if 0 ≤ (Int.tmod a0 6) then (if (Int.tmod a0 6) < (y287.length : Int) then ((some (([(⟨#[71, 69, 84, 32, 9, 47, 97, 32, 32, 72, 84, 84, 80, 47, 49, 46, 49]⟩ : ByteArray), (⟨#[71, 69, 84, 32, 47, 97, 32, 72, 84, 84, 80, 47, 49, 46, 55]⟩ : ByteArray), (⟨#[71, 69, 84, 32, 47, 97, 32, 72, 116, 84, 112, 47, 49, 46, 49]⟩ : ByteArray), (⟨#[71, 69, 84, 32, 47, 97]⟩ : ByteArray), (⟨#[71, 69, 84, 32, 47, 97, 32, 98, 32, 72, 84, 84, 80, 47, 49, 46, 49]⟩ : ByteArray), (⟨#[71, 69, 84, 32, 47, 97, 1, 32, 72, 84, 84, 80, 47, 49, 46, 49]⟩ : ByteArray)] : List ByteArray) : List ByteArray)).bind fun y291 => (if (Int.tmod a0 6) < (y291.length : Int) then (if 0 ≤ (rd y287 (Int.tmod a0 6)) then ((request_Parse.f k (rdOf ByteArray.empty y291 (Int.tmod a0 6)) (Go.bits .andNot .u32 (Go.bits .and .u32 a1 1073741823) (shl .u32 1 (rd y287 (Int.tmod a0 6)))) t276 t277 t278 t279 t280 t281 t282 t283 t284 a2).bind fun bt295 => ((request_Parse.f k (rdOf ByteArray.empty y291 (Int.tmod a0 6)) (Go.bits .or .u32 (Go.bits .andNot .u32 (Go.bits .and .u32 a1 1073741823) (shl .u32 1 (rd y287 (Int.tmod a0 6)))) (shl .u32 1 (rd y287 (Int.tmod a0 6)))) t276 t277 t278 t279 t280 t281 t282 t283 t284 a2).bind fun bt299 => (if (rd y287 (Int.tmod a0 6)) = 6 then (parallaxlaw8_RequestClauses.j0 k a0 (rd y287 (Int.tmod a0 6)) bt295.2.2.2 bt299.1 bt299.2.1 bt299.2.2.1 bt299.2.2.2 (!a2)) else (parallaxlaw8_RequestClauses.j0 k a0 (rd y287 (Int.tmod a0 6)) bt295.2.2.2 bt299.1 bt299.2.1 bt299.2.2.1 bt299.2.2.2 false)))) else (none)) else (none))) else (none)) else (none)) = some r := by first | (rw [hy287]; with_reducible exact H) | (have H2_ := (Option.bind_some _ _).symm.trans H; rw [hy287]; with_reducible exact H2_) | (have H2_ := (Option.bind_some _ _).symm.trans H; with_reducible exact H2_) | with_reducible exact H | (rw [hy287]; exact H) | exact H
    have Ny287 := Aside0.mk hy287
    clear hy287
    obtain ⟨ji7, hji7⟩ : ∃ j_ : Int, (Int.tmod a0 6) = j_ := ⟨_, rfl⟩
    replace H : (if 0 ≤ (ji7) then (if (ji7) < (y287.length : Int) then ((some (([(⟨#[71, 69, 84, 32, 9, 47, 97, 32, 32, 72, 84, 84, 80, 47, 49, 46, 49]⟩ : ByteArray), (⟨#[71, 69, 84, 32, 47, 97, 32, 72, 84, 84, 80, 47, 49, 46, 55]⟩ : ByteArray), (⟨#[71, 69, 84, 32, 47, 97, 32, 72, 116, 84, 112, 47, 49, 46, 49]⟩ : ByteArray), (⟨#[71, 69, 84, 32, 47, 97]⟩ : ByteArray), (⟨#[71, 69, 84, 32, 47, 97, 32, 98, 32, 72, 84, 84, 80, 47, 49, 46, 49]⟩ : ByteArray), (⟨#[71, 69, 84, 32, 47, 97, 1, 32, 72, 84, 84, 80, 47, 49, 46, 49]⟩ : ByteArray)] : List ByteArray) : List ByteArray)).bind fun y291 => (if (ji7) < (y291.length : Int) then (if 0 ≤ (rd y287 (ji7)) then ((request_Parse.f k (rdOf ByteArray.empty y291 (ji7)) (Go.bits .andNot .u32 (Go.bits .and .u32 a1 1073741823) (shl .u32 1 (rd y287 (ji7)))) t276 t277 t278 t279 t280 t281 t282 t283 t284 a2).bind fun bt295 => ((request_Parse.f k (rdOf ByteArray.empty y291 (ji7)) (Go.bits .or .u32 (Go.bits .andNot .u32 (Go.bits .and .u32 a1 1073741823) (shl .u32 1 (rd y287 (ji7)))) (shl .u32 1 (rd y287 (ji7)))) t276 t277 t278 t279 t280 t281 t282 t283 t284 a2).bind fun bt299 => (if (rd y287 (ji7)) = 6 then (parallaxlaw8_RequestClauses.j0 k a0 (rd y287 (ji7)) bt295.2.2.2 bt299.1 bt299.2.1 bt299.2.2.1 bt299.2.2.2 (!a2)) else (parallaxlaw8_RequestClauses.j0 k a0 (rd y287 (ji7)) bt295.2.2.2 bt299.1 bt299.2.1 bt299.2.2.1 bt299.2.2.2 false)))) else (none)) else (none))) else (none)) else (none)) = some r := by first | (rw [hji7] at H; exact H) | (simp only [hji7] at H ⊢; exact H)
    (try rw [hji7] at A4)
    (try rw [hji7] at A6)
    by_cases c8 : 0 ≤ (ji7)
    · rw [if_pos c8] at H
      have c8b0 : decide (0 ≤ (ji7)) = true := decide_eq_true c8
      clear c8
      by_cases c9 : (ji7) < (y287.length : Int)
      · rw [if_pos c9] at H
        have c9b0 : decide ((ji7) < (y287.length : Int)) = true := decide_eq_true c9
        clear c9
        obtain ⟨y291, hy291⟩ : ∃ y_ : List ByteArray, y_ = (([(⟨#[71, 69, 84, 32, 9, 47, 97, 32, 32, 72, 84, 84, 80, 47, 49, 46, 49]⟩ : ByteArray), (⟨#[71, 69, 84, 32, 47, 97, 32, 72, 84, 84, 80, 47, 49, 46, 55]⟩ : ByteArray), (⟨#[71, 69, 84, 32, 47, 97, 32, 72, 116, 84, 112, 47, 49, 46, 49]⟩ : ByteArray), (⟨#[71, 69, 84, 32, 47, 97]⟩ : ByteArray), (⟨#[71, 69, 84, 32, 47, 97, 32, 98, 32, 72, 84, 84, 80, 47, 49, 46, 49]⟩ : ByteArray), (⟨#[71, 69, 84, 32, 47, 97, 1, 32, 72, 84, 84, 80, 47, 49, 46, 49]⟩ : ByteArray)] : List ByteArray)) := ⟨_, rfl⟩
        replace H : (if (ji7) < (y291.length : Int) then (if 0 ≤ (rd y287 (ji7)) then ((request_Parse.f k (rdOf ByteArray.empty y291 (ji7)) (Go.bits .andNot .u32 (Go.bits .and .u32 a1 1073741823) (shl .u32 1 (rd y287 (ji7)))) t276 t277 t278 t279 t280 t281 t282 t283 t284 a2).bind fun bt295 => ((request_Parse.f k (rdOf ByteArray.empty y291 (ji7)) (Go.bits .or .u32 (Go.bits .andNot .u32 (Go.bits .and .u32 a1 1073741823) (shl .u32 1 (rd y287 (ji7)))) (shl .u32 1 (rd y287 (ji7)))) t276 t277 t278 t279 t280 t281 t282 t283 t284 a2).bind fun bt299 => (if (rd y287 (ji7)) = 6 then (parallaxlaw8_RequestClauses.j0 k a0 (rd y287 (ji7)) bt295.2.2.2 bt299.1 bt299.2.1 bt299.2.2.1 bt299.2.2.2 (!a2)) else (parallaxlaw8_RequestClauses.j0 k a0 (rd y287 (ji7)) bt295.2.2.2 bt299.1 bt299.2.1 bt299.2.2.1 bt299.2.2.2 false)))) else (none)) else (none)) = some r := by first | (rw [hy291]; with_reducible exact H) | (have H2_ := (Option.bind_some _ _).symm.trans H; rw [hy291]; with_reducible exact H2_) | (have H2_ := (Option.bind_some _ _).symm.trans H; with_reducible exact H2_) | with_reducible exact H | (rw [hy291]; exact H) | exact H
        have Ny291 := Aside0.mk hy291
        clear hy291
        by_cases c10 : (ji7) < (y291.length : Int)
        · rw [if_pos c10] at H
          have c10b0 : decide ((ji7) < (y291.length : Int)) = true := decide_eq_true c10
          clear c10
          by_cases c11 : 0 ≤ (rd y287 (ji7))
          · rw [if_pos c11] at H
            have c11b0 := eq_true c11
            have c11b1 : decide (0 ≤ (rd y287 (ji7))) = true := decide_eq_true c11
            clear c11
            obtain ⟨ji12, hji12⟩ : ∃ j_ : Int, (shl .u32 1 (rd y287 (ji7))) = j_ := ⟨_, rfl⟩
            have hji12s := (Mark.shl1_spell (rd y287 (ji7))).trans hji12
            replace H : ((request_Parse.f k (rdOf ByteArray.empty y291 (ji7)) (Go.bits .andNot .u32 (Go.bits .and .u32 a1 1073741823) (ji12)) t276 t277 t278 t279 t280 t281 t282 t283 t284 a2).bind fun bt295 => ((request_Parse.f k (rdOf ByteArray.empty y291 (ji7)) (Go.bits .or .u32 (Go.bits .andNot .u32 (Go.bits .and .u32 a1 1073741823) (ji12)) (ji12)) t276 t277 t278 t279 t280 t281 t282 t283 t284 a2).bind fun bt299 => (if (rd y287 (ji7)) = 6 then (parallaxlaw8_RequestClauses.j0 k a0 (rd y287 (ji7)) bt295.2.2.2 bt299.1 bt299.2.1 bt299.2.2.1 bt299.2.2.2 (!a2)) else (parallaxlaw8_RequestClauses.j0 k a0 (rd y287 (ji7)) bt295.2.2.2 bt299.1 bt299.2.1 bt299.2.2.1 bt299.2.2.2 false)))) = some r := by first | (rw [hji12] at H; exact H) | (simp only [hji12] at H ⊢; exact H)
            (try rw [hji12] at A4)
            (try rw [hji12] at A6)
            have hji12_ : (IntKind.u32.wrap (1 * 2 ^ min (rd y287 (ji7)).toNat 32)) = ji12 := hji12
            have hji12z : (rd y287 (ji7)) ≤ 32 → (IntKind.u32.wrap (1 * 2 ^ (rd y287 (ji7)).toNat)) = ji12 := shl_small hji12
            have hji12u : (IntKind.u32.wrap (2 ^ min (rd y287 (ji7)).toNat 32)) = ji12 := by have h_ := hji12_; rw [Int.one_mul] at h_; exact h_
            have hji12v : (rd y287 (ji7)) ≤ 32 → (IntKind.u32.wrap (2 ^ (rd y287 (ji7)).toNat)) = ji12 := fun hle_ => by have h_ := hji12z hle_; rw [Int.one_mul] at h_; exact h_
            replace H := Option.bind_eq_some_iff.mp H
            obtain ⟨⟨t295, t296, t297, t298⟩, A130, H⟩ := H
            (try dsimp only at H)
            have A13 := Aside0.mk A130
            clear A130
            have c14b0 := eq_true (of_decide_eq_true (by first | (with_reducible assumption) | assumption) : 0 ≤ (rd y287 (ji7)))
            replace H := Option.bind_eq_some_iff.mp H
            obtain ⟨⟨t299, t300, t301, t302⟩, A160, H⟩ := H
            (try dsimp only at H)
            have A16 := Aside0.mk A160
            clear A160
            have HC17 := Aside0.mk H
            clear H
            go_enter Tryd.func5, Tryd.ntmps5
            try go_wp2_with (first | ((with_reducible refine gate_callee (f := 7) rfl ?_); refine goesL_ (some 22) rfl rfl Tryd.func7 (by kernel_rfl) rfl #[] rfl (by (try simp only [List.map_toArray, List.map_cons, List.map_nil]); first | done | rfl | (simp only [List.length_drop, List.length_take]; rfl)) ?_; (with_reducible refine (parallaxlaw8_known.calls k  true _ rfl A4.out).mono ?_); rintro e w18 ⟨rfl, hb⟩; refine ⟨_, rfl, ?_⟩; have n0_ := Aside0.mk (below_step (by repeat (first | (with_reducible first | exact HB.out | apply below_alloc | apply pw_below_drewN | apply below_drew1) | exact HB.out)) hb); clear HB; have HB := n0_; clear n0_; (try clear hb); (try clear hb2); (try clear hk); (try clear hi)) | ((with_reducible refine gate_callee (f := 17) rfl ?_); refine goesL_ (some 24) rfl rfl Tryd.func17 (by kernel_rfl) rfl #[] rfl (by (try simp only [List.map_toArray, List.map_cons, List.map_nil]); first | done | rfl | (simp only [List.length_drop, List.length_take]; rfl)) ?_; (with_reducible refine (parallaxref4_Usual.calls  t276 t277 t278 t279 t280 t281 t282 t283 t284 t285 _ A6.out).mono ?_); rintro e w19 ⟨rfl, hb⟩; refine ⟨_, rfl, ?_⟩; have n0_ := Aside0.mk (below_step (by repeat (first | (with_reducible first | exact HB.out | apply below_alloc | apply pw_below_drewN | apply below_drew1) | exact HB.out)) hb); clear HB; have HB := n0_; clear n0_; (try clear hb); (try clear hb2); (try clear hk); (try clear hi)) | ((with_reducible refine gate_dst (N := 7) rfl ?_); refine box_event ?hg (N := 7) ?hd (cs := #[.int .i64 0, .int .i64 0, .int .i64 0, .int .i64 0, .int .i64 0, .int .i64 0, .int .i64 0, .int .i64 0, .bool false, .bool false]) (t := 28) ?hr ?_; (case hd => rfl); (case hg => rfl); (case hr => first | (go_simp; done) | (go_simp; rfl)); intro gb286 hg w20 hbox hb; have n0_ := Aside0.mk (below_step (by repeat (first | (with_reducible first | exact HB.out | apply below_alloc | apply pw_below_drewN | apply below_drew1) | exact HB.out)) hb); have n1_ := Aside0.mk (hbox); have n2_ := Aside0.mk ((by rw [hg]; exact (below_size (by repeat (first | (with_reducible first | exact HB.out | apply below_alloc | apply pw_below_drewN | apply below_drew1) | exact HB.out))) : w.heap.size ≤ gb286)); have n3_ := Aside0.mk ((by rw [hg]; exact (below_size (by repeat (first | (with_reducible first | exact HB.out | apply below_alloc | apply pw_below_drewN | apply below_drew1) | exact HB.out))) : w.heap.size ≤ gb286)); clear HB; have HB := n0_; have BK286 := n1_; have GW286 := n2_; have GE286 := n3_; clear n0_ n1_ n2_ n3_; clear hb hbox hg; have hcz21_0 : w20.cell? ⟨gb286, 0, none⟩ = some (.int .i64 0) := (blk_cell BK286.out 0).trans rfl; have hcz21_1 : w20.cell? ⟨gb286, 1, none⟩ = some (.int .i64 0) := (blk_cell BK286.out 1).trans rfl; have hcz21_2 : w20.cell? ⟨gb286, 2, none⟩ = some (.int .i64 0) := (blk_cell BK286.out 2).trans rfl; have hcz21_3 : w20.cell? ⟨gb286, 3, none⟩ = some (.int .i64 0) := (blk_cell BK286.out 3).trans rfl; have hcz21_4 : w20.cell? ⟨gb286, 4, none⟩ = some (.int .i64 0) := (blk_cell BK286.out 4).trans rfl; have hcz21_5 : w20.cell? ⟨gb286, 5, none⟩ = some (.int .i64 0) := (blk_cell BK286.out 5).trans rfl; have hcz21_6 : w20.cell? ⟨gb286, 6, none⟩ = some (.int .i64 0) := (blk_cell BK286.out 6).trans rfl; have hcz21_7 : w20.cell? ⟨gb286, 7, none⟩ = some (.int .i64 0) := (blk_cell BK286.out 7).trans rfl; have hcz21_8 : w20.cell? ⟨gb286, 8, none⟩ = some (.bool false) := (blk_cell BK286.out 8).trans rfl; have hcz21_9 : w20.cell? ⟨gb286, 9, none⟩ = some (.bool false) := (blk_cell BK286.out 9).trans rfl; have hfz21_0 := blk_frozen BK286.out 0; have hfz21_1 := blk_frozen BK286.out 1; have hfz21_2 := blk_frozen BK286.out 2; have hfz21_3 := blk_frozen BK286.out 3; have hfz21_4 := blk_frozen BK286.out 4; have hfz21_5 := blk_frozen BK286.out 5; have hfz21_6 := blk_frozen BK286.out 6; have hfz21_7 := blk_frozen BK286.out 7; have hfz21_8 := blk_frozen BK286.out 8; have hfz21_9 := blk_frozen BK286.out 9) | ((with_reducible refine gate_dst (N := 27) rfl ?_); refine Kd.R_lit (Kd.int .i64) _ 3 ?hg (N := 27) ?hd (xs := ([3, 4, 5, 6, 7, 8] : List Int)) (inner := [.int .i64 3, .int .i64 4, .int .i64 5, .int .i64 6, .int .i64 7, .int .i64 8]) (ok := fun _ => True) (okp := fun _ => True) ?hr ?hp (fun _ hk => hk) trivial (Below.refl _ _) (Nat.le_refl _) (by simp) ?_; (case hd => rfl); (case hg => rfl); (case hr => first | (go_simp; done) | (go_simp; rfl)); (case hp => exact (Reps.one (show Kd.M (Kd.int .i64) _ _ _ 3 [.int .i64 3] from rfl) (Reps.one (show Kd.M (Kd.int .i64) _ _ _ 4 [.int .i64 4] from rfl) (Reps.one (show Kd.M (Kd.int .i64) _ _ _ 5 [.int .i64 5] from rfl) (Reps.one (show Kd.M (Kd.int .i64) _ _ _ 6 [.int .i64 6] from rfl) (Reps.one (show Kd.M (Kd.int .i64) _ _ _ 7 [.int .i64 7] from rfl) (Reps.one (show Kd.M (Kd.int .i64) _ _ _ 8 [.int .i64 8] from rfl) (Reps.none _ _)))))))); intro v288 w22 ho23 hb hg_ hnew_; clear hg_ hnew_; (first | rw [← Ny287.out] at ho23 | (simp only [Int.reduceToNat] at ho23; rw [← Ny287.out] at ho23)); have n0_ := Aside0.mk (Kd.R_lower ho23 (below_size (by repeat (first | (with_reducible first | exact HB.out | apply below_alloc | apply pw_below_drewN | apply below_drew1 | refine below_set ?_ GE286.out) | exact HB.out)))); have n1_ := Aside0.mk (blk_below (g := gb286) (o := .cells #[.int .i64 t276, .int .i64 t277, .int .i64 t278, .int .i64 t279, .int .i64 t280, .int .i64 t281, .int .i64 t282, .int .i64 t283, .bool t284, .bool a2] 28 (0, 0)) (by (with_reducible repeat (first | refine blk_drewN ?_ _ | refine blk_drew ?_ | refine blk_alloc ?_ _)); refine blk_put (cs := #[.int .i64 t276, .int .i64 t277, .int .i64 t278, .int .i64 t279, .int .i64 t280, .int .i64 t281, .int .i64 t282, .int .i64 t283, .bool t284, .bool t285]) ?_ 9 _ rfl; (with_reducible repeat (first | refine blk_drewN ?_ _ | refine blk_drew ?_ | refine blk_alloc ?_ _)); refine blk_put (cs := #[.int .i64 t276, .int .i64 t277, .int .i64 t278, .int .i64 t279, .int .i64 t280, .int .i64 t281, .int .i64 t282, .int .i64 t283, .bool t284, .bool false]) ?_ 9 _ rfl; (with_reducible repeat (first | refine blk_drewN ?_ _ | refine blk_drew ?_ | refine blk_alloc ?_ _)); refine blk_put (cs := #[.int .i64 t276, .int .i64 t277, .int .i64 t278, .int .i64 t279, .int .i64 t280, .int .i64 t281, .int .i64 t282, .int .i64 t283, .bool false, .bool false]) ?_ 8 _ rfl; (with_reducible repeat (first | refine blk_drewN ?_ _ | refine blk_drew ?_ | refine blk_alloc ?_ _)); refine blk_put (cs := #[.int .i64 t276, .int .i64 t277, .int .i64 t278, .int .i64 t279, .int .i64 t280, .int .i64 t281, .int .i64 t282, .int .i64 0, .bool false, .bool false]) ?_ 7 _ rfl; (with_reducible repeat (first | refine blk_drewN ?_ _ | refine blk_drew ?_ | refine blk_alloc ?_ _)); refine blk_put (cs := #[.int .i64 t276, .int .i64 t277, .int .i64 t278, .int .i64 t279, .int .i64 t280, .int .i64 t281, .int .i64 0, .int .i64 0, .bool false, .bool false]) ?_ 6 _ rfl; (with_reducible repeat (first | refine blk_drewN ?_ _ | refine blk_drew ?_ | refine blk_alloc ?_ _)); refine blk_put (cs := #[.int .i64 t276, .int .i64 t277, .int .i64 t278, .int .i64 t279, .int .i64 t280, .int .i64 0, .int .i64 0, .int .i64 0, .bool false, .bool false]) ?_ 5 _ rfl; (with_reducible repeat (first | refine blk_drewN ?_ _ | refine blk_drew ?_ | refine blk_alloc ?_ _)); refine blk_put (cs := #[.int .i64 t276, .int .i64 t277, .int .i64 t278, .int .i64 t279, .int .i64 0, .int .i64 0, .int .i64 0, .int .i64 0, .bool false, .bool false]) ?_ 4 _ rfl; (with_reducible repeat (first | refine blk_drewN ?_ _ | refine blk_drew ?_ | refine blk_alloc ?_ _)); refine blk_put (cs := #[.int .i64 t276, .int .i64 t277, .int .i64 t278, .int .i64 0, .int .i64 0, .int .i64 0, .int .i64 0, .int .i64 0, .bool false, .bool false]) ?_ 3 _ rfl; (with_reducible repeat (first | refine blk_drewN ?_ _ | refine blk_drew ?_ | refine blk_alloc ?_ _)); refine blk_put (cs := #[.int .i64 t276, .int .i64 t277, .int .i64 0, .int .i64 0, .int .i64 0, .int .i64 0, .int .i64 0, .int .i64 0, .bool false, .bool false]) ?_ 2 _ rfl; (with_reducible repeat (first | refine blk_drewN ?_ _ | refine blk_drew ?_ | refine blk_alloc ?_ _)); refine blk_put (cs := #[.int .i64 t276, .int .i64 0, .int .i64 0, .int .i64 0, .int .i64 0, .int .i64 0, .int .i64 0, .int .i64 0, .bool false, .bool false]) ?_ 1 _ rfl; (with_reducible repeat (first | refine blk_drewN ?_ _ | refine blk_drew ?_ | refine blk_alloc ?_ _)); refine blk_put (cs := #[.int .i64 0, .int .i64 0, .int .i64 0, .int .i64 0, .int .i64 0, .int .i64 0, .int .i64 0, .int .i64 0, .bool false, .bool false]) ?_ 0 _ rfl; (with_reducible repeat (first | refine blk_drewN ?_ _ | refine blk_drew ?_ | refine blk_alloc ?_ _)); exact BK286.out) hb); have n2_ := Aside0.mk (below_step (by repeat (first | (with_reducible first | exact HB.out | apply below_alloc | apply pw_below_drewN | apply below_drew1 | refine below_set ?_ GE286.out) | exact HB.out)) hb); clear BK286; clear HB; have HO289 := n0_; have BK286 := n1_; have HB := n2_; clear n0_ n1_ n2_; clear hb ho23; obtain ⟨Ao24, co24, eo24⟩ := Kd.R_slice HO289.out; subst eo24; have p290 : 0 ≤ ((ji7) : Int) := of_decide_eq_true (by first | (with_reducible assumption) | assumption); have q290 : (ji7) < (y287.length : Int) := of_decide_eq_true (by first | (with_reducible assumption) | assumption); obtain ⟨ad290, e290, hx290_0⟩ := Kd.at_int (Kd.R_reads' HO289.out).2.2 (ji7) p290 q290; cases e290; replace p290 := eq_true p290; replace q290 := eq_true q290) | ((with_reducible refine gate_dst (N := 32) rfl ?_); refine Kd.R_lit Kd.string _ 9 ?hg (N := 32) ?hd (xs := ([(⟨#[71, 69, 84, 32, 9, 47, 97, 32, 32, 72, 84, 84, 80, 47, 49, 46, 49]⟩ : ByteArray), (⟨#[71, 69, 84, 32, 47, 97, 32, 72, 84, 84, 80, 47, 49, 46, 55]⟩ : ByteArray), (⟨#[71, 69, 84, 32, 47, 97, 32, 72, 116, 84, 112, 47, 49, 46, 49]⟩ : ByteArray), (⟨#[71, 69, 84, 32, 47, 97]⟩ : ByteArray), (⟨#[71, 69, 84, 32, 47, 97, 32, 98, 32, 72, 84, 84, 80, 47, 49, 46, 49]⟩ : ByteArray), (⟨#[71, 69, 84, 32, 47, 97, 1, 32, 72, 84, 84, 80, 47, 49, 46, 49]⟩ : ByteArray)] : List ByteArray)) (inner := [.string (⟨#[71, 69, 84, 32, 9, 47, 97, 32, 32, 72, 84, 84, 80, 47, 49, 46, 49]⟩ : ByteArray), .string (⟨#[71, 69, 84, 32, 47, 97, 32, 72, 84, 84, 80, 47, 49, 46, 55]⟩ : ByteArray), .string (⟨#[71, 69, 84, 32, 47, 97, 32, 72, 116, 84, 112, 47, 49, 46, 49]⟩ : ByteArray), .string (⟨#[71, 69, 84, 32, 47, 97]⟩ : ByteArray), .string (⟨#[71, 69, 84, 32, 47, 97, 32, 98, 32, 72, 84, 84, 80, 47, 49, 46, 49]⟩ : ByteArray), .string (⟨#[71, 69, 84, 32, 47, 97, 1, 32, 72, 84, 84, 80, 47, 49, 46, 49]⟩ : ByteArray)]) (ok := fun _ => True) (okp := fun _ => True) ?hr ?hp (fun _ hk => hk) trivial (Below.refl _ _) (Nat.le_refl _) (by simp) ?_; (case hd => rfl); (case hg => rfl); (case hr => first | (go_simp; done) | (go_simp; rfl)); (case hp => exact (Reps.one (show Kd.M Kd.string _ _ _ (⟨#[71, 69, 84, 32, 9, 47, 97, 32, 32, 72, 84, 84, 80, 47, 49, 46, 49]⟩ : ByteArray) [.string (⟨#[71, 69, 84, 32, 9, 47, 97, 32, 32, 72, 84, 84, 80, 47, 49, 46, 49]⟩ : ByteArray)] from rfl) (Reps.one (show Kd.M Kd.string _ _ _ (⟨#[71, 69, 84, 32, 47, 97, 32, 72, 84, 84, 80, 47, 49, 46, 55]⟩ : ByteArray) [.string (⟨#[71, 69, 84, 32, 47, 97, 32, 72, 84, 84, 80, 47, 49, 46, 55]⟩ : ByteArray)] from rfl) (Reps.one (show Kd.M Kd.string _ _ _ (⟨#[71, 69, 84, 32, 47, 97, 32, 72, 116, 84, 112, 47, 49, 46, 49]⟩ : ByteArray) [.string (⟨#[71, 69, 84, 32, 47, 97, 32, 72, 116, 84, 112, 47, 49, 46, 49]⟩ : ByteArray)] from rfl) (Reps.one (show Kd.M Kd.string _ _ _ (⟨#[71, 69, 84, 32, 47, 97]⟩ : ByteArray) [.string (⟨#[71, 69, 84, 32, 47, 97]⟩ : ByteArray)] from rfl) (Reps.one (show Kd.M Kd.string _ _ _ (⟨#[71, 69, 84, 32, 47, 97, 32, 98, 32, 72, 84, 84, 80, 47, 49, 46, 49]⟩ : ByteArray) [.string (⟨#[71, 69, 84, 32, 47, 97, 32, 98, 32, 72, 84, 84, 80, 47, 49, 46, 49]⟩ : ByteArray)] from rfl) (Reps.one (show Kd.M Kd.string _ _ _ (⟨#[71, 69, 84, 32, 47, 97, 1, 32, 72, 84, 84, 80, 47, 49, 46, 49]⟩ : ByteArray) [.string (⟨#[71, 69, 84, 32, 47, 97, 1, 32, 72, 84, 84, 80, 47, 49, 46, 49]⟩ : ByteArray)] from rfl) (Reps.none _ _)))))))); intro v292 w25 ho26 hb hg_ hnew_; clear hg_ hnew_; (first | rw [← Ny291.out] at ho26 | (simp only [Int.reduceToNat] at ho26; rw [← Ny291.out] at ho26)); have n0_ := Aside0.mk (Kd.R_below (by (with_reducible repeat (first | apply Kd.R_alloc | apply Kd.R_drewN | apply Kd.R_drew)); exact HO289.out) hb); have n1_ := Aside0.mk (Kd.R_lower ho26 (below_size (by repeat (first | (with_reducible first | exact HB.out | apply below_alloc | apply pw_below_drewN | apply below_drew1 | refine below_set ?_ GE286.out) | exact HB.out)))); have n2_ := Aside0.mk (blk_below (g := gb286) (o := .cells #[.int .i64 t276, .int .i64 t277, .int .i64 t278, .int .i64 t279, .int .i64 t280, .int .i64 t281, .int .i64 t282, .int .i64 t283, .bool t284, .bool a2] 28 (0, 0)) (by (with_reducible repeat (first | refine blk_drewN ?_ _ | refine blk_drew ?_ | refine blk_alloc ?_ _)); exact BK286.out) hb); have n3_ := Aside0.mk (below_step (by repeat (first | (with_reducible first | exact HB.out | apply below_alloc | apply pw_below_drewN | apply below_drew1 | refine below_set ?_ GE286.out) | exact HB.out)) hb); clear HO289; clear BK286; clear HB; have HO289 := n0_; have HO293 := n1_; have BK286 := n2_; have HB := n3_; clear n0_ n1_ n2_ n3_; clear hb ho26; obtain ⟨Ao27, co27, eo27⟩ := Kd.R_slice HO293.out; subst eo27; have p294 : 0 ≤ ((ji7) : Int) := of_decide_eq_true (by first | (with_reducible assumption) | assumption); have q294 : (ji7) < (y291.length : Int) := of_decide_eq_true (by first | (with_reducible assumption) | assumption); obtain ⟨ad294, e294, hx294_0⟩ := Kd.at_string (Kd.R_reads' HO293.out).2.2 (ji7) p294 q294; cases e294; replace p294 := eq_true p294; replace q294 := eq_true q294; have hcz28_0 : w25.cell? ⟨gb286, 0, none⟩ = some (.int .i64 t276) := (blk_cell BK286.out 0).trans rfl; have hcz28_1 : w25.cell? ⟨gb286, 1, none⟩ = some (.int .i64 t277) := (blk_cell BK286.out 1).trans rfl; have hcz28_2 : w25.cell? ⟨gb286, 2, none⟩ = some (.int .i64 t278) := (blk_cell BK286.out 2).trans rfl; have hcz28_3 : w25.cell? ⟨gb286, 3, none⟩ = some (.int .i64 t279) := (blk_cell BK286.out 3).trans rfl; have hcz28_4 : w25.cell? ⟨gb286, 4, none⟩ = some (.int .i64 t280) := (blk_cell BK286.out 4).trans rfl; have hcz28_5 : w25.cell? ⟨gb286, 5, none⟩ = some (.int .i64 t281) := (blk_cell BK286.out 5).trans rfl; have hcz28_6 : w25.cell? ⟨gb286, 6, none⟩ = some (.int .i64 t282) := (blk_cell BK286.out 6).trans rfl; have hcz28_7 : w25.cell? ⟨gb286, 7, none⟩ = some (.int .i64 t283) := (blk_cell BK286.out 7).trans rfl; have hcz28_8 : w25.cell? ⟨gb286, 8, none⟩ = some (.bool t284) := (blk_cell BK286.out 8).trans rfl; have hcz28_9 : w25.cell? ⟨gb286, 9, none⟩ = some (.bool a2) := (blk_cell BK286.out 9).trans rfl; have hfz28_0 := blk_frozen BK286.out 0; have hfz28_1 := blk_frozen BK286.out 1; have hfz28_2 := blk_frozen BK286.out 2; have hfz28_3 := blk_frozen BK286.out 3; have hfz28_4 := blk_frozen BK286.out 4; have hfz28_5 := blk_frozen BK286.out 5; have hfz28_6 := blk_frozen BK286.out 6; have hfz28_7 := blk_frozen BK286.out 7; have hfz28_8 := blk_frozen BK286.out 8; have hfz28_9 := blk_frozen BK286.out 9) | ((with_reducible refine gate_callee (f := 13) rfl ?_); refine goesL_ (some 46) rfl rfl Tryd.func13 (by kernel_rfl) rfl #[.string (rdOf ByteArray.empty y291 (ji7)), .int .u32 (Go.bits .andNot .u32 (Go.bits .and .u32 a1 1073741823) (ji12)), .agg #[.int .i64 t276, .int .i64 t277, .int .i64 t278, .int .i64 t279, .int .i64 t280, .int .i64 t281, .int .i64 t282, .int .i64 t283, .bool t284, .bool a2]] rfl (by (try simp only [List.map_toArray, List.map_cons, List.map_nil]); first | done | (simp only [hji12, hji7]; rfl) | rfl | (simp only [List.length_drop, List.length_take]; rfl)) ?_; (with_reducible refine (request_Parse.calls k (rdOf ByteArray.empty y291 (ji7)) (Go.bits .andNot .u32 (Go.bits .and .u32 a1 1073741823) (ji12)) t276 t277 t278 t279 t280 t281 t282 t283 t284 a2 t295 t296 t297 t298 _ A13.out).mono ?_); rintro e w29 ⟨rfl, hb⟩; refine ⟨_, rfl, ?_⟩; have n0_ := Aside0.mk (Kd.R_below (by (with_reducible repeat (first | apply Kd.R_alloc | apply Kd.R_drewN | apply Kd.R_drew)); exact HO289.out) hb); have n1_ := Aside0.mk (Kd.R_below (by (with_reducible repeat (first | apply Kd.R_alloc | apply Kd.R_drewN | apply Kd.R_drew)); exact HO293.out) hb); have n2_ := Aside0.mk (blk_below (g := gb286) (o := .cells #[.int .i64 t276, .int .i64 t277, .int .i64 t278, .int .i64 t279, .int .i64 t280, .int .i64 t281, .int .i64 t282, .int .i64 t283, .bool t284, .bool a2] 28 (0, 0)) (by (with_reducible repeat (first | refine blk_drewN ?_ _ | refine blk_drew ?_ | refine blk_alloc ?_ _)); exact BK286.out) hb); have n3_ := Aside0.mk (below_step (by repeat (first | (with_reducible first | exact HB.out | apply below_alloc | apply pw_below_drewN | apply below_drew1 | refine below_set ?_ GE286.out) | exact HB.out)) hb); clear HO289; clear HO293; clear BK286; clear HB; have HO289 := n0_; have HO293 := n1_; have BK286 := n2_; have HB := n3_; clear n0_ n1_ n2_ n3_; (try clear hb); (try clear hb2); (try clear hk); (try clear hi)))
            have n0_ := Aside0.mk (Kd.R_drew HO289.out)
            have n1_ := Aside0.mk (Kd.R_drew HO293.out)
            have n2_ := Aside0.mk (blk_drew BK286.out)
            have n3_ := Aside0.mk (below_drew1 HB.out)
            clear HO289
            clear HO293
            clear BK286
            clear HB
            have HO289 := n0_
            have HO293 := n1_
            have BK286 := n2_
            have HB := n3_
            clear n0_ n1_ n2_ n3_
            refine start_ (n := 16) (S := fun w' => w'.cell? ⟨gb286, 0, none⟩ = some (.int .i64 t276) ∧ w'.cell? ⟨gb286, 1, none⟩ = some (.int .i64 t277) ∧ w'.cell? ⟨gb286, 2, none⟩ = some (.int .i64 t278) ∧ w'.cell? ⟨gb286, 3, none⟩ = some (.int .i64 t279) ∧ w'.cell? ⟨gb286, 4, none⟩ = some (.int .i64 t280) ∧ w'.cell? ⟨gb286, 5, none⟩ = some (.int .i64 t281) ∧ w'.cell? ⟨gb286, 6, none⟩ = some (.int .i64 t282) ∧ w'.cell? ⟨gb286, 7, none⟩ = some (.int .i64 t283) ∧ w'.cell? ⟨gb286, 8, none⟩ = some (.bool t284) ∧ w'.cell? ⟨gb286, 9, none⟩ = some (.bool a2)) (ds := []) #[false, false, false, false, false, false, false, false, false, false, false, false, false, false, false, false] (by kernel_rfl) rfl rfl ⟨(blk_cell BK286.out 0).trans rfl, (blk_cell BK286.out 1).trans rfl, (blk_cell BK286.out 2).trans rfl, (blk_cell BK286.out 3).trans rfl, (blk_cell BK286.out 4).trans rfl, (blk_cell BK286.out 5).trans rfl, (blk_cell BK286.out 6).trans rfl, (blk_cell BK286.out 7).trans rfl, (blk_cell BK286.out 8).trans rfl, (blk_cell BK286.out 9).trans rfl⟩ (fun hHeld => ?_); refine with_tabW parallaxlaw8_RequestClauses.tab9 parallaxlaw8_RequestClauses.bits9 (fun HT_ HW_ => ?_)
            generalize w29.drew = w30 at HO289 HO293 BK286 HB hHeld ⊢
            refine pure_ (i := 0) (N := some 52) (v := ?_) (a' := ?_) #[true, false, false, false, false, false, false, false, false, false, false, false, false, false, false, false] rfl rfl (any_of HT_.out (by kernel_rfl)) (fun _ _ _ h => h) (Or.inl ⟨by rfl, ?_⟩) ?_ ?_
            rotate_left
            · intro w'
              go_simp
              with_reducible rfl
            rotate_left
            · simp only [Act.put, List.setIfInBounds_toArray, List.set_cons_zero, List.set_cons_succ, i64_w, i32_w]
              rfl
            refine pure_ (i := 1) (N := some 53) (v := ?_) (a' := ?_) #[true, true, false, false, false, false, false, false, false, false, false, false, false, false, false, false] rfl rfl (any_of HT_.out (by kernel_rfl)) (fun _ _ _ h => h) (Or.inl ⟨by rfl, ?_⟩) ?_ ?_
            rotate_left
            · intro w'
              go_simp
              with_reducible rfl
            rotate_left
            · simp only [Act.put, List.setIfInBounds_toArray, List.set_cons_zero, List.set_cons_succ, i64_w, i32_w]
              rfl
            refine pure_ (i := 2) (N := some 54) (v := ?_) (a' := ?_) #[true, true, true, false, false, false, false, false, false, false, false, false, false, false, false, false] rfl rfl (any_of HT_.out (by kernel_rfl)) (fun _ _ _ h => h) (Or.inl ⟨by rfl, ?_⟩) ?_ ?_
            rotate_left
            · intro w'
              go_simp
              with_reducible rfl
            rotate_left
            · simp only [Act.put, List.setIfInBounds_toArray, List.set_cons_zero, List.set_cons_succ, i64_w, i32_w]
              rfl
            refine pure_ (i := 3) (N := some 55) (v := ?_) (a' := ?_) #[true, true, true, true, false, false, false, false, false, false, false, false, false, false, false, false] rfl rfl (any_of HT_.out (by kernel_rfl)) (fun _ _ _ h => h) (Or.inl ⟨by rfl, ?_⟩) ?_ ?_
            rotate_left
            · intro w'
              go_simp
              with_reducible rfl
            rotate_left
            · simp only [Act.put, List.setIfInBounds_toArray, List.set_cons_zero, List.set_cons_succ, i64_w, i32_w]
              rfl
            refine pure_ (i := 4) (N := some 56) (v := ?_) (a' := ?_) #[true, true, true, true, true, false, false, false, false, false, false, false, false, false, false, false] rfl rfl (any_of HT_.out (by kernel_rfl)) (fun _ _ _ h => h) (Or.inl ⟨by rfl, ?_⟩) ?_ ?_
            rotate_left
            · intro w'
              go_simp
              with_reducible rfl
            rotate_left
            · simp only [Act.put, List.setIfInBounds_toArray, List.set_cons_zero, List.set_cons_succ, i64_w, i32_w]
              rfl
            refine take_ (i := 5) (N := some 57) (v := ?_) (a' := ?_) #[true, true, true, true, true, true, false, false, false, false, false, false, false, false, false, false] rfl rfl (take_ofW HT_.out HW_.out (by kernel_rfl)) (fun _ _ _ h => h) (Or.inl ⟨by rfl, ?_⟩) hHeld ?_ ?_
            rotate_left
            · rintro w' ⟨s0, s1, s2, s3, s4, s5, s6, s7, s8, s9⟩
              go_simp
              with_reducible rfl
            rotate_left
            · simp only [Act.put, List.setIfInBounds_toArray, List.set_cons_zero, List.set_cons_succ, i64_w, i32_w]
              rfl
            refine one_ (i := 6) (N := some 58) #[true, true, true, true, true, true, true, false, false, false, false, false, false, false, false, false] rfl rfl (one_of HT_.out (by kernel_rfl)) (by decide) (fun K hK => ?_)
            refine goes_ Tryd.func13 (by kernel_rfl) rfl #[.string (rdOf ByteArray.empty y291 (ji7)), .int .u32 (Go.bits .or .u32 (Go.bits .andNot .u32 (Go.bits .and .u32 a1 1073741823) (ji12)) (ji12)), .agg #[.int .i64 t276, .int .i64 t277, .int .i64 t278, .int .i64 t279, .int .i64 t280, .int .i64 t281, .int .i64 t282, .int .i64 t283, .bool t284, .bool a2]] (by rfl) rfl rfl (by (try simp only [List.map_toArray, List.map_cons, List.map_nil]); first | done | (simp only [hji12, hji7]; rfl) | rfl | (simp only [List.length_drop, List.length_take]; rfl)) ?_
            with_reducible refine (request_Parse.calls k (rdOf ByteArray.empty y291 (ji7)) (Go.bits .or .u32 (Go.bits .andNot .u32 (Go.bits .and .u32 a1 1073741823) (ji12)) (ji12)) t276 t277 t278 t279 t280 t281 t282 t283 t284 a2 t299 t300 t301 t302 _ A16.out).mono ?_
            rintro e w31 ⟨rfl, hb⟩
            refine ⟨_, rfl, ?_⟩
            have n0_ := Aside0.mk (Kd.R_below (by (with_reducible repeat (first | apply Kd.R_alloc | apply Kd.R_drewN | apply Kd.R_drew)); exact HO289.out) hb)
            have n1_ := Aside0.mk (Kd.R_below (by (with_reducible repeat (first | apply Kd.R_alloc | apply Kd.R_drewN | apply Kd.R_drew)); exact HO293.out) hb)
            have n2_ := Aside0.mk (blk_below (g := gb286) (o := .cells #[.int .i64 t276, .int .i64 t277, .int .i64 t278, .int .i64 t279, .int .i64 t280, .int .i64 t281, .int .i64 t282, .int .i64 t283, .bool t284, .bool a2] 28 (0, 0)) (by (with_reducible repeat (first | refine blk_drewN ?_ _ | refine blk_drew ?_ | refine blk_alloc ?_ _)); exact BK286.out) hb)
            have n3_ := Aside0.mk (below_step (by repeat (first | (with_reducible first | exact HB.out | apply below_alloc | apply pw_below_drewN | apply below_drew1 | refine below_set ?_ GE286.out) | exact HB.out)) hb)
            clear HO289
            clear HO293
            clear BK286
            clear HB
            have HO289 := n0_
            have HO293 := n1_
            have BK286 := n2_
            have HB := n3_
            clear n0_ n1_ n2_ n3_
            (try clear hb)
            (try clear hb2)
            (try clear hk)
            (try clear hi)
            refine hK.out _ _ ⟨(blk_cell BK286.out 0).trans rfl, (blk_cell BK286.out 1).trans rfl, (blk_cell BK286.out 2).trans rfl, (blk_cell BK286.out 3).trans rfl, (blk_cell BK286.out 4).trans rfl, (blk_cell BK286.out 5).trans rfl, (blk_cell BK286.out 6).trans rfl, (blk_cell BK286.out 7).trans rfl, (blk_cell BK286.out 8).trans rfl, (blk_cell BK286.out 9).trans rfl⟩ (fun hHeld => ?_)
            clear hK K
            refine norm_ (a' := ?_) ?_ ?_
            rotate_left
            · show Act.put _ (some 58) _ = _
              simp only [Act.put, List.setIfInBounds_toArray, List.set_cons_zero, List.set_cons_succ, i64_w, i32_w]
              rfl
            refine pure_ (i := 7) (N := some 51) (v := ?_) (a' := ?_) #[true, true, true, true, true, true, true, true, false, false, false, false, false, false, false, false] rfl rfl (any_of HT_.out (by kernel_rfl)) (fun _ _ _ h => h) (Or.inl ⟨by rfl, ?_⟩) ?_ ?_
            rotate_left
            · intro w'
              go_simp
              with_reducible rfl
            rotate_left
            · simp only [Act.put, List.setIfInBounds_toArray, List.set_cons_zero, List.set_cons_succ, i64_w, i32_w]
              rfl
            refine pure_ (i := 8) (N := some 59) (v := ?_) (a' := ?_) #[true, true, true, true, true, true, true, true, true, false, false, false, false, false, false, false] rfl rfl (any_of HT_.out (by kernel_rfl)) (fun _ _ _ h => h) (Or.inl ⟨by rfl, ?_⟩) ?_ ?_
            rotate_left
            · intro w'
              go_simp
              with_reducible rfl
            rotate_left
            · simp only [Act.put, List.setIfInBounds_toArray, List.set_cons_zero, List.set_cons_succ, i64_w, i32_w]
              rfl
            refine pure_ (i := 9) (N := some 60) (v := ?_) (a' := ?_) #[true, true, true, true, true, true, true, true, true, true, false, false, false, false, false, false] rfl rfl (any_of HT_.out (by kernel_rfl)) (fun _ _ _ h => h) (Or.inl ⟨by rfl, ?_⟩) ?_ ?_
            rotate_left
            · intro w'
              go_simp
              with_reducible rfl
            rotate_left
            · simp only [Act.put, List.setIfInBounds_toArray, List.set_cons_zero, List.set_cons_succ, i64_w, i32_w]
              rfl
            refine pure_ (i := 10) (N := some 61) (v := ?_) (a' := ?_) #[true, true, true, true, true, true, true, true, true, true, true, false, false, false, false, false] rfl rfl (any_of HT_.out (by kernel_rfl)) (fun _ _ _ h => h) (Or.inl ⟨by rfl, ?_⟩) ?_ ?_
            rotate_left
            · intro w'
              go_simp
              with_reducible rfl
            rotate_left
            · simp only [Act.put, List.setIfInBounds_toArray, List.set_cons_zero, List.set_cons_succ, i64_w, i32_w]
              rfl
            refine pure_ (i := 11) (N := some 62) (v := ?_) (a' := ?_) #[true, true, true, true, true, true, true, true, true, true, true, true, false, false, false, false] rfl rfl (any_of HT_.out (by kernel_rfl)) (fun _ _ _ h => h) (Or.inl ⟨by rfl, ?_⟩) ?_ ?_
            rotate_left
            · intro w'
              go_simp
              with_reducible rfl
            rotate_left
            · simp only [Act.put, List.setIfInBounds_toArray, List.set_cons_zero, List.set_cons_succ, i64_w, i32_w]
              rfl
            refine pure_ (i := 12) (N := some 15) (v := ?_) (a' := ?_) #[true, true, true, true, true, true, true, true, true, true, true, true, true, false, false, false] rfl rfl (any_of HT_.out (by kernel_rfl)) (fun _ _ _ h => h) (Or.inl ⟨by rfl, ?_⟩) ?_ ?_
            rotate_left
            · intro w'
              go_simp
              with_reducible rfl
            rotate_left
            · simp only [Act.put, List.setIfInBounds_toArray, List.set_cons_zero, List.set_cons_succ, i64_w, i32_w]
              rfl
            refine pure_ (i := 13) (N := some 16) (v := ?_) (a' := ?_) #[true, true, true, true, true, true, true, true, true, true, true, true, true, true, false, false] rfl rfl (any_of HT_.out (by kernel_rfl)) (fun _ _ _ h => h) (Or.inl ⟨by rfl, ?_⟩) ?_ ?_
            rotate_left
            · intro w'
              go_simp
              with_reducible rfl
            rotate_left
            · simp only [Act.put, List.setIfInBounds_toArray, List.set_cons_zero, List.set_cons_succ, i64_w, i32_w]
              rfl
            refine pure_ (i := 14) (N := some 17) (v := ?_) (a' := ?_) #[true, true, true, true, true, true, true, true, true, true, true, true, true, true, true, false] rfl rfl (any_of HT_.out (by kernel_rfl)) (fun _ _ _ h => h) (Or.inl ⟨by rfl, ?_⟩) ?_ ?_
            rotate_left
            · intro w'
              go_simp
              with_reducible rfl
            rotate_left
            · simp only [Act.put, List.setIfInBounds_toArray, List.set_cons_zero, List.set_cons_succ, i64_w, i32_w]
              rfl
            refine pure_ (i := 15) (N := some 18) (v := ?_) (a' := ?_) #[true, true, true, true, true, true, true, true, true, true, true, true, true, true, true, true] rfl rfl (any_of HT_.out (by kernel_rfl)) (fun _ _ _ h => h) (Or.inl ⟨by rfl, ?_⟩) ?_ ?_
            rotate_left
            · intro w'
              go_simp
              with_reducible rfl
            rotate_left
            · simp only [Act.put, List.setIfInBounds_toArray, List.set_cons_zero, List.set_cons_succ, i64_w, i32_w]
              rfl
            refine done_ (done_of HT_.out (by kernel_rfl)) ?_
            go_upto_region 10 with (fail)
            go_cut [68] (fun v68 wc => ∃ (kq : Nat) (x68_16 : Bool), v68 = .bool x68_16 ∧ Aside0 (parallaxlaw8_RequestClauses.j0 kq a0 (rd y287 (ji7)) t298 t299 t300 t301 t302 x68_16 = some r) ∧ Aside0 (kq ≤ k) ∧ Aside0 (wc.heap[gb286]? = some (.cells #[.int .i64 t276, .int .i64 t277, .int .i64 t278, .int .i64 t279, .int .i64 t280, .int .i64 t281, .int .i64 t282, .int .i64 t283, .bool t284, .bool a2] 28 (0, 0))) ∧ Aside0 (Below w.heap.size w wc))
            case first =>
              have H := HC17.out
              clear HC17
              by_cases c32 : (rd y287 (ji7)) = 6
              · rw [if_pos c32] at H
                have c32b0 : ((rd y287 (ji7)) == 6) = true := beq_iff_eq.mpr c32
                have c32b1 : ((rd y287 (ji7)) != 6) = false := bne_eq_false_iff_eq.mpr c32
                clear c32
                (first | rw [c32b0] | (simp only [i64_w, i32_w]; rw [c32b0]) | skip)
                have H' := Aside0.mk H
                clear H
                go_wp2
                go_meet
                case rel => exact ⟨_, (!a2), (by first | rfl | (simp; done) | (simp [*]; done)), H', ⟨by first | omega | exact Nat.le_refl _⟩, ⟨by (with_reducible repeat (first | refine blk_drewN ?_ _ | refine blk_drew ?_ | refine blk_alloc ?_ _)); exact BK286.out⟩, ⟨by repeat (first | (with_reducible first | exact HB.out | apply below_alloc | apply pw_below_drewN | apply below_drew1 | refine below_set ?_ GE286.out) | exact HB.out)⟩⟩
              · rw [if_neg c32] at H
                have c32b0 : ((rd y287 (ji7)) == 6) = false := beq_eq_false_iff_ne.mpr c32
                have c32b1 : ((rd y287 (ji7)) != 6) = true := bne_iff_ne.mpr c32
                (first | rw [c32b0] | (simp only [i64_w, i32_w]; rw [c32b0]) | skip)
                have H' := Aside0.mk H
                clear H
                go_wp2
                go_meet
                case rel => exact ⟨_, (false), (by first | rfl | (simp; done) | (simp [*]; done)), H', ⟨by first | omega | exact Nat.le_refl _⟩, ⟨by (with_reducible repeat (first | refine blk_drewN ?_ _ | refine blk_drew ?_ | refine blk_alloc ?_ _)); exact BK286.out⟩, ⟨by repeat (first | (with_reducible first | exact HB.out | apply below_alloc | apply pw_below_drewN | apply below_drew1 | refine below_set ?_ GE286.out) | exact HB.out)⟩⟩
            case rest =>
              clear HC17
              try clear c1
              try clear q1
              try clear p2
              try clear q2
              try clear hx2
              try clear c3
              try clear c5
              try clear c7
              try clear c8
              try clear c8b0
              try clear c9
              try clear c9b0
              try clear c10
              try clear c10b0
              try clear c11
              try clear c11b0
              try clear c11b1
              try clear c13
              try clear c14
              try clear c14b0
              try clear c15
              try clear c15b0
              try clear c17
              try clear p29
              try clear q29
              try clear hx29
              try clear c32
              try clear c32b0
              try clear c32b1
              try clear hcz21_0
              try clear hcz21_1
              try clear hcz21_2
              try clear hcz21_3
              try clear hcz21_4
              try clear hcz21_5
              try clear hcz21_6
              try clear hcz21_7
              try clear hcz21_8
              try clear hcz21_9
              try clear hcz28_0
              try clear hcz28_1
              try clear hcz28_2
              try clear hcz28_3
              try clear hcz28_4
              try clear hcz28_5
              try clear hcz28_6
              try clear hcz28_7
              try clear hcz28_8
              try clear hcz28_9
              try clear hfz21_0
              try clear hfz21_1
              try clear hfz21_2
              try clear hfz21_3
              try clear hfz21_4
              try clear hfz21_5
              try clear hfz21_6
              try clear hfz21_7
              try clear hfz21_8
              try clear hfz21_9
              try clear hfz28_0
              try clear hfz28_1
              try clear hfz28_2
              try clear hfz28_3
              try clear hfz28_4
              try clear hfz28_5
              try clear hfz28_6
              try clear hfz28_7
              try clear hfz28_8
              try clear hfz28_9
              try clear hx290_0
              try clear hx294_0
              try clear p290
              try clear p294
              try clear q290
              try clear q294
              obtain ⟨kq, x68_16, rfl, HA, HJ16, BK286, HB⟩ := hcut
              cases kq with
              | zero => exact absurd HA.out (by simp [parallaxlaw8_RequestClauses.j0])
              | succ kj16 =>
                have H := HA.out
                clear HA
                simp only [parallaxlaw8_RequestClauses.j0] at H
                by_cases c33 : x68_16 = true
                · subst c33
                  rw [if_pos rfl] at H
                  by_cases c34 : t298 = 400
                  · rw [if_pos c34] at H
                    have c34b0 : (t298 == 400) = true := beq_iff_eq.mpr c34
                    have c34b1 : (t298 != 400) = false := bne_eq_false_iff_eq.mpr c34
                    clear c34
                    obtain rfl := Option.some.inj H
                    go_wp2
                    go_ret
                    exact ⟨by first | rfl | (simp [errW_none, errW_some] <;> rfl) | (simp only [← hji7, ← hji12]; first | rfl | (simp [errW_none, errW_some] <;> rfl)) | (simp [*, errW_none, errW_some] <;> rfl), by repeat (first | (with_reducible first | exact HB.out | apply below_alloc | apply pw_below_drewN | apply below_drew1 | refine below_set ?_ GE286.out) | exact HB.out)⟩
                  · rw [if_neg c34] at H
                    have c34b0 : (t298 == 400) = false := beq_eq_false_iff_ne.mpr c34
                    have c34b1 : (t298 != 400) = true := bne_iff_ne.mpr c34
                    exact absurd ((Option.some.inj H).trans HT.out) (by decide)
                · replace c33 := Bool.eq_false_iff.mpr c33
                  subst c33
                  rw [if_neg (show ¬ (false = true) by decide)] at H
                  obtain ⟨y303, hy303⟩ : ∃ y_ : List ByteArray, y_ = (([(⟨#[47, 97]⟩ : ByteArray), (⟨#[47, 97]⟩ : ByteArray), (⟨#[47, 97]⟩ : ByteArray), (⟨#[47, 97]⟩ : ByteArray), (⟨#[47, 97, 32, 98]⟩ : ByteArray), (⟨#[47, 97, 1]⟩ : ByteArray)] : List ByteArray)) := ⟨_, rfl⟩
                  replace H : (if 0 ≤ (Int.tmod a0 6) then (if (Int.tmod a0 6) < (y303.length : Int) then (if (rd y287 (ji7)) = 6 then (parallaxlaw8_RequestClauses.j1 kj16 (rd y287 (ji7)) t298 t299 t300 t301 t302 (rdOf ByteArray.empty y303 (Int.tmod a0 6)) 0) else (parallaxlaw8_RequestClauses.j1 kj16 (rd y287 (ji7)) t298 t299 t300 t301 t302 (rdOf ByteArray.empty y303 (Int.tmod a0 6)) 1)) else (none)) else (none)) = some r := by first | (rw [hy303]; with_reducible exact H) | (have H2_ := (Option.bind_some _ _).symm.trans H; rw [hy303]; with_reducible exact H2_) | (have H2_ := (Option.bind_some _ _).symm.trans H; with_reducible exact H2_) | with_reducible exact H | (rw [hy303]; exact H) | exact H
                  have Ny303 := Aside0.mk hy303
                  clear hy303
                  replace H : (if 0 ≤ (ji7) then (if (ji7) < (y303.length : Int) then (if (rd y287 (ji7)) = 6 then (parallaxlaw8_RequestClauses.j1 kj16 (rd y287 (ji7)) t298 t299 t300 t301 t302 (rdOf ByteArray.empty y303 (ji7)) 0) else (parallaxlaw8_RequestClauses.j1 kj16 (rd y287 (ji7)) t298 t299 t300 t301 t302 (rdOf ByteArray.empty y303 (ji7)) 1)) else (none)) else (none)) = some r := by first | (rw [hji7] at H; exact H) | (simp only [hji7] at H ⊢; exact H)
                  by_cases c36 : 0 ≤ (ji7)
                  · rw [if_pos c36] at H
                    have c36b0 : decide (0 ≤ (ji7)) = true := decide_eq_true c36
                    clear c36
                    by_cases c37 : (ji7) < (y303.length : Int)
                    · rw [if_pos c37] at H
                      have c37b0 : decide ((ji7) < (y303.length : Int)) = true := decide_eq_true c37
                      clear c37
                      have HC38 := Aside0.mk H
                      clear H
                      go_upto_if 81 with (first | ((with_reducible refine gate_dst (N := 75) rfl ?_); refine Kd.R_lit Kd.string _ 9 ?hg (N := 75) ?hd (xs := ([(⟨#[47, 97]⟩ : ByteArray), (⟨#[47, 97]⟩ : ByteArray), (⟨#[47, 97]⟩ : ByteArray), (⟨#[47, 97]⟩ : ByteArray), (⟨#[47, 97, 32, 98]⟩ : ByteArray), (⟨#[47, 97, 1]⟩ : ByteArray)] : List ByteArray)) (inner := [.string (⟨#[47, 97]⟩ : ByteArray), .string (⟨#[47, 97]⟩ : ByteArray), .string (⟨#[47, 97]⟩ : ByteArray), .string (⟨#[47, 97]⟩ : ByteArray), .string (⟨#[47, 97, 32, 98]⟩ : ByteArray), .string (⟨#[47, 97, 1]⟩ : ByteArray)]) (ok := fun _ => True) (okp := fun _ => True) ?hr ?hp (fun _ hk => hk) trivial (Below.refl _ _) (Nat.le_refl _) (by simp) ?_; (case hd => rfl); (case hg => rfl); (case hr => first | (go_simp; done) | (go_simp; rfl)); (case hp => exact (Reps.one (show Kd.M Kd.string _ _ _ (⟨#[47, 97]⟩ : ByteArray) [.string (⟨#[47, 97]⟩ : ByteArray)] from rfl) (Reps.one (show Kd.M Kd.string _ _ _ (⟨#[47, 97]⟩ : ByteArray) [.string (⟨#[47, 97]⟩ : ByteArray)] from rfl) (Reps.one (show Kd.M Kd.string _ _ _ (⟨#[47, 97]⟩ : ByteArray) [.string (⟨#[47, 97]⟩ : ByteArray)] from rfl) (Reps.one (show Kd.M Kd.string _ _ _ (⟨#[47, 97]⟩ : ByteArray) [.string (⟨#[47, 97]⟩ : ByteArray)] from rfl) (Reps.one (show Kd.M Kd.string _ _ _ (⟨#[47, 97, 32, 98]⟩ : ByteArray) [.string (⟨#[47, 97, 32, 98]⟩ : ByteArray)] from rfl) (Reps.one (show Kd.M Kd.string _ _ _ (⟨#[47, 97, 1]⟩ : ByteArray) [.string (⟨#[47, 97, 1]⟩ : ByteArray)] from rfl) (Reps.none _ _)))))))); intro v304 w39 ho40 hb hg_ hnew_; clear hg_ hnew_; (first | rw [← Ny303.out] at ho40 | (simp only [Int.reduceToNat] at ho40; rw [← Ny303.out] at ho40)); have n0_ := Aside0.mk (Kd.R_lower ho40 (below_size (by repeat (first | (with_reducible first | exact HB.out | apply below_alloc | apply pw_below_drewN | apply below_drew1 | refine below_set ?_ GE286.out) | exact HB.out)))); have n1_ := Aside0.mk (blk_below (g := gb286) (o := .cells #[.int .i64 t276, .int .i64 t277, .int .i64 t278, .int .i64 t279, .int .i64 t280, .int .i64 t281, .int .i64 t282, .int .i64 t283, .bool t284, .bool a2] 28 (0, 0)) (by (with_reducible repeat (first | refine blk_drewN ?_ _ | refine blk_drew ?_ | refine blk_alloc ?_ _)); exact BK286.out) hb); have n2_ := Aside0.mk (below_step (by repeat (first | (with_reducible first | exact HB.out | apply below_alloc | apply pw_below_drewN | apply below_drew1 | refine below_set ?_ GE286.out) | exact HB.out)) hb); clear BK286; clear HB; have HO305 := n0_; have BK286 := n1_; have HB := n2_; clear n0_ n1_ n2_; clear hb ho40; obtain ⟨Ao41, co41, eo41⟩ := Kd.R_slice HO305.out; subst eo41; have p306 : 0 ≤ ((ji7) : Int) := of_decide_eq_true (by first | (with_reducible assumption) | assumption); have q306 : (ji7) < (y303.length : Int) := of_decide_eq_true (by first | (with_reducible assumption) | assumption); obtain ⟨ad306, e306, hx306_0⟩ := Kd.at_string (Kd.R_reads' HO305.out).2.2 (ji7) p306 q306; cases e306; replace p306 := eq_true p306; replace q306 := eq_true q306))
                      (try simp only [Act.put, List.setIfInBounds_toArray, List.set_cons_zero, List.set_cons_succ])
                      go_cut [20] (fun v20 wc => ∃ (kq : Nat) (x20_37 : Int), v20 = .int .i64 x20_37 ∧ Aside0 (parallaxlaw8_RequestClauses.j1 kq (rd y287 (ji7)) t298 t299 t300 t301 t302 (rdOf ByteArray.empty y303 (ji7)) x20_37 = some r) ∧ Aside0 (kq ≤ kj16) ∧ Aside0 (wc.heap[gb286]? = some (.cells #[.int .i64 t276, .int .i64 t277, .int .i64 t278, .int .i64 t279, .int .i64 t280, .int .i64 t281, .int .i64 t282, .int .i64 t283, .bool t284, .bool a2] 28 (0, 0))) ∧ Aside0 (Below w.heap.size w wc))
                      case first =>
                        have H := HC38.out
                        clear HC38
                        by_cases c42 : (rd y287 (ji7)) = 6
                        · rw [if_pos c42] at H
                          have c42b0 : ((rd y287 (ji7)) == 6) = true := beq_iff_eq.mpr c42
                          have c42b1 : ((rd y287 (ji7)) != 6) = false := bne_eq_false_iff_eq.mpr c42
                          clear c42
                          (first | rw [c42b0] | (simp only [i64_w, i32_w]; rw [c42b0]) | skip)
                          have H' := Aside0.mk H
                          clear H
                          go_wp2
                          go_meet
                          case rel => exact ⟨_, (0), (by first | rfl | (simp; done) | (simp [*]; done)), H', ⟨by have := HJ16.out; first | omega | exact Nat.le_refl _⟩, ⟨by (with_reducible repeat (first | refine blk_drewN ?_ _ | refine blk_drew ?_ | refine blk_alloc ?_ _)); exact BK286.out⟩, ⟨by repeat (first | (with_reducible first | exact HB.out | apply below_alloc | apply pw_below_drewN | apply below_drew1 | refine below_set ?_ GE286.out) | exact HB.out)⟩⟩
                        · rw [if_neg c42] at H
                          have c42b0 : ((rd y287 (ji7)) == 6) = false := beq_eq_false_iff_ne.mpr c42
                          have c42b1 : ((rd y287 (ji7)) != 6) = true := bne_iff_ne.mpr c42
                          (first | rw [c42b0] | (simp only [i64_w, i32_w]; rw [c42b0]) | skip)
                          have H' := Aside0.mk H
                          clear H
                          go_wp2
                          go_meet
                          case rel => exact ⟨_, (1), (by first | rfl | (simp; done) | (simp [*]; done)), H', ⟨by have := HJ16.out; first | omega | exact Nat.le_refl _⟩, ⟨by (with_reducible repeat (first | refine blk_drewN ?_ _ | refine blk_drew ?_ | refine blk_alloc ?_ _)); exact BK286.out⟩, ⟨by repeat (first | (with_reducible first | exact HB.out | apply below_alloc | apply pw_below_drewN | apply below_drew1 | refine below_set ?_ GE286.out) | exact HB.out)⟩⟩
                      case rest =>
                        clear HC38
                        try clear c1
                        try clear q1
                        try clear p2
                        try clear q2
                        try clear hx2
                        try clear c3
                        try clear p3
                        try clear q3
                        try clear hx3
                        try clear c4
                        try clear c5
                        try clear c7
                        try clear c8
                        try clear c8b0
                        try clear c9
                        try clear c9b0
                        try clear c10
                        try clear c10b0
                        try clear c11
                        try clear c11b0
                        try clear c11b1
                        try clear c13
                        try clear c14
                        try clear c14b0
                        try clear c15
                        try clear c15b0
                        try clear c17
                        try clear p29
                        try clear q29
                        try clear hx29
                        try clear p30
                        try clear q30
                        try clear hx30
                        try clear c32
                        try clear c32b0
                        try clear c32b1
                        try clear c33
                        try clear c34
                        try clear c34b0
                        try clear c34b1
                        try clear c36
                        try clear c36b0
                        try clear c37
                        try clear c37b0
                        try clear c42
                        try clear c42b0
                        try clear c42b1
                        try clear hcz21_0
                        try clear hcz21_1
                        try clear hcz21_2
                        try clear hcz21_3
                        try clear hcz21_4
                        try clear hcz21_5
                        try clear hcz21_6
                        try clear hcz21_7
                        try clear hcz21_8
                        try clear hcz21_9
                        try clear hcz28_0
                        try clear hcz28_1
                        try clear hcz28_2
                        try clear hcz28_3
                        try clear hcz28_4
                        try clear hcz28_5
                        try clear hcz28_6
                        try clear hcz28_7
                        try clear hcz28_8
                        try clear hcz28_9
                        try clear hfz21_0
                        try clear hfz21_1
                        try clear hfz21_2
                        try clear hfz21_3
                        try clear hfz21_4
                        try clear hfz21_5
                        try clear hfz21_6
                        try clear hfz21_7
                        try clear hfz21_8
                        try clear hfz21_9
                        try clear hfz28_0
                        try clear hfz28_1
                        try clear hfz28_2
                        try clear hfz28_3
                        try clear hfz28_4
                        try clear hfz28_5
                        try clear hfz28_6
                        try clear hfz28_7
                        try clear hfz28_8
                        try clear hfz28_9
                        try clear hx290_0
                        try clear hx294_0
                        try clear hx306_0
                        try clear p2
                        try clear p29
                        try clear p290
                        try clear p294
                        try clear p306
                        try clear q1
                        try clear q2
                        try clear q29
                        try clear q290
                        try clear q294
                        try clear q306
                        obtain ⟨kq, x20_37, rfl, HA, HJ37, BK286, HB⟩ := hcut
                        cases kq with
                        | zero => exact absurd HA.out (by simp [parallaxlaw8_RequestClauses.j1])
                        | succ kj37 =>
                          have H := HA.out
                          clear HA
                          simp only [parallaxlaw8_RequestClauses.j1] at H
                          by_cases c43 : (rd y287 (ji7)) = 4
                          · rw [if_pos c43] at H
                            have c43b0 : ((rd y287 (ji7)) == 4) = true := beq_iff_eq.mpr c43
                            have c43b1 : ((rd y287 (ji7)) != 4) = false := bne_eq_false_iff_eq.mpr c43
                            clear c43
                            have HC44 := Aside0.mk H
                            clear H
                            go_upto_region 19 with (fail)
                            go_cut [6, 21] (fun v6 v21 wc => ∃ (kq : Nat) (x6_43 : Bool), v6 = .bool x6_43 ∧ Aside0 (parallaxlaw8_RequestClauses.j2 kq x6_43 = some r) ∧ Aside0 (kq ≤ kj37) ∧ Aside0 (wc.heap[gb286]? = some (.cells #[.int .i64 t276, .int .i64 t277, .int .i64 t278, .int .i64 t279, .int .i64 t280, .int .i64 t281, .int .i64 t282, .int .i64 t283, .bool t284, .bool a2] 28 (0, 0))) ∧ Aside0 (Below w.heap.size w wc))
                            case first =>
                              have H := HC44.out
                              clear HC44
                              by_cases c45 : t298 = 505
                              · rw [if_pos c45] at H
                                have c45b0 : (t298 == 505) = true := beq_iff_eq.mpr c45
                                have c45b1 : (t298 != 505) = false := bne_eq_false_iff_eq.mpr c45
                                clear c45
                                (first | rw [c45b0] | (simp only [i64_w, i32_w]; rw [c45b0]) | skip)
                                by_cases c46 : t302 = 0
                                · rw [if_pos c46] at H
                                  have c46b0 : (t302 == 0) = true := beq_iff_eq.mpr c46
                                  have c46b1 : (t302 != 0) = false := bne_eq_false_iff_eq.mpr c46
                                  clear c46
                                  by_cases c47 : t299.toList = ([71, 69, 84] : List UInt8)
                                  · rw [if_pos c47] at H
                                    have c47b0 : (t299.toList == ([71, 69, 84] : List UInt8)) = true := beq_iff_eq.mpr c47
                                    have c47b1 : (t299.toList != ([71, 69, 84] : List UInt8)) = false := bne_eq_false_iff_eq.mpr c47
                                    clear c47
                                    by_cases c48 : t300.toList = (rdOf ByteArray.empty y303 (ji7)).toList
                                    · rw [if_pos c48] at H
                                      have c48b0 : (t300.toList == (rdOf ByteArray.empty y303 (ji7)).toList) = true := beq_iff_eq.mpr c48
                                      have c48b1 : (t300.toList != (rdOf ByteArray.empty y303 (ji7)).toList) = false := bne_eq_false_iff_eq.mpr c48
                                      clear c48
                                      have H' := Aside0.mk H
                                      clear H
                                      go_wp2
                                      go_meet
                                      case rel => exact ⟨_, ((t301 == x20_37)), (by first | rfl | (simp; done) | (simp [*]; done)), H', ⟨by have := HJ16.out; have := HJ37.out; first | omega | exact Nat.le_refl _⟩, ⟨by (with_reducible repeat (first | refine blk_drewN ?_ _ | refine blk_drew ?_ | refine blk_alloc ?_ _)); exact BK286.out⟩, ⟨by repeat (first | (with_reducible first | exact HB.out | apply below_alloc | apply pw_below_drewN | apply below_drew1 | refine below_set ?_ GE286.out) | exact HB.out)⟩⟩
                                    · rw [if_neg c48] at H
                                      have c48b0 : (t300.toList == (rdOf ByteArray.empty y303 (ji7)).toList) = false := beq_eq_false_iff_ne.mpr c48
                                      have c48b1 : (t300.toList != (rdOf ByteArray.empty y303 (ji7)).toList) = true := bne_iff_ne.mpr c48
                                      have H' := Aside0.mk H
                                      clear H
                                      go_wp2
                                      go_meet
                                      case rel => exact ⟨_, (false), (by first | rfl | (simp; done) | (simp [*]; done)), H', ⟨by have := HJ16.out; have := HJ37.out; first | omega | exact Nat.le_refl _⟩, ⟨by (with_reducible repeat (first | refine blk_drewN ?_ _ | refine blk_drew ?_ | refine blk_alloc ?_ _)); exact BK286.out⟩, ⟨by repeat (first | (with_reducible first | exact HB.out | apply below_alloc | apply pw_below_drewN | apply below_drew1 | refine below_set ?_ GE286.out) | exact HB.out)⟩⟩
                                  · rw [if_neg c47] at H
                                    have c47b0 : (t299.toList == ([71, 69, 84] : List UInt8)) = false := beq_eq_false_iff_ne.mpr c47
                                    have c47b1 : (t299.toList != ([71, 69, 84] : List UInt8)) = true := bne_iff_ne.mpr c47
                                    have H' := Aside0.mk H
                                    clear H
                                    go_wp2
                                    go_meet
                                    case rel => exact ⟨_, (false), (by first | rfl | (simp; done) | (simp [*]; done)), H', ⟨by have := HJ16.out; have := HJ37.out; first | omega | exact Nat.le_refl _⟩, ⟨by (with_reducible repeat (first | refine blk_drewN ?_ _ | refine blk_drew ?_ | refine blk_alloc ?_ _)); exact BK286.out⟩, ⟨by repeat (first | (with_reducible first | exact HB.out | apply below_alloc | apply pw_below_drewN | apply below_drew1 | refine below_set ?_ GE286.out) | exact HB.out)⟩⟩
                                · rw [if_neg c46] at H
                                  have c46b0 : (t302 == 0) = false := beq_eq_false_iff_ne.mpr c46
                                  have c46b1 : (t302 != 0) = true := bne_iff_ne.mpr c46
                                  have H' := Aside0.mk H
                                  clear H
                                  go_wp2
                                  go_meet
                                  case rel => exact ⟨_, (false), (by first | rfl | (simp; done) | (simp [*]; done)), H', ⟨by have := HJ16.out; have := HJ37.out; first | omega | exact Nat.le_refl _⟩, ⟨by (with_reducible repeat (first | refine blk_drewN ?_ _ | refine blk_drew ?_ | refine blk_alloc ?_ _)); exact BK286.out⟩, ⟨by repeat (first | (with_reducible first | exact HB.out | apply below_alloc | apply pw_below_drewN | apply below_drew1 | refine below_set ?_ GE286.out) | exact HB.out)⟩⟩
                              · rw [if_neg c45] at H
                                have c45b0 : (t298 == 505) = false := beq_eq_false_iff_ne.mpr c45
                                have c45b1 : (t298 != 505) = true := bne_iff_ne.mpr c45
                                (first | rw [c45b0] | (simp only [i64_w, i32_w]; rw [c45b0]) | skip)
                                have H' := Aside0.mk H
                                clear H
                                go_wp2
                                go_meet
                                case rel => exact ⟨_, (false), (by first | rfl | (simp; done) | (simp [*]; done)), H', ⟨by have := HJ16.out; have := HJ37.out; first | omega | exact Nat.le_refl _⟩, ⟨by (with_reducible repeat (first | refine blk_drewN ?_ _ | refine blk_drew ?_ | refine blk_alloc ?_ _)); exact BK286.out⟩, ⟨by repeat (first | (with_reducible first | exact HB.out | apply below_alloc | apply pw_below_drewN | apply below_drew1 | refine below_set ?_ GE286.out) | exact HB.out)⟩⟩
                            case rest =>
                              clear HC44
                              try clear c1
                              try clear q1
                              try clear p2
                              try clear q2
                              try clear hx2
                              try clear c3
                              try clear p3
                              try clear q3
                              try clear hx3
                              try clear c4
                              try clear c5
                              try clear c7
                              try clear c8
                              try clear c8b0
                              try clear c9
                              try clear c9b0
                              try clear c10
                              try clear c10b0
                              try clear c11
                              try clear c11b0
                              try clear c11b1
                              try clear c13
                              try clear c14
                              try clear c14b0
                              try clear c15
                              try clear c15b0
                              try clear c17
                              try clear p29
                              try clear q29
                              try clear hx29
                              try clear p30
                              try clear q30
                              try clear hx30
                              try clear c32
                              try clear c32b0
                              try clear c32b1
                              try clear c33
                              try clear c34
                              try clear c34b0
                              try clear c34b1
                              try clear c36
                              try clear c36b0
                              try clear c37
                              try clear c37b0
                              try clear c42
                              try clear c42b0
                              try clear c42b1
                              try clear c43
                              try clear c43b0
                              try clear c43b1
                              try clear c45
                              try clear c45b0
                              try clear c45b1
                              try clear c46
                              try clear c46b0
                              try clear c46b1
                              try clear c47
                              try clear c47b0
                              try clear c47b1
                              try clear c48
                              try clear c48b0
                              try clear c48b1
                              try clear hcz21_0
                              try clear hcz21_1
                              try clear hcz21_2
                              try clear hcz21_3
                              try clear hcz21_4
                              try clear hcz21_5
                              try clear hcz21_6
                              try clear hcz21_7
                              try clear hcz21_8
                              try clear hcz21_9
                              try clear hcz28_0
                              try clear hcz28_1
                              try clear hcz28_2
                              try clear hcz28_3
                              try clear hcz28_4
                              try clear hcz28_5
                              try clear hcz28_6
                              try clear hcz28_7
                              try clear hcz28_8
                              try clear hcz28_9
                              try clear hfz21_0
                              try clear hfz21_1
                              try clear hfz21_2
                              try clear hfz21_3
                              try clear hfz21_4
                              try clear hfz21_5
                              try clear hfz21_6
                              try clear hfz21_7
                              try clear hfz21_8
                              try clear hfz21_9
                              try clear hfz28_0
                              try clear hfz28_1
                              try clear hfz28_2
                              try clear hfz28_3
                              try clear hfz28_4
                              try clear hfz28_5
                              try clear hfz28_6
                              try clear hfz28_7
                              try clear hfz28_8
                              try clear hfz28_9
                              try clear hx290_0
                              try clear hx294_0
                              try clear hx306_0
                              try clear p2
                              try clear p29
                              try clear p290
                              try clear p294
                              try clear p3
                              try clear p30
                              try clear p306
                              try clear q1
                              try clear q2
                              try clear q29
                              try clear q290
                              try clear q294
                              try clear q3
                              try clear q30
                              try clear q306
                              obtain ⟨kq, x6_43, rfl, HA, HJ43, BK286, HB⟩ := hcut
                              cases kq with
                              | zero => exact absurd HA.out (by simp [parallaxlaw8_RequestClauses.j2])
                              | succ kj43 =>
                                have H := HA.out
                                clear HA
                                simp only [parallaxlaw8_RequestClauses.j2] at H
                                obtain rfl := Option.some.inj H
                                go_wp2
                                go_ret
                                exact ⟨by first | rfl | (simp [errW_none, errW_some] <;> rfl) | (simp only [← hji7, ← hji12, ← hji7]; first | rfl | (simp [errW_none, errW_some] <;> rfl)) | (simp [*, errW_none, errW_some] <;> rfl), by repeat (first | (with_reducible first | exact HB.out | apply below_alloc | apply pw_below_drewN | apply below_drew1 | refine below_set ?_ GE286.out) | exact HB.out)⟩
                          · rw [if_neg c43] at H
                            have c43b0 : ((rd y287 (ji7)) == 4) = false := beq_eq_false_iff_ne.mpr c43
                            have c43b1 : ((rd y287 (ji7)) != 4) = true := bne_iff_ne.mpr c43
                            have HC49 := Aside0.mk H
                            clear H
                            go_upto_if 89 with (fail)
                            go_cut [21] (fun v21 wc => ∃ (kq : Nat) (x21_48 : Bool), v21 = .bool x21_48 ∧ Aside0 (parallaxlaw8_RequestClauses.j3 kq t299 t300 t301 t302 (rdOf ByteArray.empty y303 (ji7)) x20_37 x21_48 = some r) ∧ Aside0 (kq ≤ kj37) ∧ Aside0 (wc.heap[gb286]? = some (.cells #[.int .i64 t276, .int .i64 t277, .int .i64 t278, .int .i64 t279, .int .i64 t280, .int .i64 t281, .int .i64 t282, .int .i64 t283, .bool t284, .bool a2] 28 (0, 0))) ∧ Aside0 (Below w.heap.size w wc))
                            case first =>
                              have H := HC49.out
                              clear HC49
                              by_cases c50 : (rd y287 (ji7)) = 5
                              · rw [if_pos c50] at H
                                have c50b0 : ((rd y287 (ji7)) == 5) = true := beq_iff_eq.mpr c50
                                have c50b1 : ((rd y287 (ji7)) != 5) = false := bne_eq_false_iff_eq.mpr c50
                                clear c50
                                (first | rw [c50b0] | (simp only [i64_w, i32_w]; rw [c50b0]) | skip)
                                have H' := Aside0.mk H
                                clear H
                                go_wp2
                                go_meet
                                case rel => exact ⟨_, ((t298 == 505)), (by first | rfl | (simp; done) | (simp [*]; done)), H', ⟨by have := HJ16.out; have := HJ37.out; first | omega | exact Nat.le_refl _⟩, ⟨by (with_reducible repeat (first | refine blk_drewN ?_ _ | refine blk_drew ?_ | refine blk_alloc ?_ _)); exact BK286.out⟩, ⟨by repeat (first | (with_reducible first | exact HB.out | apply below_alloc | apply pw_below_drewN | apply below_drew1 | refine below_set ?_ GE286.out) | exact HB.out)⟩⟩
                              · rw [if_neg c50] at H
                                have c50b0 : ((rd y287 (ji7)) == 5) = false := beq_eq_false_iff_ne.mpr c50
                                have c50b1 : ((rd y287 (ji7)) != 5) = true := bne_iff_ne.mpr c50
                                (first | rw [c50b0] | (simp only [i64_w, i32_w]; rw [c50b0]) | skip)
                                have H' := Aside0.mk H
                                clear H
                                go_wp2
                                go_meet
                                case rel => exact ⟨_, ((t298 == 400)), (by first | rfl | (simp; done) | (simp [*]; done)), H', ⟨by have := HJ16.out; have := HJ37.out; first | omega | exact Nat.le_refl _⟩, ⟨by (with_reducible repeat (first | refine blk_drewN ?_ _ | refine blk_drew ?_ | refine blk_alloc ?_ _)); exact BK286.out⟩, ⟨by repeat (first | (with_reducible first | exact HB.out | apply below_alloc | apply pw_below_drewN | apply below_drew1 | refine below_set ?_ GE286.out) | exact HB.out)⟩⟩
                            case rest =>
                              clear HC49
                              try clear c1
                              try clear q1
                              try clear p2
                              try clear q2
                              try clear hx2
                              try clear c3
                              try clear p3
                              try clear q3
                              try clear hx3
                              try clear c4
                              try clear c5
                              try clear c7
                              try clear c8
                              try clear c8b0
                              try clear c9
                              try clear c9b0
                              try clear c10
                              try clear c10b0
                              try clear c11
                              try clear c11b0
                              try clear c11b1
                              try clear c13
                              try clear c14
                              try clear c14b0
                              try clear c15
                              try clear c15b0
                              try clear c17
                              try clear p29
                              try clear q29
                              try clear hx29
                              try clear p30
                              try clear q30
                              try clear hx30
                              try clear c32
                              try clear c32b0
                              try clear c32b1
                              try clear c33
                              try clear c34
                              try clear c34b0
                              try clear c34b1
                              try clear c36
                              try clear c36b0
                              try clear c37
                              try clear c37b0
                              try clear c42
                              try clear c42b0
                              try clear c42b1
                              try clear c43
                              try clear c43b0
                              try clear c43b1
                              try clear c45
                              try clear c45b0
                              try clear c45b1
                              try clear c46
                              try clear c46b0
                              try clear c46b1
                              try clear c47
                              try clear c47b0
                              try clear c47b1
                              try clear c48
                              try clear c48b0
                              try clear c48b1
                              try clear c50
                              try clear c50b0
                              try clear c50b1
                              try clear hcz21_0
                              try clear hcz21_1
                              try clear hcz21_2
                              try clear hcz21_3
                              try clear hcz21_4
                              try clear hcz21_5
                              try clear hcz21_6
                              try clear hcz21_7
                              try clear hcz21_8
                              try clear hcz21_9
                              try clear hcz28_0
                              try clear hcz28_1
                              try clear hcz28_2
                              try clear hcz28_3
                              try clear hcz28_4
                              try clear hcz28_5
                              try clear hcz28_6
                              try clear hcz28_7
                              try clear hcz28_8
                              try clear hcz28_9
                              try clear hfz21_0
                              try clear hfz21_1
                              try clear hfz21_2
                              try clear hfz21_3
                              try clear hfz21_4
                              try clear hfz21_5
                              try clear hfz21_6
                              try clear hfz21_7
                              try clear hfz21_8
                              try clear hfz21_9
                              try clear hfz28_0
                              try clear hfz28_1
                              try clear hfz28_2
                              try clear hfz28_3
                              try clear hfz28_4
                              try clear hfz28_5
                              try clear hfz28_6
                              try clear hfz28_7
                              try clear hfz28_8
                              try clear hfz28_9
                              try clear hx290_0
                              try clear hx294_0
                              try clear hx306_0
                              try clear p2
                              try clear p29
                              try clear p290
                              try clear p294
                              try clear p3
                              try clear p30
                              try clear p306
                              try clear q1
                              try clear q2
                              try clear q29
                              try clear q290
                              try clear q294
                              try clear q3
                              try clear q30
                              try clear q306
                              obtain ⟨kq, x21_48, rfl, HA, HJ48, BK286, HB⟩ := hcut
                              cases kq with
                              | zero => exact absurd HA.out (by simp [parallaxlaw8_RequestClauses.j3])
                              | succ kj48 =>
                                have H := HA.out
                                clear HA
                                simp only [parallaxlaw8_RequestClauses.j3] at H
                                have HC51 := Aside0.mk H
                                clear H
                                go_upto_region 19 with (fail)
                                go_cut [6] (fun v6 wc => ∃ (kq : Nat) (x6_50 : Bool), v6 = .bool x6_50 ∧ Aside0 (parallaxlaw8_RequestClauses.j4 kq x6_50 = some r) ∧ Aside0 (kq ≤ kj48) ∧ Aside0 (wc.heap[gb286]? = some (.cells #[.int .i64 t276, .int .i64 t277, .int .i64 t278, .int .i64 t279, .int .i64 t280, .int .i64 t281, .int .i64 t282, .int .i64 t283, .bool t284, .bool a2] 28 (0, 0))) ∧ Aside0 (Below w.heap.size w wc))
                                case first =>
                                  have H := HC51.out
                                  clear HC51
                                  by_cases c52 : x21_48 = true
                                  · subst c52
                                    rw [if_pos rfl] at H
                                    by_cases c53 : t302 = 0
                                    · rw [if_pos c53] at H
                                      have c53b0 : (t302 == 0) = true := beq_iff_eq.mpr c53
                                      have c53b1 : (t302 != 0) = false := bne_eq_false_iff_eq.mpr c53
                                      clear c53
                                      (first | rw [c53b0] | (simp only [i64_w, i32_w]; rw [c53b0]) | skip)
                                      by_cases c54 : t299.toList = ([71, 69, 84] : List UInt8)
                                      · rw [if_pos c54] at H
                                        have c54b0 : (t299.toList == ([71, 69, 84] : List UInt8)) = true := beq_iff_eq.mpr c54
                                        have c54b1 : (t299.toList != ([71, 69, 84] : List UInt8)) = false := bne_eq_false_iff_eq.mpr c54
                                        clear c54
                                        by_cases c55 : t300.toList = (rdOf ByteArray.empty y303 (ji7)).toList
                                        · rw [if_pos c55] at H
                                          have c55b0 : (t300.toList == (rdOf ByteArray.empty y303 (ji7)).toList) = true := beq_iff_eq.mpr c55
                                          have c55b1 : (t300.toList != (rdOf ByteArray.empty y303 (ji7)).toList) = false := bne_eq_false_iff_eq.mpr c55
                                          clear c55
                                          have H' := Aside0.mk H
                                          clear H
                                          go_wp2
                                          go_meet
                                          case rel => exact ⟨_, ((t301 == x20_37)), (by first | rfl | (simp; done) | (simp [*]; done)), H', ⟨by have := HJ16.out; have := HJ37.out; have := HJ48.out; first | omega | exact Nat.le_refl _⟩, ⟨by (with_reducible repeat (first | refine blk_drewN ?_ _ | refine blk_drew ?_ | refine blk_alloc ?_ _)); exact BK286.out⟩, ⟨by repeat (first | (with_reducible first | exact HB.out | apply below_alloc | apply pw_below_drewN | apply below_drew1 | refine below_set ?_ GE286.out) | exact HB.out)⟩⟩
                                        · rw [if_neg c55] at H
                                          have c55b0 : (t300.toList == (rdOf ByteArray.empty y303 (ji7)).toList) = false := beq_eq_false_iff_ne.mpr c55
                                          have c55b1 : (t300.toList != (rdOf ByteArray.empty y303 (ji7)).toList) = true := bne_iff_ne.mpr c55
                                          have H' := Aside0.mk H
                                          clear H
                                          go_wp2
                                          go_meet
                                          case rel => exact ⟨_, (false), (by first | rfl | (simp; done) | (simp [*]; done)), H', ⟨by have := HJ16.out; have := HJ37.out; have := HJ48.out; first | omega | exact Nat.le_refl _⟩, ⟨by (with_reducible repeat (first | refine blk_drewN ?_ _ | refine blk_drew ?_ | refine blk_alloc ?_ _)); exact BK286.out⟩, ⟨by repeat (first | (with_reducible first | exact HB.out | apply below_alloc | apply pw_below_drewN | apply below_drew1 | refine below_set ?_ GE286.out) | exact HB.out)⟩⟩
                                      · rw [if_neg c54] at H
                                        have c54b0 : (t299.toList == ([71, 69, 84] : List UInt8)) = false := beq_eq_false_iff_ne.mpr c54
                                        have c54b1 : (t299.toList != ([71, 69, 84] : List UInt8)) = true := bne_iff_ne.mpr c54
                                        have H' := Aside0.mk H
                                        clear H
                                        go_wp2
                                        go_meet
                                        case rel => exact ⟨_, (false), (by first | rfl | (simp; done) | (simp [*]; done)), H', ⟨by have := HJ16.out; have := HJ37.out; have := HJ48.out; first | omega | exact Nat.le_refl _⟩, ⟨by (with_reducible repeat (first | refine blk_drewN ?_ _ | refine blk_drew ?_ | refine blk_alloc ?_ _)); exact BK286.out⟩, ⟨by repeat (first | (with_reducible first | exact HB.out | apply below_alloc | apply pw_below_drewN | apply below_drew1 | refine below_set ?_ GE286.out) | exact HB.out)⟩⟩
                                    · rw [if_neg c53] at H
                                      have c53b0 : (t302 == 0) = false := beq_eq_false_iff_ne.mpr c53
                                      have c53b1 : (t302 != 0) = true := bne_iff_ne.mpr c53
                                      (first | rw [c53b0] | (simp only [i64_w, i32_w]; rw [c53b0]) | skip)
                                      have H' := Aside0.mk H
                                      clear H
                                      go_wp2
                                      go_meet
                                      case rel => exact ⟨_, (false), (by first | rfl | (simp; done) | (simp [*]; done)), H', ⟨by have := HJ16.out; have := HJ37.out; have := HJ48.out; first | omega | exact Nat.le_refl _⟩, ⟨by (with_reducible repeat (first | refine blk_drewN ?_ _ | refine blk_drew ?_ | refine blk_alloc ?_ _)); exact BK286.out⟩, ⟨by repeat (first | (with_reducible first | exact HB.out | apply below_alloc | apply pw_below_drewN | apply below_drew1 | refine below_set ?_ GE286.out) | exact HB.out)⟩⟩
                                  · replace c52 := Bool.eq_false_iff.mpr c52
                                    subst c52
                                    rw [if_neg (show ¬ (false = true) by decide)] at H
                                    have H' := Aside0.mk H
                                    clear H
                                    go_wp2
                                    go_meet
                                    case rel => exact ⟨_, (false), (by first | rfl | (simp; done) | (simp [*]; done)), H', ⟨by have := HJ16.out; have := HJ37.out; have := HJ48.out; first | omega | exact Nat.le_refl _⟩, ⟨by (with_reducible repeat (first | refine blk_drewN ?_ _ | refine blk_drew ?_ | refine blk_alloc ?_ _)); exact BK286.out⟩, ⟨by repeat (first | (with_reducible first | exact HB.out | apply below_alloc | apply pw_below_drewN | apply below_drew1 | refine below_set ?_ GE286.out) | exact HB.out)⟩⟩
                                case rest =>
                                  clear HC51
                                  try clear c1
                                  try clear q1
                                  try clear p2
                                  try clear q2
                                  try clear hx2
                                  try clear c3
                                  try clear p3
                                  try clear q3
                                  try clear hx3
                                  try clear c4
                                  try clear c5
                                  try clear c7
                                  try clear c8
                                  try clear c8b0
                                  try clear c9
                                  try clear c9b0
                                  try clear c10
                                  try clear c10b0
                                  try clear c11
                                  try clear c11b0
                                  try clear c11b1
                                  try clear c13
                                  try clear c14
                                  try clear c14b0
                                  try clear c15
                                  try clear c15b0
                                  try clear c17
                                  try clear p29
                                  try clear q29
                                  try clear hx29
                                  try clear p30
                                  try clear q30
                                  try clear hx30
                                  try clear c32
                                  try clear c32b0
                                  try clear c32b1
                                  try clear c33
                                  try clear c34
                                  try clear c34b0
                                  try clear c34b1
                                  try clear c36
                                  try clear c36b0
                                  try clear c37
                                  try clear c37b0
                                  try clear c42
                                  try clear c42b0
                                  try clear c42b1
                                  try clear c43
                                  try clear c43b0
                                  try clear c43b1
                                  try clear c45
                                  try clear c45b0
                                  try clear c45b1
                                  try clear c46
                                  try clear c46b0
                                  try clear c46b1
                                  try clear c47
                                  try clear c47b0
                                  try clear c47b1
                                  try clear c48
                                  try clear c48b0
                                  try clear c48b1
                                  try clear c50
                                  try clear c50b0
                                  try clear c50b1
                                  try clear c52
                                  try clear c53
                                  try clear c53b0
                                  try clear c53b1
                                  try clear c54
                                  try clear c54b0
                                  try clear c54b1
                                  try clear c55
                                  try clear c55b0
                                  try clear c55b1
                                  try clear hcz21_0
                                  try clear hcz21_1
                                  try clear hcz21_2
                                  try clear hcz21_3
                                  try clear hcz21_4
                                  try clear hcz21_5
                                  try clear hcz21_6
                                  try clear hcz21_7
                                  try clear hcz21_8
                                  try clear hcz21_9
                                  try clear hcz28_0
                                  try clear hcz28_1
                                  try clear hcz28_2
                                  try clear hcz28_3
                                  try clear hcz28_4
                                  try clear hcz28_5
                                  try clear hcz28_6
                                  try clear hcz28_7
                                  try clear hcz28_8
                                  try clear hcz28_9
                                  try clear hfz21_0
                                  try clear hfz21_1
                                  try clear hfz21_2
                                  try clear hfz21_3
                                  try clear hfz21_4
                                  try clear hfz21_5
                                  try clear hfz21_6
                                  try clear hfz21_7
                                  try clear hfz21_8
                                  try clear hfz21_9
                                  try clear hfz28_0
                                  try clear hfz28_1
                                  try clear hfz28_2
                                  try clear hfz28_3
                                  try clear hfz28_4
                                  try clear hfz28_5
                                  try clear hfz28_6
                                  try clear hfz28_7
                                  try clear hfz28_8
                                  try clear hfz28_9
                                  try clear hx290_0
                                  try clear hx294_0
                                  try clear hx306_0
                                  try clear p2
                                  try clear p29
                                  try clear p290
                                  try clear p294
                                  try clear p3
                                  try clear p30
                                  try clear p306
                                  try clear q1
                                  try clear q2
                                  try clear q29
                                  try clear q290
                                  try clear q294
                                  try clear q3
                                  try clear q30
                                  try clear q306
                                  obtain ⟨kq, x6_50, rfl, HA, HJ50, BK286, HB⟩ := hcut
                                  cases kq with
                                  | zero => exact absurd HA.out (by simp [parallaxlaw8_RequestClauses.j4])
                                  | succ kj50 =>
                                    have H := HA.out
                                    clear HA
                                    simp only [parallaxlaw8_RequestClauses.j4] at H
                                    obtain rfl := Option.some.inj H
                                    go_wp2
                                    go_ret
                                    exact ⟨by first | rfl | (simp [errW_none, errW_some] <;> rfl) | (simp only [← hji7, ← hji12, ← hji7]; first | rfl | (simp [errW_none, errW_some] <;> rfl)) | (simp [*, errW_none, errW_some] <;> rfl), by repeat (first | (with_reducible first | exact HB.out | apply below_alloc | apply pw_below_drewN | apply below_drew1 | refine below_set ?_ GE286.out) | exact HB.out)⟩
                    · rw [if_neg c37] at H
                      exact absurd H (by simp)
                  · rw [if_neg c36] at H
                    exact absurd H (by simp)
          · rw [if_neg c11] at H
            exact absurd H (by simp)
        · rw [if_neg c10] at H
          exact absurd H (by simp)
      · rw [if_neg c9] at H
        exact absurd H (by simp)
    · rw [if_neg c8] at H
      exact absurd H (by simp)
  · replace c5 := Bool.eq_false_iff.mpr c5
    subst c5
    rw [if_neg (show ¬ (false = true) by decide)] at H
    exact absurd ((Option.some.inj H).trans HT.out) (by decide)

/-- THE ONE PURE STATEMENT of parallaxlaw8_RequestClauses: yours. -/
def parallaxlaw8_RequestClauses.Pure : Prop := ∀ (a0 : Int) (a1 : Int) (a2 : Bool), (Lit.int .u8 a0).wf = true → (Lit.int .u32 a1).wf = true → ∃ k, parallaxlaw8_RequestClauses.f k a0 a1 a2 = some true
theorem parallaxlaw8_RequestClauses.walk (P : parallaxlaw8_RequestClauses.Pure) (a0 : Int) (a1 : Int) (a2 : Bool) (w : World) (w0 : (Lit.int .u8 a0).wf = true) (w1 : (Lit.int .u32 a1).wf = true) :
    Calls Tryd.prog 5 #[.int .u8 a0, .int .u32 a1, .bool a2] w fun e w' => e = .returned (.bool true) ∧ Below w.heap.size w w' := by
  obtain ⟨k, h⟩ := P a0 a1 a2 w0 w1
  refine (parallaxlaw8_RequestClauses.calls k a0 a1 a2 true w w0 w1 rfl h).mono ?_
  rintro e w' ⟨rfl, hd⟩
  exact ⟨rfl, hd⟩

end Go.Proofs.YtclaaacdmaeblaaDoor.PRequestClauses
