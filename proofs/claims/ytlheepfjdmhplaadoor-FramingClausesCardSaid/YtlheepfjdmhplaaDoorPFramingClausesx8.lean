-- Written by a program of this session (wip/tools/myprint.sh)
import Derived.Test.YtlheepfjdmhplaaDoorPFramingClausesx0
import Derived.Test.YtlheepfjdmhplaaDoorPFramingClausesx6
import Derived.Test.YtlheepfjdmhplaaDoorPFramingClausesx7
namespace Go.Proofs.YtlheepfjdmhplaaDoor.PFramingClauses
open Go.RowKit Go.Proofs.YtlheepfjdmhplaaDoorW.PrintWords Go.Proofs.YtlheepfjdmhplaaDoorW.PrintLast Go.Proofs.YtlheepfjdmhplaaDoorW.PrintMore
attribute [local go_sem] max2_int min2_int max_two min_two max_three min_three max_four min_four   -- for this text's walks alone
set_option linter.unusedVariables false
set_option linter.unusedSimpArgs false

/-! ### parallaxlaw10_FramingClauses: function 5 -/
mutual
def parallaxlaw10_FramingClauses.j5 : Nat → Int → Int → List (S34) → Int → Int → Int → Int → Int → Int → Int → Int → Int → Int → Bool → Bool → Option (Bool)
  | 0, _, _, _, _, _, _, _, _, _, _, _, _, _, _, _ => none
  | k + 1, x1, x6, x7, x8, x9, x295000, x295001, x295002, x295003, x295004, x295005, x295006, x295007, x295008, x295009 => if 0 ≤ x6 then ((framing_Decide.f k (Go.bits .andNot .u32 (Go.bits .andNot .u32 (Go.bits .and .u32 x1 1073741823) (shl .u32 1 x6)) x9) x295000 x295001 x295002 x295003 x295004 x295005 x295006 x295007 x295008 x295009 x8 x7).bind fun bt323 => ((framing_Decide.f k (Go.bits .or .u32 (Go.bits .andNot .u32 (Go.bits .andNot .u32 (Go.bits .and .u32 x1 1073741823) (shl .u32 1 x6)) x9) (shl .u32 1 x6)) x295000 x295001 x295002 x295003 x295004 x295005 x295006 x295007 x295008 x295009 x8 x7).bind fun bt327 => (if x6 = 23 then (parallaxlaw10_FramingClauses.j6 k x6 bt323.2.2 bt327.2.2 0 1 true bt327.1 bt327.2.1) else (parallaxlaw10_FramingClauses.j6 k x6 bt323.2.2 bt327.2.2 0 1 (x6 == 24) bt327.1 bt327.2.1)))) else (none)
def parallaxlaw10_FramingClauses.j6 : Nat → Int → Int → Int → Int → Int → Bool → Int → Int → Option (Bool)
  | 0, _, _, _, _, _, _, _, _ => none
  | k + 1, x6, x12, x14, x15, x16, x96, x331000, x331001 => if x96 = true then (parallaxlaw10_FramingClauses.j7 k x6 x12 x14 3 x16 x331000 x331001) else (parallaxlaw10_FramingClauses.j7 k x6 x12 x14 x15 x16 x331000 x331001)
def parallaxlaw10_FramingClauses.j7 : Nat → Int → Int → Int → Int → Int → Int → Int → Option (Bool)
  | 0, _, _, _, _, _, _, _ => none
  | k + 1, x6, x12, x14, x15, x16, x331000, x331001 => if x6 = 18 then (if x12 = 0 then (parallaxlaw10_FramingClauses.j8 k false) else (if x14 = 0 then (if x331000 = 2 then (parallaxlaw10_FramingClauses.j8 k (x331001 == x15)) else (parallaxlaw10_FramingClauses.j8 k false)) else (parallaxlaw10_FramingClauses.j8 k false))) else (if x6 = 20 then (parallaxlaw10_FramingClauses.j9 k x12 x14 x15 2 x331000 x331001) else (parallaxlaw10_FramingClauses.j9 k x12 x14 x15 x16 x331000 x331001))
def parallaxlaw10_FramingClauses.j8 : Nat → Bool → Option (Bool)
  | 0, _ => none
  | k + 1, x4 => some x4
def parallaxlaw10_FramingClauses.j9 : Nat → Int → Int → Int → Int → Int → Int → Option (Bool)
  | 0, _, _, _, _, _, _ => none
  | k + 1, x12, x14, x15, x16, x331000, x331001 => if x12 = 0 then (parallaxlaw10_FramingClauses.j10 k false) else (if x14 = 0 then (if x331000 = x16 then (parallaxlaw10_FramingClauses.j10 k (x331001 == x15)) else (parallaxlaw10_FramingClauses.j10 k false)) else (parallaxlaw10_FramingClauses.j10 k false))
def parallaxlaw10_FramingClauses.j10 : Nat → Bool → Option (Bool)
  | 0, _ => none
  | k + 1, x4 => some x4
def parallaxlaw10_FramingClauses.j4 : Nat → Int → Int → List (S34) → Int → Int → Int → Int → Int → Int → Int → Int → Int → Int → Bool → Bool → Option (Bool)
  | 0, _, _, _, _, _, _, _, _, _, _, _, _, _, _, _ => none
  | k + 1, x1, x6, x7, x8, x9, x295000, x295001, x295002, x295003, x295004, x295005, x295006, x295007, x295008, x295009 => parallaxlaw10_FramingClauses.j5 k x1 x6 x7 x8 x9 x295000 x295001 x295002 x295003 x295004 x295005 x295006 x295007 x295008 x295009
def parallaxlaw10_FramingClauses.j3 : Nat → Int → Int → List (S34) → Int → Int → Int → Int → Int → Int → Int → Int → Int → Int → Bool → Bool → Option (Bool)
  | 0, _, _, _, _, _, _, _, _, _, _, _, _, _, _, _ => none
  | k + 1, x1, x6, x7, x8, x9, x295000, x295001, x295002, x295003, x295004, x295005, x295006, x295007, x295008, x295009 => parallaxlaw10_FramingClauses.j4 k x1 x6 x7 x8 x9 x295000 x295001 x295002 x295003 x295004 x295005 x295006 x295007 x295008 x295009
def parallaxlaw10_FramingClauses.j2 : Nat → Int → Int → List (S34) → Int → Int → Int → Int → Int → Int → Int → Int → Int → Int → Bool → Bool → Option (Bool)
  | 0, _, _, _, _, _, _, _, _, _, _, _, _, _, _, _ => none
  | k + 1, x1, x6, x7, x8, x9, x295000, x295001, x295002, x295003, x295004, x295005, x295006, x295007, x295008, x295009 => parallaxlaw10_FramingClauses.j3 k x1 x6 x7 x8 x9 x295000 x295001 x295002 x295003 x295004 x295005 x295006 x295007 x295008 x295009
def parallaxlaw10_FramingClauses.j1 : Nat → Int → Int → List (S34) → Int → Int → Int → Int → Int → Int → Int → Int → Int → Int → Bool → Bool → Option (Bool)
  | 0, _, _, _, _, _, _, _, _, _, _, _, _, _, _, _ => none
  | k + 1, x1, x6, x7, x8, x9, x295000, x295001, x295002, x295003, x295004, x295005, x295006, x295007, x295008, x295009 => parallaxlaw10_FramingClauses.j2 k x1 x6 x7 x8 x9 x295000 x295001 x295002 x295003 x295004 x295005 x295006 x295007 x295008 x295009
def parallaxlaw10_FramingClauses.j0 : Nat → Int → Int → List (S34) → Int → Int → Int → Int → Int → Int → Int → Int → Int → Int → Bool → Bool → Option (Bool)
  | 0, _, _, _, _, _, _, _, _, _, _, _, _, _, _, _ => none
  | k + 1, x1, x6, x7, x8, x9, x295000, x295001, x295002, x295003, x295004, x295005, x295006, x295007, x295008, x295009 => parallaxlaw10_FramingClauses.j1 k x1 x6 x7 x8 x9 x295000 x295001 x295002 x295003 x295004 x295005 x295006 x295007 x295008 x295009
end
def parallaxlaw10_FramingClauses.f (k : Nat) (a0 : Int) (a1 : Int) : Option (Bool) := (parallaxlaw10_known.f k).bind fun t283 => (if t283 = true then ((parallaxref4_Usual.f).bind fun bt284 => ((some (([15, 16, 23, 24, 19, 18, 20] : List Int) : List Int)).bind fun y295 => (if 0 ≤ (Int.tmod a0 7) then (if (Int.tmod a0 7) < (y295.length : Int) then ((some (([(⟨(⟨#[72, 111, 115, 116]⟩ : ByteArray), (⟨#[97]⟩ : ByteArray)⟩ : S34)] : List (S34)) : List (S34))).bind fun y299 => (if (rd y295 (Int.tmod a0 7)) = 15 then (parallaxlaw10_FramingClauses.j5 k a1 (rd y295 (Int.tmod a0 7)) ([] : List (S34)) 1 0 bt284.1 bt284.2.1 bt284.2.2.1 bt284.2.2.2.1 bt284.2.2.2.2.1 bt284.2.2.2.2.2.1 bt284.2.2.2.2.2.2.1 bt284.2.2.2.2.2.2.2.1 bt284.2.2.2.2.2.2.2.2.1 bt284.2.2.2.2.2.2.2.2.2) else (if (rd y295 (Int.tmod a0 7)) = 16 then (if y299.length < 4398046511104 then (parallaxlaw10_FramingClauses.j4 k a1 (rd y295 (Int.tmod a0 7)) (y299 ++ [(⟨(⟨#[104, 111, 115, 116]⟩ : ByteArray), (⟨#[98]⟩ : ByteArray)⟩ : S34)]) 1 0 bt284.1 bt284.2.1 bt284.2.2.1 bt284.2.2.2.1 bt284.2.2.2.2.1 bt284.2.2.2.2.2.1 bt284.2.2.2.2.2.2.1 bt284.2.2.2.2.2.2.2.1 bt284.2.2.2.2.2.2.2.2.1 bt284.2.2.2.2.2.2.2.2.2) else (none)) else (if (rd y295 (Int.tmod a0 7)) = 23 then (if y299.length < 4398046511104 then (parallaxlaw10_FramingClauses.j3 k a1 (rd y295 (Int.tmod a0 7)) (y299 ++ [(⟨(⟨#[67, 111, 110, 116, 101, 110, 116, 45, 76, 101, 110, 103, 116, 104]⟩ : ByteArray), (⟨#[43, 51]⟩ : ByteArray)⟩ : S34)]) 1 0 bt284.1 bt284.2.1 bt284.2.2.1 bt284.2.2.2.1 bt284.2.2.2.2.1 bt284.2.2.2.2.2.1 bt284.2.2.2.2.2.2.1 bt284.2.2.2.2.2.2.2.1 bt284.2.2.2.2.2.2.2.2.1 bt284.2.2.2.2.2.2.2.2.2) else (none)) else (if (rd y295 (Int.tmod a0 7)) = 24 then ((some (([(⟨(⟨#[67, 111, 110, 116, 101, 110, 116, 45, 76, 101, 110, 103, 116, 104]⟩ : ByteArray), (⟨#[51]⟩ : ByteArray)⟩ : S34), (⟨(⟨#[67, 111, 110, 116, 101, 110, 116, 45, 76, 101, 110, 103, 116, 104]⟩ : ByteArray), (⟨#[51]⟩ : ByteArray)⟩ : S34)] : List (S34)) : List (S34))).bind fun y308 => (if y299.length + y308.length < 4398046511104 then (parallaxlaw10_FramingClauses.j2 k a1 (rd y295 (Int.tmod a0 7)) (y299 ++ y308) 1 100663296 bt284.1 bt284.2.1 bt284.2.2.1 bt284.2.2.2.1 bt284.2.2.2.2.1 bt284.2.2.2.2.2.1 bt284.2.2.2.2.2.2.1 bt284.2.2.2.2.2.2.2.1 bt284.2.2.2.2.2.2.2.2.1 bt284.2.2.2.2.2.2.2.2.2) else (none))) else (if (rd y295 (Int.tmod a0 7)) = 19 then (if y299.length < 4398046511104 then (parallaxlaw10_FramingClauses.j1 k a1 (rd y295 (Int.tmod a0 7)) (y299 ++ [(⟨(⟨#[84, 114, 97, 110, 115, 102, 101, 114, 45, 69, 110, 99, 111, 100, 105, 110, 103]⟩ : ByteArray), (⟨#[98, 114]⟩ : ByteArray)⟩ : S34)]) 1 0 bt284.1 bt284.2.1 bt284.2.2.1 bt284.2.2.2.1 bt284.2.2.2.2.1 bt284.2.2.2.2.2.1 bt284.2.2.2.2.2.2.1 bt284.2.2.2.2.2.2.2.1 bt284.2.2.2.2.2.2.2.2.1 bt284.2.2.2.2.2.2.2.2.2) else (none)) else (if (rd y295 (Int.tmod a0 7)) = 18 then (if y299.length < 4398046511104 then (parallaxlaw10_FramingClauses.j0 k a1 (rd y295 (Int.tmod a0 7)) (y299 ++ [(⟨(⟨#[84, 114, 97, 110, 115, 102, 101, 114, 45, 69, 110, 99, 111, 100, 105, 110, 103]⟩ : ByteArray), (⟨#[98, 114, 44, 32, 99, 104, 117, 110, 107, 101, 100]⟩ : ByteArray)⟩ : S34)]) 1 524288 bt284.1 bt284.2.1 bt284.2.2.1 bt284.2.2.2.1 bt284.2.2.2.2.1 bt284.2.2.2.2.2.1 bt284.2.2.2.2.2.2.1 bt284.2.2.2.2.2.2.2.1 bt284.2.2.2.2.2.2.2.2.1 bt284.2.2.2.2.2.2.2.2.2) else (none)) else (if y299.length < 4398046511104 then (parallaxlaw10_FramingClauses.j0 k a1 (rd y295 (Int.tmod a0 7)) (y299 ++ [(⟨(⟨#[84, 114, 97, 110, 115, 102, 101, 114, 45, 69, 110, 99, 111, 100, 105, 110, 103]⟩ : ByteArray), (⟨#[99, 104, 117, 110, 107, 101, 100]⟩ : ByteArray)⟩ : S34)]) 0 0 bt284.1 bt284.2.1 bt284.2.2.1 bt284.2.2.2.1 bt284.2.2.2.2.1 bt284.2.2.2.2.2.1 bt284.2.2.2.2.2.2.1 bt284.2.2.2.2.2.2.2.1 bt284.2.2.2.2.2.2.2.2.1 bt284.2.2.2.2.2.2.2.2.2) else (none))))))))) else (none)) else (none)))) else (some false))
theorem parallaxlaw10_FramingClauses.mono_l : ∀ k, (∀ y0 y1 y2 y3 y4 y5 y6 y7 y8 y9 y10 y11 y12 y13 y14, LeO (parallaxlaw10_FramingClauses.j5 k y0 y1 y2 y3 y4 y5 y6 y7 y8 y9 y10 y11 y12 y13 y14) (parallaxlaw10_FramingClauses.j5 (k + 1) y0 y1 y2 y3 y4 y5 y6 y7 y8 y9 y10 y11 y12 y13 y14)) ∧ (∀ y0 y1 y2 y3 y4 y5 y6 y7, LeO (parallaxlaw10_FramingClauses.j6 k y0 y1 y2 y3 y4 y5 y6 y7) (parallaxlaw10_FramingClauses.j6 (k + 1) y0 y1 y2 y3 y4 y5 y6 y7)) ∧ (∀ y0 y1 y2 y3 y4 y5 y6, LeO (parallaxlaw10_FramingClauses.j7 k y0 y1 y2 y3 y4 y5 y6) (parallaxlaw10_FramingClauses.j7 (k + 1) y0 y1 y2 y3 y4 y5 y6)) ∧ (∀ y0, LeO (parallaxlaw10_FramingClauses.j8 k y0) (parallaxlaw10_FramingClauses.j8 (k + 1) y0)) ∧ (∀ y0 y1 y2 y3 y4 y5, LeO (parallaxlaw10_FramingClauses.j9 k y0 y1 y2 y3 y4 y5) (parallaxlaw10_FramingClauses.j9 (k + 1) y0 y1 y2 y3 y4 y5)) ∧ (∀ y0, LeO (parallaxlaw10_FramingClauses.j10 k y0) (parallaxlaw10_FramingClauses.j10 (k + 1) y0)) ∧ (∀ y0 y1 y2 y3 y4 y5 y6 y7 y8 y9 y10 y11 y12 y13 y14, LeO (parallaxlaw10_FramingClauses.j4 k y0 y1 y2 y3 y4 y5 y6 y7 y8 y9 y10 y11 y12 y13 y14) (parallaxlaw10_FramingClauses.j4 (k + 1) y0 y1 y2 y3 y4 y5 y6 y7 y8 y9 y10 y11 y12 y13 y14)) ∧ (∀ y0 y1 y2 y3 y4 y5 y6 y7 y8 y9 y10 y11 y12 y13 y14, LeO (parallaxlaw10_FramingClauses.j3 k y0 y1 y2 y3 y4 y5 y6 y7 y8 y9 y10 y11 y12 y13 y14) (parallaxlaw10_FramingClauses.j3 (k + 1) y0 y1 y2 y3 y4 y5 y6 y7 y8 y9 y10 y11 y12 y13 y14)) ∧ (∀ y0 y1 y2 y3 y4 y5 y6 y7 y8 y9 y10 y11 y12 y13 y14, LeO (parallaxlaw10_FramingClauses.j2 k y0 y1 y2 y3 y4 y5 y6 y7 y8 y9 y10 y11 y12 y13 y14) (parallaxlaw10_FramingClauses.j2 (k + 1) y0 y1 y2 y3 y4 y5 y6 y7 y8 y9 y10 y11 y12 y13 y14)) ∧ (∀ y0 y1 y2 y3 y4 y5 y6 y7 y8 y9 y10 y11 y12 y13 y14, LeO (parallaxlaw10_FramingClauses.j1 k y0 y1 y2 y3 y4 y5 y6 y7 y8 y9 y10 y11 y12 y13 y14) (parallaxlaw10_FramingClauses.j1 (k + 1) y0 y1 y2 y3 y4 y5 y6 y7 y8 y9 y10 y11 y12 y13 y14)) ∧ (∀ y0 y1 y2 y3 y4 y5 y6 y7 y8 y9 y10 y11 y12 y13 y14, LeO (parallaxlaw10_FramingClauses.j0 k y0 y1 y2 y3 y4 y5 y6 y7 y8 y9 y10 y11 y12 y13 y14) (parallaxlaw10_FramingClauses.j0 (k + 1) y0 y1 y2 y3 y4 y5 y6 y7 y8 y9 y10 y11 y12 y13 y14))
  | 0 => ⟨fun _ _ _ _ _ _ _ _ _ _ _ _ _ _ _ r h => by simp [parallaxlaw10_FramingClauses.j5] at h, fun _ _ _ _ _ _ _ _ r h => by simp [parallaxlaw10_FramingClauses.j6] at h, fun _ _ _ _ _ _ _ r h => by simp [parallaxlaw10_FramingClauses.j7] at h, fun _ r h => by simp [parallaxlaw10_FramingClauses.j8] at h, fun _ _ _ _ _ _ r h => by simp [parallaxlaw10_FramingClauses.j9] at h, fun _ r h => by simp [parallaxlaw10_FramingClauses.j10] at h, fun _ _ _ _ _ _ _ _ _ _ _ _ _ _ _ r h => by simp [parallaxlaw10_FramingClauses.j4] at h, fun _ _ _ _ _ _ _ _ _ _ _ _ _ _ _ r h => by simp [parallaxlaw10_FramingClauses.j3] at h, fun _ _ _ _ _ _ _ _ _ _ _ _ _ _ _ r h => by simp [parallaxlaw10_FramingClauses.j2] at h, fun _ _ _ _ _ _ _ _ _ _ _ _ _ _ _ r h => by simp [parallaxlaw10_FramingClauses.j1] at h, fun _ _ _ _ _ _ _ _ _ _ _ _ _ _ _ r h => by simp [parallaxlaw10_FramingClauses.j0] at h⟩
  | k + 1 => by
    obtain ⟨ih0, ih1, ih2, ih3, ih4, ih5, ih6, ih7, ih8, ih9, ih10⟩ := parallaxlaw10_FramingClauses.mono_l k
    refine ⟨?_, ?_, ?_, ?_, ?_, ?_, ?_, ?_, ?_, ?_, ?_⟩
    · intro y0 y1 y2 y3 y4 y5 y6 y7 y8 y9 y10 y11 y12 y13 y14
      unfold parallaxlaw10_FramingClauses.j5
      repeat' first
      | (with_reducible exact ih0 _ _ _ _ _ _ _ _ _ _ _ _ _ _ _)
      | (with_reducible exact ih1 _ _ _ _ _ _ _ _)
      | (with_reducible exact ih2 _ _ _ _ _ _ _)
      | (with_reducible exact ih3 _)
      | (with_reducible exact ih4 _ _ _ _ _ _)
      | (with_reducible exact ih5 _)
      | (with_reducible exact ih6 _ _ _ _ _ _ _ _ _ _ _ _ _ _ _)
      | (with_reducible exact ih7 _ _ _ _ _ _ _ _ _ _ _ _ _ _ _)
      | (with_reducible exact ih8 _ _ _ _ _ _ _ _ _ _ _ _ _ _ _)
      | (with_reducible exact ih9 _ _ _ _ _ _ _ _ _ _ _ _ _ _ _)
      | (with_reducible exact ih10 _ _ _ _ _ _ _ _ _ _ _ _ _ _ _)
      | (with_reducible exact framing_Decide.mono _ _ _ _ _ _ _ _ _ _ _ _ _ _)
      | (with_reducible exact parallaxlaw10_known.mono _)
      | (with_reducible exact LeO.refl _)
      | (with_reducible exact LeO.none _)
      | (with_reducible refine LeO.ite ?_ ?_)
      | (with_reducible refine LeO.bind ?_ (fun _ => ?_))
      | exact ih0 _ _ _ _ _ _ _ _ _ _ _ _ _ _ _
      | exact ih1 _ _ _ _ _ _ _ _
      | exact ih2 _ _ _ _ _ _ _
      | exact ih3 _
      | exact ih4 _ _ _ _ _ _
      | exact ih5 _
      | exact ih6 _ _ _ _ _ _ _ _ _ _ _ _ _ _ _
      | exact ih7 _ _ _ _ _ _ _ _ _ _ _ _ _ _ _
      | exact ih8 _ _ _ _ _ _ _ _ _ _ _ _ _ _ _
      | exact ih9 _ _ _ _ _ _ _ _ _ _ _ _ _ _ _
      | exact ih10 _ _ _ _ _ _ _ _ _ _ _ _ _ _ _
      | exact framing_Decide.mono _ _ _ _ _ _ _ _ _ _ _ _ _ _
      | exact parallaxlaw10_known.mono _
      | exact LeO.none _
      | refine LeO.ite ?_ ?_
      | refine LeO.bind ?_ (fun _ => ?_)
    · intro y0 y1 y2 y3 y4 y5 y6 y7
      unfold parallaxlaw10_FramingClauses.j6
      repeat' first
      | (with_reducible exact ih0 _ _ _ _ _ _ _ _ _ _ _ _ _ _ _)
      | (with_reducible exact ih1 _ _ _ _ _ _ _ _)
      | (with_reducible exact ih2 _ _ _ _ _ _ _)
      | (with_reducible exact ih3 _)
      | (with_reducible exact ih4 _ _ _ _ _ _)
      | (with_reducible exact ih5 _)
      | (with_reducible exact ih6 _ _ _ _ _ _ _ _ _ _ _ _ _ _ _)
      | (with_reducible exact ih7 _ _ _ _ _ _ _ _ _ _ _ _ _ _ _)
      | (with_reducible exact ih8 _ _ _ _ _ _ _ _ _ _ _ _ _ _ _)
      | (with_reducible exact ih9 _ _ _ _ _ _ _ _ _ _ _ _ _ _ _)
      | (with_reducible exact ih10 _ _ _ _ _ _ _ _ _ _ _ _ _ _ _)
      | (with_reducible exact framing_Decide.mono _ _ _ _ _ _ _ _ _ _ _ _ _ _)
      | (with_reducible exact parallaxlaw10_known.mono _)
      | (with_reducible exact LeO.refl _)
      | (with_reducible exact LeO.none _)
      | (with_reducible refine LeO.ite ?_ ?_)
      | (with_reducible refine LeO.bind ?_ (fun _ => ?_))
      | exact ih0 _ _ _ _ _ _ _ _ _ _ _ _ _ _ _
      | exact ih1 _ _ _ _ _ _ _ _
      | exact ih2 _ _ _ _ _ _ _
      | exact ih3 _
      | exact ih4 _ _ _ _ _ _
      | exact ih5 _
      | exact ih6 _ _ _ _ _ _ _ _ _ _ _ _ _ _ _
      | exact ih7 _ _ _ _ _ _ _ _ _ _ _ _ _ _ _
      | exact ih8 _ _ _ _ _ _ _ _ _ _ _ _ _ _ _
      | exact ih9 _ _ _ _ _ _ _ _ _ _ _ _ _ _ _
      | exact ih10 _ _ _ _ _ _ _ _ _ _ _ _ _ _ _
      | exact framing_Decide.mono _ _ _ _ _ _ _ _ _ _ _ _ _ _
      | exact parallaxlaw10_known.mono _
      | exact LeO.none _
      | refine LeO.ite ?_ ?_
      | refine LeO.bind ?_ (fun _ => ?_)
    · intro y0 y1 y2 y3 y4 y5 y6
      unfold parallaxlaw10_FramingClauses.j7
      repeat' first
      | (with_reducible exact ih0 _ _ _ _ _ _ _ _ _ _ _ _ _ _ _)
      | (with_reducible exact ih1 _ _ _ _ _ _ _ _)
      | (with_reducible exact ih2 _ _ _ _ _ _ _)
      | (with_reducible exact ih3 _)
      | (with_reducible exact ih4 _ _ _ _ _ _)
      | (with_reducible exact ih5 _)
      | (with_reducible exact ih6 _ _ _ _ _ _ _ _ _ _ _ _ _ _ _)
      | (with_reducible exact ih7 _ _ _ _ _ _ _ _ _ _ _ _ _ _ _)
      | (with_reducible exact ih8 _ _ _ _ _ _ _ _ _ _ _ _ _ _ _)
      | (with_reducible exact ih9 _ _ _ _ _ _ _ _ _ _ _ _ _ _ _)
      | (with_reducible exact ih10 _ _ _ _ _ _ _ _ _ _ _ _ _ _ _)
      | (with_reducible exact framing_Decide.mono _ _ _ _ _ _ _ _ _ _ _ _ _ _)
      | (with_reducible exact parallaxlaw10_known.mono _)
      | (with_reducible exact LeO.refl _)
      | (with_reducible exact LeO.none _)
      | (with_reducible refine LeO.ite ?_ ?_)
      | (with_reducible refine LeO.bind ?_ (fun _ => ?_))
      | exact ih0 _ _ _ _ _ _ _ _ _ _ _ _ _ _ _
      | exact ih1 _ _ _ _ _ _ _ _
      | exact ih2 _ _ _ _ _ _ _
      | exact ih3 _
      | exact ih4 _ _ _ _ _ _
      | exact ih5 _
      | exact ih6 _ _ _ _ _ _ _ _ _ _ _ _ _ _ _
      | exact ih7 _ _ _ _ _ _ _ _ _ _ _ _ _ _ _
      | exact ih8 _ _ _ _ _ _ _ _ _ _ _ _ _ _ _
      | exact ih9 _ _ _ _ _ _ _ _ _ _ _ _ _ _ _
      | exact ih10 _ _ _ _ _ _ _ _ _ _ _ _ _ _ _
      | exact framing_Decide.mono _ _ _ _ _ _ _ _ _ _ _ _ _ _
      | exact parallaxlaw10_known.mono _
      | exact LeO.none _
      | refine LeO.ite ?_ ?_
      | refine LeO.bind ?_ (fun _ => ?_)
    · intro y0
      unfold parallaxlaw10_FramingClauses.j8
      repeat' first
      | (with_reducible exact ih0 _ _ _ _ _ _ _ _ _ _ _ _ _ _ _)
      | (with_reducible exact ih1 _ _ _ _ _ _ _ _)
      | (with_reducible exact ih2 _ _ _ _ _ _ _)
      | (with_reducible exact ih3 _)
      | (with_reducible exact ih4 _ _ _ _ _ _)
      | (with_reducible exact ih5 _)
      | (with_reducible exact ih6 _ _ _ _ _ _ _ _ _ _ _ _ _ _ _)
      | (with_reducible exact ih7 _ _ _ _ _ _ _ _ _ _ _ _ _ _ _)
      | (with_reducible exact ih8 _ _ _ _ _ _ _ _ _ _ _ _ _ _ _)
      | (with_reducible exact ih9 _ _ _ _ _ _ _ _ _ _ _ _ _ _ _)
      | (with_reducible exact ih10 _ _ _ _ _ _ _ _ _ _ _ _ _ _ _)
      | (with_reducible exact framing_Decide.mono _ _ _ _ _ _ _ _ _ _ _ _ _ _)
      | (with_reducible exact parallaxlaw10_known.mono _)
      | (with_reducible exact LeO.refl _)
      | (with_reducible exact LeO.none _)
      | (with_reducible refine LeO.ite ?_ ?_)
      | (with_reducible refine LeO.bind ?_ (fun _ => ?_))
      | exact ih0 _ _ _ _ _ _ _ _ _ _ _ _ _ _ _
      | exact ih1 _ _ _ _ _ _ _ _
      | exact ih2 _ _ _ _ _ _ _
      | exact ih3 _
      | exact ih4 _ _ _ _ _ _
      | exact ih5 _
      | exact ih6 _ _ _ _ _ _ _ _ _ _ _ _ _ _ _
      | exact ih7 _ _ _ _ _ _ _ _ _ _ _ _ _ _ _
      | exact ih8 _ _ _ _ _ _ _ _ _ _ _ _ _ _ _
      | exact ih9 _ _ _ _ _ _ _ _ _ _ _ _ _ _ _
      | exact ih10 _ _ _ _ _ _ _ _ _ _ _ _ _ _ _
      | exact framing_Decide.mono _ _ _ _ _ _ _ _ _ _ _ _ _ _
      | exact parallaxlaw10_known.mono _
      | exact LeO.none _
      | refine LeO.ite ?_ ?_
      | refine LeO.bind ?_ (fun _ => ?_)
    · intro y0 y1 y2 y3 y4 y5
      unfold parallaxlaw10_FramingClauses.j9
      repeat' first
      | (with_reducible exact ih0 _ _ _ _ _ _ _ _ _ _ _ _ _ _ _)
      | (with_reducible exact ih1 _ _ _ _ _ _ _ _)
      | (with_reducible exact ih2 _ _ _ _ _ _ _)
      | (with_reducible exact ih3 _)
      | (with_reducible exact ih4 _ _ _ _ _ _)
      | (with_reducible exact ih5 _)
      | (with_reducible exact ih6 _ _ _ _ _ _ _ _ _ _ _ _ _ _ _)
      | (with_reducible exact ih7 _ _ _ _ _ _ _ _ _ _ _ _ _ _ _)
      | (with_reducible exact ih8 _ _ _ _ _ _ _ _ _ _ _ _ _ _ _)
      | (with_reducible exact ih9 _ _ _ _ _ _ _ _ _ _ _ _ _ _ _)
      | (with_reducible exact ih10 _ _ _ _ _ _ _ _ _ _ _ _ _ _ _)
      | (with_reducible exact framing_Decide.mono _ _ _ _ _ _ _ _ _ _ _ _ _ _)
      | (with_reducible exact parallaxlaw10_known.mono _)
      | (with_reducible exact LeO.refl _)
      | (with_reducible exact LeO.none _)
      | (with_reducible refine LeO.ite ?_ ?_)
      | (with_reducible refine LeO.bind ?_ (fun _ => ?_))
      | exact ih0 _ _ _ _ _ _ _ _ _ _ _ _ _ _ _
      | exact ih1 _ _ _ _ _ _ _ _
      | exact ih2 _ _ _ _ _ _ _
      | exact ih3 _
      | exact ih4 _ _ _ _ _ _
      | exact ih5 _
      | exact ih6 _ _ _ _ _ _ _ _ _ _ _ _ _ _ _
      | exact ih7 _ _ _ _ _ _ _ _ _ _ _ _ _ _ _
      | exact ih8 _ _ _ _ _ _ _ _ _ _ _ _ _ _ _
      | exact ih9 _ _ _ _ _ _ _ _ _ _ _ _ _ _ _
      | exact ih10 _ _ _ _ _ _ _ _ _ _ _ _ _ _ _
      | exact framing_Decide.mono _ _ _ _ _ _ _ _ _ _ _ _ _ _
      | exact parallaxlaw10_known.mono _
      | exact LeO.none _
      | refine LeO.ite ?_ ?_
      | refine LeO.bind ?_ (fun _ => ?_)
    · intro y0
      unfold parallaxlaw10_FramingClauses.j10
      repeat' first
      | (with_reducible exact ih0 _ _ _ _ _ _ _ _ _ _ _ _ _ _ _)
      | (with_reducible exact ih1 _ _ _ _ _ _ _ _)
      | (with_reducible exact ih2 _ _ _ _ _ _ _)
      | (with_reducible exact ih3 _)
      | (with_reducible exact ih4 _ _ _ _ _ _)
      | (with_reducible exact ih5 _)
      | (with_reducible exact ih6 _ _ _ _ _ _ _ _ _ _ _ _ _ _ _)
      | (with_reducible exact ih7 _ _ _ _ _ _ _ _ _ _ _ _ _ _ _)
      | (with_reducible exact ih8 _ _ _ _ _ _ _ _ _ _ _ _ _ _ _)
      | (with_reducible exact ih9 _ _ _ _ _ _ _ _ _ _ _ _ _ _ _)
      | (with_reducible exact ih10 _ _ _ _ _ _ _ _ _ _ _ _ _ _ _)
      | (with_reducible exact framing_Decide.mono _ _ _ _ _ _ _ _ _ _ _ _ _ _)
      | (with_reducible exact parallaxlaw10_known.mono _)
      | (with_reducible exact LeO.refl _)
      | (with_reducible exact LeO.none _)
      | (with_reducible refine LeO.ite ?_ ?_)
      | (with_reducible refine LeO.bind ?_ (fun _ => ?_))
      | exact ih0 _ _ _ _ _ _ _ _ _ _ _ _ _ _ _
      | exact ih1 _ _ _ _ _ _ _ _
      | exact ih2 _ _ _ _ _ _ _
      | exact ih3 _
      | exact ih4 _ _ _ _ _ _
      | exact ih5 _
      | exact ih6 _ _ _ _ _ _ _ _ _ _ _ _ _ _ _
      | exact ih7 _ _ _ _ _ _ _ _ _ _ _ _ _ _ _
      | exact ih8 _ _ _ _ _ _ _ _ _ _ _ _ _ _ _
      | exact ih9 _ _ _ _ _ _ _ _ _ _ _ _ _ _ _
      | exact ih10 _ _ _ _ _ _ _ _ _ _ _ _ _ _ _
      | exact framing_Decide.mono _ _ _ _ _ _ _ _ _ _ _ _ _ _
      | exact parallaxlaw10_known.mono _
      | exact LeO.none _
      | refine LeO.ite ?_ ?_
      | refine LeO.bind ?_ (fun _ => ?_)
    · intro y0 y1 y2 y3 y4 y5 y6 y7 y8 y9 y10 y11 y12 y13 y14
      unfold parallaxlaw10_FramingClauses.j4
      repeat' first
      | (with_reducible exact ih0 _ _ _ _ _ _ _ _ _ _ _ _ _ _ _)
      | (with_reducible exact ih1 _ _ _ _ _ _ _ _)
      | (with_reducible exact ih2 _ _ _ _ _ _ _)
      | (with_reducible exact ih3 _)
      | (with_reducible exact ih4 _ _ _ _ _ _)
      | (with_reducible exact ih5 _)
      | (with_reducible exact ih6 _ _ _ _ _ _ _ _ _ _ _ _ _ _ _)
      | (with_reducible exact ih7 _ _ _ _ _ _ _ _ _ _ _ _ _ _ _)
      | (with_reducible exact ih8 _ _ _ _ _ _ _ _ _ _ _ _ _ _ _)
      | (with_reducible exact ih9 _ _ _ _ _ _ _ _ _ _ _ _ _ _ _)
      | (with_reducible exact ih10 _ _ _ _ _ _ _ _ _ _ _ _ _ _ _)
      | (with_reducible exact framing_Decide.mono _ _ _ _ _ _ _ _ _ _ _ _ _ _)
      | (with_reducible exact parallaxlaw10_known.mono _)
      | (with_reducible exact LeO.refl _)
      | (with_reducible exact LeO.none _)
      | (with_reducible refine LeO.ite ?_ ?_)
      | (with_reducible refine LeO.bind ?_ (fun _ => ?_))
      | exact ih0 _ _ _ _ _ _ _ _ _ _ _ _ _ _ _
      | exact ih1 _ _ _ _ _ _ _ _
      | exact ih2 _ _ _ _ _ _ _
      | exact ih3 _
      | exact ih4 _ _ _ _ _ _
      | exact ih5 _
      | exact ih6 _ _ _ _ _ _ _ _ _ _ _ _ _ _ _
      | exact ih7 _ _ _ _ _ _ _ _ _ _ _ _ _ _ _
      | exact ih8 _ _ _ _ _ _ _ _ _ _ _ _ _ _ _
      | exact ih9 _ _ _ _ _ _ _ _ _ _ _ _ _ _ _
      | exact ih10 _ _ _ _ _ _ _ _ _ _ _ _ _ _ _
      | exact framing_Decide.mono _ _ _ _ _ _ _ _ _ _ _ _ _ _
      | exact parallaxlaw10_known.mono _
      | exact LeO.none _
      | refine LeO.ite ?_ ?_
      | refine LeO.bind ?_ (fun _ => ?_)
    · intro y0 y1 y2 y3 y4 y5 y6 y7 y8 y9 y10 y11 y12 y13 y14
      unfold parallaxlaw10_FramingClauses.j3
      repeat' first
      | (with_reducible exact ih0 _ _ _ _ _ _ _ _ _ _ _ _ _ _ _)
      | (with_reducible exact ih1 _ _ _ _ _ _ _ _)
      | (with_reducible exact ih2 _ _ _ _ _ _ _)
      | (with_reducible exact ih3 _)
      | (with_reducible exact ih4 _ _ _ _ _ _)
      | (with_reducible exact ih5 _)
      | (with_reducible exact ih6 _ _ _ _ _ _ _ _ _ _ _ _ _ _ _)
      | (with_reducible exact ih7 _ _ _ _ _ _ _ _ _ _ _ _ _ _ _)
      | (with_reducible exact ih8 _ _ _ _ _ _ _ _ _ _ _ _ _ _ _)
      | (with_reducible exact ih9 _ _ _ _ _ _ _ _ _ _ _ _ _ _ _)
      | (with_reducible exact ih10 _ _ _ _ _ _ _ _ _ _ _ _ _ _ _)
      | (with_reducible exact framing_Decide.mono _ _ _ _ _ _ _ _ _ _ _ _ _ _)
      | (with_reducible exact parallaxlaw10_known.mono _)
      | (with_reducible exact LeO.refl _)
      | (with_reducible exact LeO.none _)
      | (with_reducible refine LeO.ite ?_ ?_)
      | (with_reducible refine LeO.bind ?_ (fun _ => ?_))
      | exact ih0 _ _ _ _ _ _ _ _ _ _ _ _ _ _ _
      | exact ih1 _ _ _ _ _ _ _ _
      | exact ih2 _ _ _ _ _ _ _
      | exact ih3 _
      | exact ih4 _ _ _ _ _ _
      | exact ih5 _
      | exact ih6 _ _ _ _ _ _ _ _ _ _ _ _ _ _ _
      | exact ih7 _ _ _ _ _ _ _ _ _ _ _ _ _ _ _
      | exact ih8 _ _ _ _ _ _ _ _ _ _ _ _ _ _ _
      | exact ih9 _ _ _ _ _ _ _ _ _ _ _ _ _ _ _
      | exact ih10 _ _ _ _ _ _ _ _ _ _ _ _ _ _ _
      | exact framing_Decide.mono _ _ _ _ _ _ _ _ _ _ _ _ _ _
      | exact parallaxlaw10_known.mono _
      | exact LeO.none _
      | refine LeO.ite ?_ ?_
      | refine LeO.bind ?_ (fun _ => ?_)
    · intro y0 y1 y2 y3 y4 y5 y6 y7 y8 y9 y10 y11 y12 y13 y14
      unfold parallaxlaw10_FramingClauses.j2
      repeat' first
      | (with_reducible exact ih0 _ _ _ _ _ _ _ _ _ _ _ _ _ _ _)
      | (with_reducible exact ih1 _ _ _ _ _ _ _ _)
      | (with_reducible exact ih2 _ _ _ _ _ _ _)
      | (with_reducible exact ih3 _)
      | (with_reducible exact ih4 _ _ _ _ _ _)
      | (with_reducible exact ih5 _)
      | (with_reducible exact ih6 _ _ _ _ _ _ _ _ _ _ _ _ _ _ _)
      | (with_reducible exact ih7 _ _ _ _ _ _ _ _ _ _ _ _ _ _ _)
      | (with_reducible exact ih8 _ _ _ _ _ _ _ _ _ _ _ _ _ _ _)
      | (with_reducible exact ih9 _ _ _ _ _ _ _ _ _ _ _ _ _ _ _)
      | (with_reducible exact ih10 _ _ _ _ _ _ _ _ _ _ _ _ _ _ _)
      | (with_reducible exact framing_Decide.mono _ _ _ _ _ _ _ _ _ _ _ _ _ _)
      | (with_reducible exact parallaxlaw10_known.mono _)
      | (with_reducible exact LeO.refl _)
      | (with_reducible exact LeO.none _)
      | (with_reducible refine LeO.ite ?_ ?_)
      | (with_reducible refine LeO.bind ?_ (fun _ => ?_))
      | exact ih0 _ _ _ _ _ _ _ _ _ _ _ _ _ _ _
      | exact ih1 _ _ _ _ _ _ _ _
      | exact ih2 _ _ _ _ _ _ _
      | exact ih3 _
      | exact ih4 _ _ _ _ _ _
      | exact ih5 _
      | exact ih6 _ _ _ _ _ _ _ _ _ _ _ _ _ _ _
      | exact ih7 _ _ _ _ _ _ _ _ _ _ _ _ _ _ _
      | exact ih8 _ _ _ _ _ _ _ _ _ _ _ _ _ _ _
      | exact ih9 _ _ _ _ _ _ _ _ _ _ _ _ _ _ _
      | exact ih10 _ _ _ _ _ _ _ _ _ _ _ _ _ _ _
      | exact framing_Decide.mono _ _ _ _ _ _ _ _ _ _ _ _ _ _
      | exact parallaxlaw10_known.mono _
      | exact LeO.none _
      | refine LeO.ite ?_ ?_
      | refine LeO.bind ?_ (fun _ => ?_)
    · intro y0 y1 y2 y3 y4 y5 y6 y7 y8 y9 y10 y11 y12 y13 y14
      unfold parallaxlaw10_FramingClauses.j1
      repeat' first
      | (with_reducible exact ih0 _ _ _ _ _ _ _ _ _ _ _ _ _ _ _)
      | (with_reducible exact ih1 _ _ _ _ _ _ _ _)
      | (with_reducible exact ih2 _ _ _ _ _ _ _)
      | (with_reducible exact ih3 _)
      | (with_reducible exact ih4 _ _ _ _ _ _)
      | (with_reducible exact ih5 _)
      | (with_reducible exact ih6 _ _ _ _ _ _ _ _ _ _ _ _ _ _ _)
      | (with_reducible exact ih7 _ _ _ _ _ _ _ _ _ _ _ _ _ _ _)
      | (with_reducible exact ih8 _ _ _ _ _ _ _ _ _ _ _ _ _ _ _)
      | (with_reducible exact ih9 _ _ _ _ _ _ _ _ _ _ _ _ _ _ _)
      | (with_reducible exact ih10 _ _ _ _ _ _ _ _ _ _ _ _ _ _ _)
      | (with_reducible exact framing_Decide.mono _ _ _ _ _ _ _ _ _ _ _ _ _ _)
      | (with_reducible exact parallaxlaw10_known.mono _)
      | (with_reducible exact LeO.refl _)
      | (with_reducible exact LeO.none _)
      | (with_reducible refine LeO.ite ?_ ?_)
      | (with_reducible refine LeO.bind ?_ (fun _ => ?_))
      | exact ih0 _ _ _ _ _ _ _ _ _ _ _ _ _ _ _
      | exact ih1 _ _ _ _ _ _ _ _
      | exact ih2 _ _ _ _ _ _ _
      | exact ih3 _
      | exact ih4 _ _ _ _ _ _
      | exact ih5 _
      | exact ih6 _ _ _ _ _ _ _ _ _ _ _ _ _ _ _
      | exact ih7 _ _ _ _ _ _ _ _ _ _ _ _ _ _ _
      | exact ih8 _ _ _ _ _ _ _ _ _ _ _ _ _ _ _
      | exact ih9 _ _ _ _ _ _ _ _ _ _ _ _ _ _ _
      | exact ih10 _ _ _ _ _ _ _ _ _ _ _ _ _ _ _
      | exact framing_Decide.mono _ _ _ _ _ _ _ _ _ _ _ _ _ _
      | exact parallaxlaw10_known.mono _
      | exact LeO.none _
      | refine LeO.ite ?_ ?_
      | refine LeO.bind ?_ (fun _ => ?_)
    · intro y0 y1 y2 y3 y4 y5 y6 y7 y8 y9 y10 y11 y12 y13 y14
      unfold parallaxlaw10_FramingClauses.j0
      repeat' first
      | (with_reducible exact ih0 _ _ _ _ _ _ _ _ _ _ _ _ _ _ _)
      | (with_reducible exact ih1 _ _ _ _ _ _ _ _)
      | (with_reducible exact ih2 _ _ _ _ _ _ _)
      | (with_reducible exact ih3 _)
      | (with_reducible exact ih4 _ _ _ _ _ _)
      | (with_reducible exact ih5 _)
      | (with_reducible exact ih6 _ _ _ _ _ _ _ _ _ _ _ _ _ _ _)
      | (with_reducible exact ih7 _ _ _ _ _ _ _ _ _ _ _ _ _ _ _)
      | (with_reducible exact ih8 _ _ _ _ _ _ _ _ _ _ _ _ _ _ _)
      | (with_reducible exact ih9 _ _ _ _ _ _ _ _ _ _ _ _ _ _ _)
      | (with_reducible exact ih10 _ _ _ _ _ _ _ _ _ _ _ _ _ _ _)
      | (with_reducible exact framing_Decide.mono _ _ _ _ _ _ _ _ _ _ _ _ _ _)
      | (with_reducible exact parallaxlaw10_known.mono _)
      | (with_reducible exact LeO.refl _)
      | (with_reducible exact LeO.none _)
      | (with_reducible refine LeO.ite ?_ ?_)
      | (with_reducible refine LeO.bind ?_ (fun _ => ?_))
      | exact ih0 _ _ _ _ _ _ _ _ _ _ _ _ _ _ _
      | exact ih1 _ _ _ _ _ _ _ _
      | exact ih2 _ _ _ _ _ _ _
      | exact ih3 _
      | exact ih4 _ _ _ _ _ _
      | exact ih5 _
      | exact ih6 _ _ _ _ _ _ _ _ _ _ _ _ _ _ _
      | exact ih7 _ _ _ _ _ _ _ _ _ _ _ _ _ _ _
      | exact ih8 _ _ _ _ _ _ _ _ _ _ _ _ _ _ _
      | exact ih9 _ _ _ _ _ _ _ _ _ _ _ _ _ _ _
      | exact ih10 _ _ _ _ _ _ _ _ _ _ _ _ _ _ _
      | exact framing_Decide.mono _ _ _ _ _ _ _ _ _ _ _ _ _ _
      | exact parallaxlaw10_known.mono _
      | exact LeO.none _
      | refine LeO.ite ?_ ?_
      | refine LeO.bind ?_ (fun _ => ?_)
theorem parallaxlaw10_FramingClauses.mono : ∀ a0 a1 k, LeO (parallaxlaw10_FramingClauses.f k a0 a1) (parallaxlaw10_FramingClauses.f (k + 1) a0 a1) := by
  intro a0 a1 k
  obtain ⟨ih0, ih1, ih2, ih3, ih4, ih5, ih6, ih7, ih8, ih9, ih10⟩ := parallaxlaw10_FramingClauses.mono_l k
  unfold parallaxlaw10_FramingClauses.f
  repeat' first
      | (with_reducible exact ih0 _ _ _ _ _ _ _ _ _ _ _ _ _ _ _)
      | (with_reducible exact ih1 _ _ _ _ _ _ _ _)
      | (with_reducible exact ih2 _ _ _ _ _ _ _)
      | (with_reducible exact ih3 _)
      | (with_reducible exact ih4 _ _ _ _ _ _)
      | (with_reducible exact ih5 _)
      | (with_reducible exact ih6 _ _ _ _ _ _ _ _ _ _ _ _ _ _ _)
      | (with_reducible exact ih7 _ _ _ _ _ _ _ _ _ _ _ _ _ _ _)
      | (with_reducible exact ih8 _ _ _ _ _ _ _ _ _ _ _ _ _ _ _)
      | (with_reducible exact ih9 _ _ _ _ _ _ _ _ _ _ _ _ _ _ _)
      | (with_reducible exact ih10 _ _ _ _ _ _ _ _ _ _ _ _ _ _ _)
      | (with_reducible exact framing_Decide.mono _ _ _ _ _ _ _ _ _ _ _ _ _ _)
      | (with_reducible exact parallaxlaw10_known.mono _)
      | (with_reducible exact LeO.refl _)
      | (with_reducible exact LeO.none _)
      | (with_reducible refine LeO.ite ?_ ?_)
      | (with_reducible refine LeO.bind ?_ (fun _ => ?_))
      | exact ih0 _ _ _ _ _ _ _ _ _ _ _ _ _ _ _
      | exact ih1 _ _ _ _ _ _ _ _
      | exact ih2 _ _ _ _ _ _ _
      | exact ih3 _
      | exact ih4 _ _ _ _ _ _
      | exact ih5 _
      | exact ih6 _ _ _ _ _ _ _ _ _ _ _ _ _ _ _
      | exact ih7 _ _ _ _ _ _ _ _ _ _ _ _ _ _ _
      | exact ih8 _ _ _ _ _ _ _ _ _ _ _ _ _ _ _
      | exact ih9 _ _ _ _ _ _ _ _ _ _ _ _ _ _ _
      | exact ih10 _ _ _ _ _ _ _ _ _ _ _ _ _ _ _
      | exact framing_Decide.mono _ _ _ _ _ _ _ _ _ _ _ _ _ _
      | exact parallaxlaw10_known.mono _
      | exact LeO.none _
      | refine LeO.ite ?_ ?_
      | refine LeO.bind ?_ (fun _ => ?_)
def parallaxlaw10_FramingClauses.T27 : Bool × List (List Nat × List Nat) := (true, [([], []), ([], []), ([1], [1]), ([0, 2], [0, 2]), ([], []), ([], []), ([], []), ([3, 4, 5, 6], [3, 4, 5, 6]), ([7], [7]), ([8], [8]), ([8], [8]), ([], []), ([11, 9, 7, 0, 1, 2, 3, 4, 5, 6, 7, 8, 9, 11], [9, 11]), ([10, 12, 0, 1, 2, 3, 4, 5, 6, 7, 8, 9, 10, 11, 12], [10])])
def parallaxlaw10_FramingClauses.B27 : List Nat := [0, 0, 2, 7, 0, 0, 0, 127, 255, 511, 511, 0, 3071, 8191]
theorem parallaxlaw10_FramingClauses.tab27 : rtab .any (opsOf Tryd.f5 27) = parallaxlaw10_FramingClauses.T27 := by kernel_rfl
theorem parallaxlaw10_FramingClauses.bits27 : waitsOk parallaxlaw10_FramingClauses.T27.2 parallaxlaw10_FramingClauses.B27 = true := by kernel_rfl
/-- the last statement of a block -/
theorem in_block_ {P : Program} {s : Code} {id : Nat} {K : Act → World → Prop} {Q : Exit → Act → World → Prop} {a : Act} {w : World} (h : s.wp P (Exit.then K (Exit.inBlock id (Exit.then K Q))) a w) : s.wp P (Exit.inBlock id (Exit.then K Q)) a w :=
  wp_mono h (fun e _ _ hq => by cases e <;> exact hq)
set_option maxHeartbeats 8000000 in
set_option maxRecDepth 100000 in
theorem parallaxlaw10_FramingClauses.calls (k : Nat) (a0 : Int) (a1 : Int) (r : Bool) (w : World) (hq0 : (Lit.int .u8 a0).wf = true) (hq1 : (Lit.int .u32 a1).wf = true) (hT : r = true) (h : parallaxlaw10_FramingClauses.f k a0 a1 = some r) :
    Calls Tryd.prog 5 #[.int .u8 a0, .int .u32 a1] w fun e w' => e = .returned (.bool r) ∧ Below w.heap.size w w' := by
  have hu30 := Tryd.underlying30
  have hu34 := Tryd.underlying34
  have hu40 := Tryd.underlying40
  have HQ0 := Aside0.mk hq0
  clear hq0
  have HQ1 := Aside0.mk hq1
  clear hq1
  have HT := Aside0.mk hT
  clear hT
  have HB := Aside0.mk (Below.refl w.heap.size w)
  have H : ((parallaxlaw10_known.f k).bind fun t283 => (if t283 = true then ((parallaxref4_Usual.f).bind fun bt284 => ((some (([15, 16, 23, 24, 19, 18, 20] : List Int) : List Int)).bind fun y295 => (if 0 ≤ (Int.tmod a0 7) then (if (Int.tmod a0 7) < (y295.length : Int) then ((some (([(⟨(⟨#[72, 111, 115, 116]⟩ : ByteArray), (⟨#[97]⟩ : ByteArray)⟩ : S34)] : List (S34)) : List (S34))).bind fun y299 => (if (rd y295 (Int.tmod a0 7)) = 15 then (parallaxlaw10_FramingClauses.j5 k a1 (rd y295 (Int.tmod a0 7)) ([] : List (S34)) 1 0 bt284.1 bt284.2.1 bt284.2.2.1 bt284.2.2.2.1 bt284.2.2.2.2.1 bt284.2.2.2.2.2.1 bt284.2.2.2.2.2.2.1 bt284.2.2.2.2.2.2.2.1 bt284.2.2.2.2.2.2.2.2.1 bt284.2.2.2.2.2.2.2.2.2) else (if (rd y295 (Int.tmod a0 7)) = 16 then (if y299.length < 4398046511104 then (parallaxlaw10_FramingClauses.j4 k a1 (rd y295 (Int.tmod a0 7)) (y299 ++ [(⟨(⟨#[104, 111, 115, 116]⟩ : ByteArray), (⟨#[98]⟩ : ByteArray)⟩ : S34)]) 1 0 bt284.1 bt284.2.1 bt284.2.2.1 bt284.2.2.2.1 bt284.2.2.2.2.1 bt284.2.2.2.2.2.1 bt284.2.2.2.2.2.2.1 bt284.2.2.2.2.2.2.2.1 bt284.2.2.2.2.2.2.2.2.1 bt284.2.2.2.2.2.2.2.2.2) else (none)) else (if (rd y295 (Int.tmod a0 7)) = 23 then (if y299.length < 4398046511104 then (parallaxlaw10_FramingClauses.j3 k a1 (rd y295 (Int.tmod a0 7)) (y299 ++ [(⟨(⟨#[67, 111, 110, 116, 101, 110, 116, 45, 76, 101, 110, 103, 116, 104]⟩ : ByteArray), (⟨#[43, 51]⟩ : ByteArray)⟩ : S34)]) 1 0 bt284.1 bt284.2.1 bt284.2.2.1 bt284.2.2.2.1 bt284.2.2.2.2.1 bt284.2.2.2.2.2.1 bt284.2.2.2.2.2.2.1 bt284.2.2.2.2.2.2.2.1 bt284.2.2.2.2.2.2.2.2.1 bt284.2.2.2.2.2.2.2.2.2) else (none)) else (if (rd y295 (Int.tmod a0 7)) = 24 then ((some (([(⟨(⟨#[67, 111, 110, 116, 101, 110, 116, 45, 76, 101, 110, 103, 116, 104]⟩ : ByteArray), (⟨#[51]⟩ : ByteArray)⟩ : S34), (⟨(⟨#[67, 111, 110, 116, 101, 110, 116, 45, 76, 101, 110, 103, 116, 104]⟩ : ByteArray), (⟨#[51]⟩ : ByteArray)⟩ : S34)] : List (S34)) : List (S34))).bind fun y308 => (if y299.length + y308.length < 4398046511104 then (parallaxlaw10_FramingClauses.j2 k a1 (rd y295 (Int.tmod a0 7)) (y299 ++ y308) 1 100663296 bt284.1 bt284.2.1 bt284.2.2.1 bt284.2.2.2.1 bt284.2.2.2.2.1 bt284.2.2.2.2.2.1 bt284.2.2.2.2.2.2.1 bt284.2.2.2.2.2.2.2.1 bt284.2.2.2.2.2.2.2.2.1 bt284.2.2.2.2.2.2.2.2.2) else (none))) else (if (rd y295 (Int.tmod a0 7)) = 19 then (if y299.length < 4398046511104 then (parallaxlaw10_FramingClauses.j1 k a1 (rd y295 (Int.tmod a0 7)) (y299 ++ [(⟨(⟨#[84, 114, 97, 110, 115, 102, 101, 114, 45, 69, 110, 99, 111, 100, 105, 110, 103]⟩ : ByteArray), (⟨#[98, 114]⟩ : ByteArray)⟩ : S34)]) 1 0 bt284.1 bt284.2.1 bt284.2.2.1 bt284.2.2.2.1 bt284.2.2.2.2.1 bt284.2.2.2.2.2.1 bt284.2.2.2.2.2.2.1 bt284.2.2.2.2.2.2.2.1 bt284.2.2.2.2.2.2.2.2.1 bt284.2.2.2.2.2.2.2.2.2) else (none)) else (if (rd y295 (Int.tmod a0 7)) = 18 then (if y299.length < 4398046511104 then (parallaxlaw10_FramingClauses.j0 k a1 (rd y295 (Int.tmod a0 7)) (y299 ++ [(⟨(⟨#[84, 114, 97, 110, 115, 102, 101, 114, 45, 69, 110, 99, 111, 100, 105, 110, 103]⟩ : ByteArray), (⟨#[98, 114, 44, 32, 99, 104, 117, 110, 107, 101, 100]⟩ : ByteArray)⟩ : S34)]) 1 524288 bt284.1 bt284.2.1 bt284.2.2.1 bt284.2.2.2.1 bt284.2.2.2.2.1 bt284.2.2.2.2.2.1 bt284.2.2.2.2.2.2.1 bt284.2.2.2.2.2.2.2.1 bt284.2.2.2.2.2.2.2.2.1 bt284.2.2.2.2.2.2.2.2.2) else (none)) else (if y299.length < 4398046511104 then (parallaxlaw10_FramingClauses.j0 k a1 (rd y295 (Int.tmod a0 7)) (y299 ++ [(⟨(⟨#[84, 114, 97, 110, 115, 102, 101, 114, 45, 69, 110, 99, 111, 100, 105, 110, 103]⟩ : ByteArray), (⟨#[99, 104, 117, 110, 107, 101, 100]⟩ : ByteArray)⟩ : S34)]) 0 0 bt284.1 bt284.2.1 bt284.2.2.1 bt284.2.2.2.1 bt284.2.2.2.2.1 bt284.2.2.2.2.2.1 bt284.2.2.2.2.2.2.1 bt284.2.2.2.2.2.2.2.1 bt284.2.2.2.2.2.2.2.2.1 bt284.2.2.2.2.2.2.2.2.2) else (none))))))))) else (none)) else (none)))) else (some false))) = some r := h
  clear h
  replace H := Option.bind_eq_some_iff.mp H
  obtain ⟨t283, A30, H⟩ := H
  (try dsimp only at H)
  have A3 := Aside0.mk A30
  clear A30
  by_cases c4 : t283 = true
  · subst c4
    rw [if_pos rfl] at H
    replace H := Option.bind_eq_some_iff.mp H
    obtain ⟨⟨t284, t285, t286, t287, t288, t289, t290, t291, t292, t293⟩, A50, H⟩ := H
    (try dsimp only at H)
    have A5 := Aside0.mk A50
    clear A50
    obtain ⟨y295, hy295⟩ : ∃ y_ : List Int, y_ = (([15, 16, 23, 24, 19, 18, 20] : List Int)) := ⟨_, rfl⟩
    replace H : (if 0 ≤ (Int.tmod a0 7) then (if (Int.tmod a0 7) < (y295.length : Int) then ((some (([(⟨(⟨#[72, 111, 115, 116]⟩ : ByteArray), (⟨#[97]⟩ : ByteArray)⟩ : S34)] : List (S34)) : List (S34))).bind fun y299 => (if (rd y295 (Int.tmod a0 7)) = 15 then (parallaxlaw10_FramingClauses.j5 k a1 (rd y295 (Int.tmod a0 7)) ([] : List (S34)) 1 0 t284 t285 t286 t287 t288 t289 t290 t291 t292 t293) else (if (rd y295 (Int.tmod a0 7)) = 16 then (if y299.length < 4398046511104 then (parallaxlaw10_FramingClauses.j4 k a1 (rd y295 (Int.tmod a0 7)) (y299 ++ [(⟨(⟨#[104, 111, 115, 116]⟩ : ByteArray), (⟨#[98]⟩ : ByteArray)⟩ : S34)]) 1 0 t284 t285 t286 t287 t288 t289 t290 t291 t292 t293) else (none)) else (if (rd y295 (Int.tmod a0 7)) = 23 then (if y299.length < 4398046511104 then (parallaxlaw10_FramingClauses.j3 k a1 (rd y295 (Int.tmod a0 7)) (y299 ++ [(⟨(⟨#[67, 111, 110, 116, 101, 110, 116, 45, 76, 101, 110, 103, 116, 104]⟩ : ByteArray), (⟨#[43, 51]⟩ : ByteArray)⟩ : S34)]) 1 0 t284 t285 t286 t287 t288 t289 t290 t291 t292 t293) else (none)) else (if (rd y295 (Int.tmod a0 7)) = 24 then ((some (([(⟨(⟨#[67, 111, 110, 116, 101, 110, 116, 45, 76, 101, 110, 103, 116, 104]⟩ : ByteArray), (⟨#[51]⟩ : ByteArray)⟩ : S34), (⟨(⟨#[67, 111, 110, 116, 101, 110, 116, 45, 76, 101, 110, 103, 116, 104]⟩ : ByteArray), (⟨#[51]⟩ : ByteArray)⟩ : S34)] : List (S34)) : List (S34))).bind fun y308 => (if y299.length + y308.length < 4398046511104 then (parallaxlaw10_FramingClauses.j2 k a1 (rd y295 (Int.tmod a0 7)) (y299 ++ y308) 1 100663296 t284 t285 t286 t287 t288 t289 t290 t291 t292 t293) else (none))) else (if (rd y295 (Int.tmod a0 7)) = 19 then (if y299.length < 4398046511104 then (parallaxlaw10_FramingClauses.j1 k a1 (rd y295 (Int.tmod a0 7)) (y299 ++ [(⟨(⟨#[84, 114, 97, 110, 115, 102, 101, 114, 45, 69, 110, 99, 111, 100, 105, 110, 103]⟩ : ByteArray), (⟨#[98, 114]⟩ : ByteArray)⟩ : S34)]) 1 0 t284 t285 t286 t287 t288 t289 t290 t291 t292 t293) else (none)) else (if (rd y295 (Int.tmod a0 7)) = 18 then (if y299.length < 4398046511104 then (parallaxlaw10_FramingClauses.j0 k a1 (rd y295 (Int.tmod a0 7)) (y299 ++ [(⟨(⟨#[84, 114, 97, 110, 115, 102, 101, 114, 45, 69, 110, 99, 111, 100, 105, 110, 103]⟩ : ByteArray), (⟨#[98, 114, 44, 32, 99, 104, 117, 110, 107, 101, 100]⟩ : ByteArray)⟩ : S34)]) 1 524288 t284 t285 t286 t287 t288 t289 t290 t291 t292 t293) else (none)) else (if y299.length < 4398046511104 then (parallaxlaw10_FramingClauses.j0 k a1 (rd y295 (Int.tmod a0 7)) (y299 ++ [(⟨(⟨#[84, 114, 97, 110, 115, 102, 101, 114, 45, 69, 110, 99, 111, 100, 105, 110, 103]⟩ : ByteArray), (⟨#[99, 104, 117, 110, 107, 101, 100]⟩ : ByteArray)⟩ : S34)]) 0 0 t284 t285 t286 t287 t288 t289 t290 t291 t292 t293) else (none))))))))) else (none)) else (none)) = some r := by first | (rw [hy295]; with_reducible exact H) | (have H2_ := (Option.bind_some _ _).symm.trans H; rw [hy295]; with_reducible exact H2_) | (have H2_ := (Option.bind_some _ _).symm.trans H; with_reducible exact H2_) | with_reducible exact H | (rw [hy295]; exact H) | exact H
    have Ny295 := Aside0.mk hy295
    clear hy295
    obtain ⟨ji6, hji6⟩ : ∃ j_ : Int, (Int.tmod a0 7) = j_ := ⟨_, rfl⟩
    replace H : (if 0 ≤ (ji6) then (if (ji6) < (y295.length : Int) then ((some (([(⟨(⟨#[72, 111, 115, 116]⟩ : ByteArray), (⟨#[97]⟩ : ByteArray)⟩ : S34)] : List (S34)) : List (S34))).bind fun y299 => (if (rd y295 (ji6)) = 15 then (parallaxlaw10_FramingClauses.j5 k a1 (rd y295 (ji6)) ([] : List (S34)) 1 0 t284 t285 t286 t287 t288 t289 t290 t291 t292 t293) else (if (rd y295 (ji6)) = 16 then (if y299.length < 4398046511104 then (parallaxlaw10_FramingClauses.j4 k a1 (rd y295 (ji6)) (y299 ++ [(⟨(⟨#[104, 111, 115, 116]⟩ : ByteArray), (⟨#[98]⟩ : ByteArray)⟩ : S34)]) 1 0 t284 t285 t286 t287 t288 t289 t290 t291 t292 t293) else (none)) else (if (rd y295 (ji6)) = 23 then (if y299.length < 4398046511104 then (parallaxlaw10_FramingClauses.j3 k a1 (rd y295 (ji6)) (y299 ++ [(⟨(⟨#[67, 111, 110, 116, 101, 110, 116, 45, 76, 101, 110, 103, 116, 104]⟩ : ByteArray), (⟨#[43, 51]⟩ : ByteArray)⟩ : S34)]) 1 0 t284 t285 t286 t287 t288 t289 t290 t291 t292 t293) else (none)) else (if (rd y295 (ji6)) = 24 then ((some (([(⟨(⟨#[67, 111, 110, 116, 101, 110, 116, 45, 76, 101, 110, 103, 116, 104]⟩ : ByteArray), (⟨#[51]⟩ : ByteArray)⟩ : S34), (⟨(⟨#[67, 111, 110, 116, 101, 110, 116, 45, 76, 101, 110, 103, 116, 104]⟩ : ByteArray), (⟨#[51]⟩ : ByteArray)⟩ : S34)] : List (S34)) : List (S34))).bind fun y308 => (if y299.length + y308.length < 4398046511104 then (parallaxlaw10_FramingClauses.j2 k a1 (rd y295 (ji6)) (y299 ++ y308) 1 100663296 t284 t285 t286 t287 t288 t289 t290 t291 t292 t293) else (none))) else (if (rd y295 (ji6)) = 19 then (if y299.length < 4398046511104 then (parallaxlaw10_FramingClauses.j1 k a1 (rd y295 (ji6)) (y299 ++ [(⟨(⟨#[84, 114, 97, 110, 115, 102, 101, 114, 45, 69, 110, 99, 111, 100, 105, 110, 103]⟩ : ByteArray), (⟨#[98, 114]⟩ : ByteArray)⟩ : S34)]) 1 0 t284 t285 t286 t287 t288 t289 t290 t291 t292 t293) else (none)) else (if (rd y295 (ji6)) = 18 then (if y299.length < 4398046511104 then (parallaxlaw10_FramingClauses.j0 k a1 (rd y295 (ji6)) (y299 ++ [(⟨(⟨#[84, 114, 97, 110, 115, 102, 101, 114, 45, 69, 110, 99, 111, 100, 105, 110, 103]⟩ : ByteArray), (⟨#[98, 114, 44, 32, 99, 104, 117, 110, 107, 101, 100]⟩ : ByteArray)⟩ : S34)]) 1 524288 t284 t285 t286 t287 t288 t289 t290 t291 t292 t293) else (none)) else (if y299.length < 4398046511104 then (parallaxlaw10_FramingClauses.j0 k a1 (rd y295 (ji6)) (y299 ++ [(⟨(⟨#[84, 114, 97, 110, 115, 102, 101, 114, 45, 69, 110, 99, 111, 100, 105, 110, 103]⟩ : ByteArray), (⟨#[99, 104, 117, 110, 107, 101, 100]⟩ : ByteArray)⟩ : S34)]) 0 0 t284 t285 t286 t287 t288 t289 t290 t291 t292 t293) else (none))))))))) else (none)) else (none)) = some r := by first | (rw [hji6] at H; exact H) | (simp only [hji6] at H ⊢; exact H)
    (try rw [hji6] at A3)
    (try rw [hji6] at A5)
    by_cases c7 : 0 ≤ (ji6)
    · rw [if_pos c7] at H
      have c7b0 : decide (0 ≤ (ji6)) = true := decide_eq_true c7
      clear c7
      by_cases c8 : (ji6) < (y295.length : Int)
      · rw [if_pos c8] at H
        have c8b0 : decide ((ji6) < (y295.length : Int)) = true := decide_eq_true c8
        clear c8
        obtain ⟨y299, hy299⟩ : ∃ y_ : List (S34), y_ = (([(⟨(⟨#[72, 111, 115, 116]⟩ : ByteArray), (⟨#[97]⟩ : ByteArray)⟩ : S34)] : List (S34))) := ⟨_, rfl⟩
        replace H : (if (rd y295 (ji6)) = 15 then (parallaxlaw10_FramingClauses.j5 k a1 (rd y295 (ji6)) ([] : List (S34)) 1 0 t284 t285 t286 t287 t288 t289 t290 t291 t292 t293) else (if (rd y295 (ji6)) = 16 then (if y299.length < 4398046511104 then (parallaxlaw10_FramingClauses.j4 k a1 (rd y295 (ji6)) (y299 ++ [(⟨(⟨#[104, 111, 115, 116]⟩ : ByteArray), (⟨#[98]⟩ : ByteArray)⟩ : S34)]) 1 0 t284 t285 t286 t287 t288 t289 t290 t291 t292 t293) else (none)) else (if (rd y295 (ji6)) = 23 then (if y299.length < 4398046511104 then (parallaxlaw10_FramingClauses.j3 k a1 (rd y295 (ji6)) (y299 ++ [(⟨(⟨#[67, 111, 110, 116, 101, 110, 116, 45, 76, 101, 110, 103, 116, 104]⟩ : ByteArray), (⟨#[43, 51]⟩ : ByteArray)⟩ : S34)]) 1 0 t284 t285 t286 t287 t288 t289 t290 t291 t292 t293) else (none)) else (if (rd y295 (ji6)) = 24 then ((some (([(⟨(⟨#[67, 111, 110, 116, 101, 110, 116, 45, 76, 101, 110, 103, 116, 104]⟩ : ByteArray), (⟨#[51]⟩ : ByteArray)⟩ : S34), (⟨(⟨#[67, 111, 110, 116, 101, 110, 116, 45, 76, 101, 110, 103, 116, 104]⟩ : ByteArray), (⟨#[51]⟩ : ByteArray)⟩ : S34)] : List (S34)) : List (S34))).bind fun y308 => (if y299.length + y308.length < 4398046511104 then (parallaxlaw10_FramingClauses.j2 k a1 (rd y295 (ji6)) (y299 ++ y308) 1 100663296 t284 t285 t286 t287 t288 t289 t290 t291 t292 t293) else (none))) else (if (rd y295 (ji6)) = 19 then (if y299.length < 4398046511104 then (parallaxlaw10_FramingClauses.j1 k a1 (rd y295 (ji6)) (y299 ++ [(⟨(⟨#[84, 114, 97, 110, 115, 102, 101, 114, 45, 69, 110, 99, 111, 100, 105, 110, 103]⟩ : ByteArray), (⟨#[98, 114]⟩ : ByteArray)⟩ : S34)]) 1 0 t284 t285 t286 t287 t288 t289 t290 t291 t292 t293) else (none)) else (if (rd y295 (ji6)) = 18 then (if y299.length < 4398046511104 then (parallaxlaw10_FramingClauses.j0 k a1 (rd y295 (ji6)) (y299 ++ [(⟨(⟨#[84, 114, 97, 110, 115, 102, 101, 114, 45, 69, 110, 99, 111, 100, 105, 110, 103]⟩ : ByteArray), (⟨#[98, 114, 44, 32, 99, 104, 117, 110, 107, 101, 100]⟩ : ByteArray)⟩ : S34)]) 1 524288 t284 t285 t286 t287 t288 t289 t290 t291 t292 t293) else (none)) else (if y299.length < 4398046511104 then (parallaxlaw10_FramingClauses.j0 k a1 (rd y295 (ji6)) (y299 ++ [(⟨(⟨#[84, 114, 97, 110, 115, 102, 101, 114, 45, 69, 110, 99, 111, 100, 105, 110, 103]⟩ : ByteArray), (⟨#[99, 104, 117, 110, 107, 101, 100]⟩ : ByteArray)⟩ : S34)]) 0 0 t284 t285 t286 t287 t288 t289 t290 t291 t292 t293) else (none)))))))) = some r := by first | (rw [hy299]; with_reducible exact H) | (have H2_ := (Option.bind_some _ _).symm.trans H; rw [hy299]; with_reducible exact H2_) | (have H2_ := (Option.bind_some _ _).symm.trans H; with_reducible exact H2_) | with_reducible exact H | (rw [hy299]; exact H) | exact H
        have Ny299 := Aside0.mk hy299
        clear hy299
        have HC9 := Aside0.mk H
        clear H
        go_enter Tryd.func5, Tryd.ntmps5
        go_upto_if 32 with (first | ((with_reducible refine gate_callee (f := 8) rfl ?_); refine goesL_ (some 17) rfl rfl Tryd.func8 (by kernel_rfl) rfl #[] rfl (by (try simp only [List.map_toArray, List.map_cons, List.map_nil]); first | done | rfl | (simp only [List.length_drop, List.length_take]; rfl)) ?_; (with_reducible refine (parallaxlaw10_known.calls k  true _ rfl A3.out).mono ?_); rintro e w10 ⟨rfl, hb⟩; refine ⟨_, rfl, ?_⟩; have n0_ := Aside0.mk (below_step (by repeat (first | (with_reducible first | exact HB.out | apply below_alloc | apply pw_below_drewN | apply below_drew1) | exact HB.out)) hb); clear HB; have HB := n0_; clear n0_; (try clear hb); (try clear hb2); (try clear hk); (try clear hi)) | ((with_reducible refine gate_callee (f := 24) rfl ?_); refine goesL_ (some 19) rfl rfl Tryd.func24 (by kernel_rfl) rfl #[] rfl (by (try simp only [List.map_toArray, List.map_cons, List.map_nil]); first | done | rfl | (simp only [List.length_drop, List.length_take]; rfl)) ?_; (with_reducible refine (parallaxref4_Usual.calls  t284 t285 t286 t287 t288 t289 t290 t291 t292 t293 _ A5.out).mono ?_); rintro e w11 ⟨rfl, hb⟩; refine ⟨_, rfl, ?_⟩; have n0_ := Aside0.mk (below_step (by repeat (first | (with_reducible first | exact HB.out | apply below_alloc | apply pw_below_drewN | apply below_drew1) | exact HB.out)) hb); clear HB; have HB := n0_; clear n0_; (try clear hb); (try clear hb2); (try clear hk); (try clear hi)) | ((with_reducible refine gate_dst (N := 5) rfl ?_); refine box_event ?hg (N := 5) ?hd (cs := #[.int .i64 0, .int .i64 0, .int .i64 0, .int .i64 0, .int .i64 0, .int .i64 0, .int .i64 0, .int .i64 0, .bool false, .bool false]) (t := 30) ?hr ?_; (case hd => rfl); (case hg => rfl); (case hr => first | (go_simp; done) | (go_simp; rfl)); intro gb294 hg w12 hbox hb; have n0_ := Aside0.mk (below_step (by repeat (first | (with_reducible first | exact HB.out | apply below_alloc | apply pw_below_drewN | apply below_drew1) | exact HB.out)) hb); have n1_ := Aside0.mk (hbox); have n2_ := Aside0.mk ((by rw [hg]; exact (below_size (by repeat (first | (with_reducible first | exact HB.out | apply below_alloc | apply pw_below_drewN | apply below_drew1) | exact HB.out))) : w.heap.size ≤ gb294)); have n3_ := Aside0.mk ((by rw [hg]; exact (below_size (by repeat (first | (with_reducible first | exact HB.out | apply below_alloc | apply pw_below_drewN | apply below_drew1) | exact HB.out))) : w.heap.size ≤ gb294)); clear HB; have HB := n0_; have BK294 := n1_; have GW294 := n2_; have GE294 := n3_; clear n0_ n1_ n2_ n3_; clear hb hbox hg; have hcz13_0 : w12.cell? ⟨gb294, 0, none⟩ = some (.int .i64 0) := (blk_cell BK294.out 0).trans rfl; have hcz13_1 : w12.cell? ⟨gb294, 1, none⟩ = some (.int .i64 0) := (blk_cell BK294.out 1).trans rfl; have hcz13_2 : w12.cell? ⟨gb294, 2, none⟩ = some (.int .i64 0) := (blk_cell BK294.out 2).trans rfl; have hcz13_3 : w12.cell? ⟨gb294, 3, none⟩ = some (.int .i64 0) := (blk_cell BK294.out 3).trans rfl; have hcz13_4 : w12.cell? ⟨gb294, 4, none⟩ = some (.int .i64 0) := (blk_cell BK294.out 4).trans rfl; have hcz13_5 : w12.cell? ⟨gb294, 5, none⟩ = some (.int .i64 0) := (blk_cell BK294.out 5).trans rfl; have hcz13_6 : w12.cell? ⟨gb294, 6, none⟩ = some (.int .i64 0) := (blk_cell BK294.out 6).trans rfl; have hcz13_7 : w12.cell? ⟨gb294, 7, none⟩ = some (.int .i64 0) := (blk_cell BK294.out 7).trans rfl; have hcz13_8 : w12.cell? ⟨gb294, 8, none⟩ = some (.bool false) := (blk_cell BK294.out 8).trans rfl; have hcz13_9 : w12.cell? ⟨gb294, 9, none⟩ = some (.bool false) := (blk_cell BK294.out 9).trans rfl; have hfz13_0 := blk_frozen BK294.out 0; have hfz13_1 := blk_frozen BK294.out 1; have hfz13_2 := blk_frozen BK294.out 2; have hfz13_3 := blk_frozen BK294.out 3; have hfz13_4 := blk_frozen BK294.out 4; have hfz13_5 := blk_frozen BK294.out 5; have hfz13_6 := blk_frozen BK294.out 6; have hfz13_7 := blk_frozen BK294.out 7; have hfz13_8 := blk_frozen BK294.out 8; have hfz13_9 := blk_frozen BK294.out 9) | ((with_reducible refine gate_dst (N := 20) rfl ?_); refine Kd.R_lit (Kd.int .i64) _ 3 ?hg (N := 20) ?hd (xs := ([15, 16, 23, 24, 19, 18, 20] : List Int)) (inner := [.int .i64 15, .int .i64 16, .int .i64 23, .int .i64 24, .int .i64 19, .int .i64 18, .int .i64 20]) (ok := fun _ => True) (okp := fun _ => True) ?hr ?hp (fun _ hk => hk) trivial (Below.refl _ _) (Nat.le_refl _) (by simp) ?_; (case hd => rfl); (case hg => rfl); (case hr => first | (go_simp; done) | (go_simp; rfl)); (case hp => exact (Reps.one (show Kd.M (Kd.int .i64) _ _ _ 15 [.int .i64 15] from rfl) (Reps.one (show Kd.M (Kd.int .i64) _ _ _ 16 [.int .i64 16] from rfl) (Reps.one (show Kd.M (Kd.int .i64) _ _ _ 23 [.int .i64 23] from rfl) (Reps.one (show Kd.M (Kd.int .i64) _ _ _ 24 [.int .i64 24] from rfl) (Reps.one (show Kd.M (Kd.int .i64) _ _ _ 19 [.int .i64 19] from rfl) (Reps.one (show Kd.M (Kd.int .i64) _ _ _ 18 [.int .i64 18] from rfl) (Reps.one (show Kd.M (Kd.int .i64) _ _ _ 20 [.int .i64 20] from rfl) (Reps.none _ _))))))))); intro v296 w14 ho15 hb hg_ hnew_; clear hg_ hnew_; (first | rw [← Ny295.out] at ho15 | (simp only [Int.reduceToNat] at ho15; rw [← Ny295.out] at ho15)); have n0_ := Aside0.mk (Kd.R_lower ho15 (below_size (by repeat (first | (with_reducible first | exact HB.out | apply below_alloc | apply pw_below_drewN | apply below_drew1 | refine below_set ?_ GE294.out) | exact HB.out)))); have n1_ := Aside0.mk (blk_below (g := gb294) (o := .cells #[.int .i64 t284, .int .i64 t285, .int .i64 t286, .int .i64 t287, .int .i64 t288, .int .i64 t289, .int .i64 t290, .int .i64 t291, .bool t292, .bool t293] 30 (0, 0)) (by (with_reducible repeat (first | refine blk_drewN ?_ _ | refine blk_drew ?_ | refine blk_alloc ?_ _)); refine blk_put (cs := #[.int .i64 t284, .int .i64 t285, .int .i64 t286, .int .i64 t287, .int .i64 t288, .int .i64 t289, .int .i64 t290, .int .i64 t291, .bool t292, .bool false]) ?_ 9 _ rfl; (with_reducible repeat (first | refine blk_drewN ?_ _ | refine blk_drew ?_ | refine blk_alloc ?_ _)); refine blk_put (cs := #[.int .i64 t284, .int .i64 t285, .int .i64 t286, .int .i64 t287, .int .i64 t288, .int .i64 t289, .int .i64 t290, .int .i64 t291, .bool false, .bool false]) ?_ 8 _ rfl; (with_reducible repeat (first | refine blk_drewN ?_ _ | refine blk_drew ?_ | refine blk_alloc ?_ _)); refine blk_put (cs := #[.int .i64 t284, .int .i64 t285, .int .i64 t286, .int .i64 t287, .int .i64 t288, .int .i64 t289, .int .i64 t290, .int .i64 0, .bool false, .bool false]) ?_ 7 _ rfl; (with_reducible repeat (first | refine blk_drewN ?_ _ | refine blk_drew ?_ | refine blk_alloc ?_ _)); refine blk_put (cs := #[.int .i64 t284, .int .i64 t285, .int .i64 t286, .int .i64 t287, .int .i64 t288, .int .i64 t289, .int .i64 0, .int .i64 0, .bool false, .bool false]) ?_ 6 _ rfl; (with_reducible repeat (first | refine blk_drewN ?_ _ | refine blk_drew ?_ | refine blk_alloc ?_ _)); refine blk_put (cs := #[.int .i64 t284, .int .i64 t285, .int .i64 t286, .int .i64 t287, .int .i64 t288, .int .i64 0, .int .i64 0, .int .i64 0, .bool false, .bool false]) ?_ 5 _ rfl; (with_reducible repeat (first | refine blk_drewN ?_ _ | refine blk_drew ?_ | refine blk_alloc ?_ _)); refine blk_put (cs := #[.int .i64 t284, .int .i64 t285, .int .i64 t286, .int .i64 t287, .int .i64 0, .int .i64 0, .int .i64 0, .int .i64 0, .bool false, .bool false]) ?_ 4 _ rfl; (with_reducible repeat (first | refine blk_drewN ?_ _ | refine blk_drew ?_ | refine blk_alloc ?_ _)); refine blk_put (cs := #[.int .i64 t284, .int .i64 t285, .int .i64 t286, .int .i64 0, .int .i64 0, .int .i64 0, .int .i64 0, .int .i64 0, .bool false, .bool false]) ?_ 3 _ rfl; (with_reducible repeat (first | refine blk_drewN ?_ _ | refine blk_drew ?_ | refine blk_alloc ?_ _)); refine blk_put (cs := #[.int .i64 t284, .int .i64 t285, .int .i64 0, .int .i64 0, .int .i64 0, .int .i64 0, .int .i64 0, .int .i64 0, .bool false, .bool false]) ?_ 2 _ rfl; (with_reducible repeat (first | refine blk_drewN ?_ _ | refine blk_drew ?_ | refine blk_alloc ?_ _)); refine blk_put (cs := #[.int .i64 t284, .int .i64 0, .int .i64 0, .int .i64 0, .int .i64 0, .int .i64 0, .int .i64 0, .int .i64 0, .bool false, .bool false]) ?_ 1 _ rfl; (with_reducible repeat (first | refine blk_drewN ?_ _ | refine blk_drew ?_ | refine blk_alloc ?_ _)); refine blk_put (cs := #[.int .i64 0, .int .i64 0, .int .i64 0, .int .i64 0, .int .i64 0, .int .i64 0, .int .i64 0, .int .i64 0, .bool false, .bool false]) ?_ 0 _ rfl; (with_reducible repeat (first | refine blk_drewN ?_ _ | refine blk_drew ?_ | refine blk_alloc ?_ _)); exact BK294.out) hb); have n2_ := Aside0.mk (below_step (by repeat (first | (with_reducible first | exact HB.out | apply below_alloc | apply pw_below_drewN | apply below_drew1 | refine below_set ?_ GE294.out) | exact HB.out)) hb); clear BK294; clear HB; have HO297 := n0_; have BK294 := n1_; have HB := n2_; clear n0_ n1_ n2_; clear hb ho15; obtain ⟨Ao16, co16, eo16⟩ := Kd.R_slice HO297.out; subst eo16; have p298 : 0 ≤ ((ji6) : Int) := of_decide_eq_true (by first | (with_reducible assumption) | assumption); have q298 : (ji6) < (y295.length : Int) := of_decide_eq_true (by first | (with_reducible assumption) | assumption); obtain ⟨ad298, e298, hx298_0⟩ := Kd.at_int (Kd.R_reads' HO297.out).2.2 (ji6) p298 q298; cases e298; replace p298 := eq_true p298; replace q298 := eq_true q298) | ((with_reducible refine gate_dst (N := 26) rfl ?_); refine Kd.R_lit k34 _ 34 ?hg (N := 26) ?hd (xs := ([(⟨(⟨#[72, 111, 115, 116]⟩ : ByteArray), (⟨#[97]⟩ : ByteArray)⟩ : S34)] : List (S34))) (inner := [.string (⟨#[72, 111, 115, 116]⟩ : ByteArray), .string (⟨#[97]⟩ : ByteArray)]) (ok := fun _ => True) (okp := fun _ => True) ?hr ?hp (fun _ hk => hk) trivial (Below.refl _ _) (Nat.le_refl _) (by simp) ?_; (case hd => rfl); (case hg => rfl); (case hr => first | (go_simp; done) | (go_simp; rfl)); (case hp => exact (Reps.c2 (show Kd.M k34 _ _ _ (⟨(⟨#[72, 111, 115, 116]⟩ : ByteArray), (⟨#[97]⟩ : ByteArray)⟩ : S34) [.string (⟨#[72, 111, 115, 116]⟩ : ByteArray), .string (⟨#[97]⟩ : ByteArray)] from (k34_mkM _ _ _ (⟨(⟨#[72, 111, 115, 116]⟩ : ByteArray), (⟨#[97]⟩ : ByteArray)⟩ : S34) )) (Reps.none _ _))); intro v300 w17 ho18 hb hg_ hnew_; clear hg_ hnew_; (first | rw [← Ny299.out] at ho18 | (simp only [Int.reduceToNat] at ho18; rw [← Ny299.out] at ho18)); have n0_ := Aside0.mk (Kd.R_below (by (with_reducible repeat (first | apply Kd.R_alloc | apply Kd.R_drewN | apply Kd.R_drew)); exact HO297.out) hb); have n1_ := Aside0.mk (Kd.R_lower ho18 (below_size (by repeat (first | (with_reducible first | exact HB.out | apply below_alloc | apply pw_below_drewN | apply below_drew1 | refine below_set ?_ GE294.out) | exact HB.out)))); have n2_ := Aside0.mk (blk_below (g := gb294) (o := .cells #[.int .i64 t284, .int .i64 t285, .int .i64 t286, .int .i64 t287, .int .i64 t288, .int .i64 t289, .int .i64 t290, .int .i64 t291, .bool t292, .bool t293] 30 (0, 0)) (by (with_reducible repeat (first | refine blk_drewN ?_ _ | refine blk_drew ?_ | refine blk_alloc ?_ _)); exact BK294.out) hb); have n3_ := Aside0.mk (below_step (by repeat (first | (with_reducible first | exact HB.out | apply below_alloc | apply pw_below_drewN | apply below_drew1 | refine below_set ?_ GE294.out) | exact HB.out)) hb); clear HO297; clear BK294; clear HB; have HO297 := n0_; have HO301 := n1_; have BK294 := n2_; have HB := n3_; clear n0_ n1_ n2_ n3_; clear hb ho18))
        (try simp only [Act.put, List.setIfInBounds_toArray, List.set_cons_zero, List.set_cons_succ])
        refine in_block_ ?_
        go_cut [7, 8, 9, 32, 33] (fun v7 v8 v9 v32 v33 wc => ∃ (kq : Nat) (x7_8 : List (S34)) (x8_8 : Int) (x9_8 : Int), v8 = .int .i64 x8_8 ∧ v9 = .int .u32 x9_8 ∧ Aside0 (parallaxlaw10_FramingClauses.j5 kq a1 (rd y295 (ji6)) x7_8 x8_8 x9_8 t284 t285 t286 t287 t288 t289 t290 t291 t292 t293 = some r) ∧ Aside0 (kq ≤ k) ∧ Aside0 (Kd.R k34 34 wc w.heap.size (fun _ => True) v7 x7_8) ∧ Aside0 (wc.heap[gb294]? = some (.cells #[.int .i64 t284, .int .i64 t285, .int .i64 t286, .int .i64 t287, .int .i64 t288, .int .i64 t289, .int .i64 t290, .int .i64 t291, .bool t292, .bool t293] 30 (0, 0))) ∧ Aside0 (Below w.heap.size w wc))
        case first =>
          have H := HC9.out
          clear HC9
          by_cases c19 : (rd y295 (ji6)) = 15
          · rw [if_pos c19] at H
            have c19b0 : ((rd y295 (ji6)) == 15) = true := beq_iff_eq.mpr c19
            have c19b1 : ((rd y295 (ji6)) != 15) = false := bne_eq_false_iff_eq.mpr c19
            clear c19
            (first | rw [c19b0] | (simp only [i64_w, i32_w]; rw [c19b0]) | skip)
            have H' := Aside0.mk H
            clear H
            go_wp2
            go_meet
            case rel => exact ⟨_, (([] : List (S34))), (1), (0), (by first | rfl | (simp; done) | (simp [*]; done)), (by first | rfl | (simp; done) | (simp [*]; done)), H', ⟨by first | omega | exact Nat.le_refl _⟩, ⟨by first | exact Kd.R_nil _ _ _ _ _ | exact Kd.N_nil _ _ _ _ _ | exact Kd.V_nil _ _ _ _ _ | exact Kd.Q_nil _ _ _ _ _ | exact Kd.S_nil _ _ _ _ _⟩, ⟨by (with_reducible repeat (first | refine blk_drewN ?_ _ | refine blk_drew ?_ | refine blk_alloc ?_ _)); exact BK294.out⟩, ⟨by repeat (first | (with_reducible first | exact HB.out | apply below_alloc | apply pw_below_drewN | apply below_drew1 | refine below_set ?_ GE294.out) | exact HB.out)⟩⟩
          · rw [if_neg c19] at H
            have c19b0 : ((rd y295 (ji6)) == 15) = false := beq_eq_false_iff_ne.mpr c19
            have c19b1 : ((rd y295 (ji6)) != 15) = true := bne_iff_ne.mpr c19
            (first | rw [c19b0] | (simp only [i64_w, i32_w]; rw [c19b0]) | skip)
            have HC20 := Aside0.mk H
            clear H
            go_upto_if 34 with (fail)
            go_cut [7, 8, 9, 34, 35] (fun v7 v8 v9 v34 v35 wc => ∃ (kq : Nat) (x7_19 : List (S34)) (x8_19 : Int) (x9_19 : Int), v8 = .int .i64 x8_19 ∧ v9 = .int .u32 x9_19 ∧ Aside0 (parallaxlaw10_FramingClauses.j4 kq a1 (rd y295 (ji6)) x7_19 x8_19 x9_19 t284 t285 t286 t287 t288 t289 t290 t291 t292 t293 = some r) ∧ Aside0 (kq ≤ k) ∧ Aside0 (Kd.R k34 34 wc w.heap.size (fun _ => True) v7 x7_19) ∧ Aside0 (wc.heap[gb294]? = some (.cells #[.int .i64 t284, .int .i64 t285, .int .i64 t286, .int .i64 t287, .int .i64 t288, .int .i64 t289, .int .i64 t290, .int .i64 t291, .bool t292, .bool t293] 30 (0, 0))) ∧ Aside0 (Below w.heap.size w wc))
            case first =>
              have H := HC20.out
              clear HC20
              by_cases c21 : (rd y295 (ji6)) = 16
              · rw [if_pos c21] at H
                have c21b0 : ((rd y295 (ji6)) == 16) = true := beq_iff_eq.mpr c21
                have c21b1 : ((rd y295 (ji6)) != 16) = false := bne_eq_false_iff_eq.mpr c21
                clear c21
                (first | rw [c21b0] | (simp only [i64_w, i32_w]; rw [c21b0]) | skip)
                by_cases c22 : y299.length < 4398046511104
                · rw [if_pos c22] at H
                  have LMc22 := Aside0.mk c22
                  clear c22
                  obtain ⟨y302, hy302⟩ : ∃ y_ : List (S34), y_ = (y299 ++ [(⟨(⟨#[104, 111, 115, 116]⟩ : ByteArray), (⟨#[98]⟩ : ByteArray)⟩ : S34)]) := ⟨_, rfl⟩
                  replace H : (parallaxlaw10_FramingClauses.j4 k a1 (rd y295 (ji6)) y302 1 0 t284 t285 t286 t287 t288 t289 t290 t291 t292 t293) = some r := by first | (rw [hy302]; with_reducible exact H) | (have H2_ := (Option.bind_some _ _).symm.trans H; rw [hy302]; with_reducible exact H2_) | (have H2_ := (Option.bind_some _ _).symm.trans H; with_reducible exact H2_) | with_reducible exact H | (rw [hy302]; exact H) | exact H
                  have Ny302 := Aside0.mk hy302
                  clear hy302
                  have H' := Aside0.mk H
                  clear H
                  go_wp2_with (first | ((with_reducible refine gate_builtin (b := .append) (xs := #[.tmp 36, .tmp 38]) rfl ?_); at_builtin; refine Kd.R_append k34 (w0 := w) w.heap.size rfl (.tmp 36) (.tmp 38) 22 34 (.agg #[(.string ⟨#[]⟩), (.string ⟨#[]⟩)]) 32 rfl Tryd.underlying22 info34 rfl (by decide) (by omega) v300 y299 (⟨(⟨#[104, 111, 115, 116]⟩ : ByteArray), (⟨#[98]⟩ : ByteArray)⟩ : S34) [.string (⟨#[104, 111, 115, 116]⟩ : ByteArray), .string (⟨#[98]⟩ : ByteArray)] (fun _ => True) (fun _ => False) rfl rfl ?aP (fun _ hk => hk.elim) ?aF ?aO ?aB ?aS ?aL ?_; (case aP => exact k34_mkM _ _ _ (⟨(⟨#[104, 111, 115, 116]⟩ : ByteArray), (⟨#[98]⟩ : ByteArray)⟩ : S34)); (case aB => exact (by repeat (first | (with_reducible first | exact HB.out | apply below_alloc | apply pw_below_drewN | apply below_drew1 | refine below_set ?_ GE294.out) | exact HB.out))); (case aF => exact (fun _ _ => trivial)); (case aO => exact (by (with_reducible repeat (first | apply Kd.R_alloc | apply Kd.R_drewN | apply Kd.R_drew)); exact HO301.out)); (case aS => exact (below_size (by repeat (first | (with_reducible first | exact HB.out | apply below_alloc | apply pw_below_drewN | apply below_drew1 | refine below_set ?_ GE294.out) | exact HB.out)))); (case aL => have := LMc22.out; omega); intro v303 w23 ho hb hg hat; rw [← Ny302.out] at ho; have n0_ := Aside0.mk (blk_grown (g := gb294) (o := .cells #[.int .i64 t284, .int .i64 t285, .int .i64 t286, .int .i64 t287, .int .i64 t288, .int .i64 t289, .int .i64 t290, .int .i64 t291, .bool t292, .bool t293] 30 (0, 0)) (by (with_reducible repeat (first | refine blk_drewN ?_ _ | refine blk_drew ?_ | refine blk_alloc ?_ _)); exact BK294.out) hg (Kd.R_ne HO301.out BK294.out (by decide))); have n1_ := Aside0.mk (Kd.R_over' (by (with_reducible repeat (first | apply Kd.R_alloc | apply Kd.R_drewN | apply Kd.R_drew)); exact HO297.out) (Kd.R_typed (by (with_reducible repeat (first | apply Kd.R_alloc | apply Kd.R_drewN | apply Kd.R_drew)); exact HO301.out)) (by decide) hg); have n2_ := Aside0.mk (hb); have n3_ := Aside0.mk (ho); clear BK294; clear HO297; clear HB; clear HO301; have BK294 := n0_; have HO297 := n1_; have HB := n2_; have HO304 := n3_; clear n0_ n1_ n2_ n3_; clear ho hb hg hat))
                  go_meet
                  case rel => exact ⟨_, (y302), (1), (0), (by first | rfl | (simp; done) | (simp [*]; done)), (by first | rfl | (simp; done) | (simp [*]; done)), H', ⟨by first | omega | exact Nat.le_refl _⟩, ⟨by (with_reducible repeat (first | apply Kd.R_alloc | apply Kd.R_drewN | apply Kd.R_drew)); exact HO304.out⟩, ⟨by (with_reducible repeat (first | refine blk_drewN ?_ _ | refine blk_drew ?_ | refine blk_alloc ?_ _)); exact BK294.out⟩, ⟨by repeat (first | (with_reducible first | exact HB.out | apply below_alloc | apply pw_below_drewN | apply below_drew1 | refine below_set ?_ GE294.out) | exact HB.out)⟩⟩
                · rw [if_neg c22] at H
                  exact absurd H (by simp)
              · rw [if_neg c21] at H
                have c21b0 : ((rd y295 (ji6)) == 16) = false := beq_eq_false_iff_ne.mpr c21
                have c21b1 : ((rd y295 (ji6)) != 16) = true := bne_iff_ne.mpr c21
                (first | rw [c21b0] | (simp only [i64_w, i32_w]; rw [c21b0]) | skip)
                have HC24 := Aside0.mk H
                clear H
                go_upto_if 40 with (fail)
                go_cut [7, 8, 9, 40, 41] (fun v7 v8 v9 v40 v41 wc => ∃ (kq : Nat) (x7_23 : List (S34)) (x8_23 : Int) (x9_23 : Int), v8 = .int .i64 x8_23 ∧ v9 = .int .u32 x9_23 ∧ Aside0 (parallaxlaw10_FramingClauses.j3 kq a1 (rd y295 (ji6)) x7_23 x8_23 x9_23 t284 t285 t286 t287 t288 t289 t290 t291 t292 t293 = some r) ∧ Aside0 (kq ≤ k) ∧ Aside0 (Kd.R k34 34 wc w.heap.size (fun _ => True) v7 x7_23) ∧ Aside0 (wc.heap[gb294]? = some (.cells #[.int .i64 t284, .int .i64 t285, .int .i64 t286, .int .i64 t287, .int .i64 t288, .int .i64 t289, .int .i64 t290, .int .i64 t291, .bool t292, .bool t293] 30 (0, 0))) ∧ Aside0 (Below w.heap.size w wc))
                case first =>
                  have H := HC24.out
                  clear HC24
                  by_cases c25 : (rd y295 (ji6)) = 23
                  · rw [if_pos c25] at H
                    have c25b0 : ((rd y295 (ji6)) == 23) = true := beq_iff_eq.mpr c25
                    have c25b1 : ((rd y295 (ji6)) != 23) = false := bne_eq_false_iff_eq.mpr c25
                    clear c25
                    (first | rw [c25b0] | (simp only [i64_w, i32_w]; rw [c25b0]) | skip)
                    by_cases c26 : y299.length < 4398046511104
                    · rw [if_pos c26] at H
                      have LMc26 := Aside0.mk c26
                      clear c26
                      obtain ⟨y305, hy305⟩ : ∃ y_ : List (S34), y_ = (y299 ++ [(⟨(⟨#[67, 111, 110, 116, 101, 110, 116, 45, 76, 101, 110, 103, 116, 104]⟩ : ByteArray), (⟨#[43, 51]⟩ : ByteArray)⟩ : S34)]) := ⟨_, rfl⟩
                      replace H : (parallaxlaw10_FramingClauses.j3 k a1 (rd y295 (ji6)) y305 1 0 t284 t285 t286 t287 t288 t289 t290 t291 t292 t293) = some r := by first | (rw [hy305]; with_reducible exact H) | (have H2_ := (Option.bind_some _ _).symm.trans H; rw [hy305]; with_reducible exact H2_) | (have H2_ := (Option.bind_some _ _).symm.trans H; with_reducible exact H2_) | with_reducible exact H | (rw [hy305]; exact H) | exact H
                      have Ny305 := Aside0.mk hy305
                      clear hy305
                      have H' := Aside0.mk H
                      clear H
                      go_wp2_with (first | ((with_reducible refine gate_builtin (b := .append) (xs := #[.tmp 42, .tmp 44]) rfl ?_); at_builtin; refine Kd.R_append k34 (w0 := w) w.heap.size rfl (.tmp 42) (.tmp 44) 22 34 (.agg #[(.string ⟨#[]⟩), (.string ⟨#[]⟩)]) 32 rfl Tryd.underlying22 info34 rfl (by decide) (by omega) v300 y299 (⟨(⟨#[67, 111, 110, 116, 101, 110, 116, 45, 76, 101, 110, 103, 116, 104]⟩ : ByteArray), (⟨#[43, 51]⟩ : ByteArray)⟩ : S34) [.string (⟨#[67, 111, 110, 116, 101, 110, 116, 45, 76, 101, 110, 103, 116, 104]⟩ : ByteArray), .string (⟨#[43, 51]⟩ : ByteArray)] (fun _ => True) (fun _ => False) rfl rfl ?aP (fun _ hk => hk.elim) ?aF ?aO ?aB ?aS ?aL ?_; (case aP => exact k34_mkM _ _ _ (⟨(⟨#[67, 111, 110, 116, 101, 110, 116, 45, 76, 101, 110, 103, 116, 104]⟩ : ByteArray), (⟨#[43, 51]⟩ : ByteArray)⟩ : S34)); (case aB => exact (by repeat (first | (with_reducible first | exact HB.out | apply below_alloc | apply pw_below_drewN | apply below_drew1 | refine below_set ?_ GE294.out) | exact HB.out))); (case aF => exact (fun _ _ => trivial)); (case aO => exact (by (with_reducible repeat (first | apply Kd.R_alloc | apply Kd.R_drewN | apply Kd.R_drew)); exact HO301.out)); (case aS => exact (below_size (by repeat (first | (with_reducible first | exact HB.out | apply below_alloc | apply pw_below_drewN | apply below_drew1 | refine below_set ?_ GE294.out) | exact HB.out)))); (case aL => have := LMc26.out; omega); intro v306 w27 ho hb hg hat; rw [← Ny305.out] at ho; have n0_ := Aside0.mk (blk_grown (g := gb294) (o := .cells #[.int .i64 t284, .int .i64 t285, .int .i64 t286, .int .i64 t287, .int .i64 t288, .int .i64 t289, .int .i64 t290, .int .i64 t291, .bool t292, .bool t293] 30 (0, 0)) (by (with_reducible repeat (first | refine blk_drewN ?_ _ | refine blk_drew ?_ | refine blk_alloc ?_ _)); exact BK294.out) hg (Kd.R_ne HO301.out BK294.out (by decide))); have n1_ := Aside0.mk (Kd.R_over' (by (with_reducible repeat (first | apply Kd.R_alloc | apply Kd.R_drewN | apply Kd.R_drew)); exact HO297.out) (Kd.R_typed (by (with_reducible repeat (first | apply Kd.R_alloc | apply Kd.R_drewN | apply Kd.R_drew)); exact HO301.out)) (by decide) hg); have n2_ := Aside0.mk (hb); have n3_ := Aside0.mk (ho); clear BK294; clear HO297; clear HB; clear HO301; have BK294 := n0_; have HO297 := n1_; have HB := n2_; have HO307 := n3_; clear n0_ n1_ n2_ n3_; clear ho hb hg hat))
                      go_meet
                      case rel => exact ⟨_, (y305), (1), (0), (by first | rfl | (simp; done) | (simp [*]; done)), (by first | rfl | (simp; done) | (simp [*]; done)), H', ⟨by first | omega | exact Nat.le_refl _⟩, ⟨by (with_reducible repeat (first | apply Kd.R_alloc | apply Kd.R_drewN | apply Kd.R_drew)); exact HO307.out⟩, ⟨by (with_reducible repeat (first | refine blk_drewN ?_ _ | refine blk_drew ?_ | refine blk_alloc ?_ _)); exact BK294.out⟩, ⟨by repeat (first | (with_reducible first | exact HB.out | apply below_alloc | apply pw_below_drewN | apply below_drew1 | refine below_set ?_ GE294.out) | exact HB.out)⟩⟩
                    · rw [if_neg c26] at H
                      exact absurd H (by simp)
                  · rw [if_neg c25] at H
                    have c25b0 : ((rd y295 (ji6)) == 23) = false := beq_eq_false_iff_ne.mpr c25
                    have c25b1 : ((rd y295 (ji6)) != 23) = true := bne_iff_ne.mpr c25
                    (first | rw [c25b0] | (simp only [i64_w, i32_w]; rw [c25b0]) | skip)
                    have HC28 := Aside0.mk H
                    clear H
                    go_upto_if 46 with (fail)
                    go_cut [7, 8, 9, 46, 47] (fun v7 v8 v9 v46 v47 wc => ∃ (kq : Nat) (x7_27 : List (S34)) (x8_27 : Int) (x9_27 : Int), v8 = .int .i64 x8_27 ∧ v9 = .int .u32 x9_27 ∧ Aside0 (parallaxlaw10_FramingClauses.j2 kq a1 (rd y295 (ji6)) x7_27 x8_27 x9_27 t284 t285 t286 t287 t288 t289 t290 t291 t292 t293 = some r) ∧ Aside0 (kq ≤ k) ∧ Aside0 (Kd.R k34 34 wc w.heap.size (fun _ => True) v7 x7_27) ∧ Aside0 (wc.heap[gb294]? = some (.cells #[.int .i64 t284, .int .i64 t285, .int .i64 t286, .int .i64 t287, .int .i64 t288, .int .i64 t289, .int .i64 t290, .int .i64 t291, .bool t292, .bool t293] 30 (0, 0))) ∧ Aside0 (Below w.heap.size w wc))
                    case first =>
                      have H := HC28.out
                      clear HC28
                      by_cases c29 : (rd y295 (ji6)) = 24
                      · rw [if_pos c29] at H
                        have c29b0 : ((rd y295 (ji6)) == 24) = true := beq_iff_eq.mpr c29
                        have c29b1 : ((rd y295 (ji6)) != 24) = false := bne_eq_false_iff_eq.mpr c29
                        clear c29
                        (first | rw [c29b0] | (simp only [i64_w, i32_w]; rw [c29b0]) | skip)
                        obtain ⟨y308, hy308⟩ : ∃ y_ : List (S34), y_ = (([(⟨(⟨#[67, 111, 110, 116, 101, 110, 116, 45, 76, 101, 110, 103, 116, 104]⟩ : ByteArray), (⟨#[51]⟩ : ByteArray)⟩ : S34), (⟨(⟨#[67, 111, 110, 116, 101, 110, 116, 45, 76, 101, 110, 103, 116, 104]⟩ : ByteArray), (⟨#[51]⟩ : ByteArray)⟩ : S34)] : List (S34))) := ⟨_, rfl⟩
                        replace H : (if y299.length + y308.length < 4398046511104 then (parallaxlaw10_FramingClauses.j2 k a1 (rd y295 (ji6)) (y299 ++ y308) 1 100663296 t284 t285 t286 t287 t288 t289 t290 t291 t292 t293) else (none)) = some r := by first | (rw [hy308]; with_reducible exact H) | (have H2_ := (Option.bind_some _ _).symm.trans H; rw [hy308]; with_reducible exact H2_) | (have H2_ := (Option.bind_some _ _).symm.trans H; with_reducible exact H2_) | with_reducible exact H | (rw [hy308]; exact H) | exact H
                        have Ny308 := Aside0.mk hy308
                        clear hy308
                        by_cases c30 : y299.length + y308.length < 4398046511104
                        · rw [if_pos c30] at H
                          have LMc30 := Aside0.mk c30
                          clear c30
                          obtain ⟨y311, hy311⟩ : ∃ y_ : List (S34), y_ = (y299 ++ y308) := ⟨_, rfl⟩
                          replace H : (parallaxlaw10_FramingClauses.j2 k a1 (rd y295 (ji6)) y311 1 100663296 t284 t285 t286 t287 t288 t289 t290 t291 t292 t293) = some r := by first | (rw [hy311]; with_reducible exact H) | (have H2_ := (Option.bind_some _ _).symm.trans H; rw [hy311]; with_reducible exact H2_) | (have H2_ := (Option.bind_some _ _).symm.trans H; with_reducible exact H2_) | with_reducible exact H | (rw [hy311]; exact H) | exact H
                          have Ny311 := Aside0.mk hy311
                          clear hy311
                          have H' := Aside0.mk H
                          clear H
                          go_wp2_with (first | ((with_reducible refine gate_dst (N := 51) rfl ?_); refine Kd.R_lit k34 _ 34 ?hg (N := 51) ?hd (xs := ([(⟨(⟨#[67, 111, 110, 116, 101, 110, 116, 45, 76, 101, 110, 103, 116, 104]⟩ : ByteArray), (⟨#[51]⟩ : ByteArray)⟩ : S34), (⟨(⟨#[67, 111, 110, 116, 101, 110, 116, 45, 76, 101, 110, 103, 116, 104]⟩ : ByteArray), (⟨#[51]⟩ : ByteArray)⟩ : S34)] : List (S34))) (inner := [.string (⟨#[67, 111, 110, 116, 101, 110, 116, 45, 76, 101, 110, 103, 116, 104]⟩ : ByteArray), .string (⟨#[51]⟩ : ByteArray), .string (⟨#[67, 111, 110, 116, 101, 110, 116, 45, 76, 101, 110, 103, 116, 104]⟩ : ByteArray), .string (⟨#[51]⟩ : ByteArray)]) (ok := fun _ => True) (okp := fun _ => True) ?hr ?hp (fun _ hk => hk) trivial (Below.refl _ _) (Nat.le_refl _) (by simp) ?_; (case hd => rfl); (case hg => rfl); (case hr => first | (go_simp; done) | (go_simp; rfl)); (case hp => exact (Reps.c2 (show Kd.M k34 _ _ _ (⟨(⟨#[67, 111, 110, 116, 101, 110, 116, 45, 76, 101, 110, 103, 116, 104]⟩ : ByteArray), (⟨#[51]⟩ : ByteArray)⟩ : S34) [.string (⟨#[67, 111, 110, 116, 101, 110, 116, 45, 76, 101, 110, 103, 116, 104]⟩ : ByteArray), .string (⟨#[51]⟩ : ByteArray)] from (k34_mkM _ _ _ (⟨(⟨#[67, 111, 110, 116, 101, 110, 116, 45, 76, 101, 110, 103, 116, 104]⟩ : ByteArray), (⟨#[51]⟩ : ByteArray)⟩ : S34) )) (Reps.c2 (show Kd.M k34 _ _ _ (⟨(⟨#[67, 111, 110, 116, 101, 110, 116, 45, 76, 101, 110, 103, 116, 104]⟩ : ByteArray), (⟨#[51]⟩ : ByteArray)⟩ : S34) [.string (⟨#[67, 111, 110, 116, 101, 110, 116, 45, 76, 101, 110, 103, 116, 104]⟩ : ByteArray), .string (⟨#[51]⟩ : ByteArray)] from (k34_mkM _ _ _ (⟨(⟨#[67, 111, 110, 116, 101, 110, 116, 45, 76, 101, 110, 103, 116, 104]⟩ : ByteArray), (⟨#[51]⟩ : ByteArray)⟩ : S34) )) (Reps.none _ _)))); intro v309 w31 ho32 hb hg_ hnew_; clear hg_ hnew_; (first | rw [← Ny308.out] at ho32 | (simp only [Int.reduceToNat] at ho32; rw [← Ny308.out] at ho32)); have n0_ := Aside0.mk (Kd.R_below (by (with_reducible repeat (first | apply Kd.R_alloc | apply Kd.R_drewN | apply Kd.R_drew)); exact HO297.out) hb); have n1_ := Aside0.mk (Kd.R_elder' (by (with_reducible repeat (first | apply Kd.R_alloc | apply Kd.R_drewN | apply Kd.R_drew)); exact HO301.out) (Kd.R_base ho32) hb); have n2_ := Aside0.mk (Kd.R_lower (Kd.R_new' ho32 (Kd.R_lt (by (with_reducible repeat (first | apply Kd.R_alloc | apply Kd.R_drewN | apply Kd.R_drew)); exact HO301.out))) (below_size (by repeat (first | (with_reducible first | exact HB.out | apply below_alloc | apply pw_below_drewN | apply below_drew1 | refine below_set ?_ GE294.out) | exact HB.out)))); have n3_ := Aside0.mk (blk_below (g := gb294) (o := .cells #[.int .i64 t284, .int .i64 t285, .int .i64 t286, .int .i64 t287, .int .i64 t288, .int .i64 t289, .int .i64 t290, .int .i64 t291, .bool t292, .bool t293] 30 (0, 0)) (by (with_reducible repeat (first | refine blk_drewN ?_ _ | refine blk_drew ?_ | refine blk_alloc ?_ _)); exact BK294.out) hb); have n4_ := Aside0.mk (below_step (by repeat (first | (with_reducible first | exact HB.out | apply below_alloc | apply pw_below_drewN | apply below_drew1 | refine below_set ?_ GE294.out) | exact HB.out)) hb); clear HO297; clear HO301; clear BK294; clear HB; have HO297 := n0_; have HO301 := n1_; have HO310 := n2_; have BK294 := n3_; have HB := n4_; clear n0_ n1_ n2_ n3_ n4_; clear hb ho32; obtain ⟨Ao34, co34, eo34⟩ := Kd.R_slice HO310.out; subst eo34) | ((with_reducible refine gate_builtin (b := .append) (xs := #[.tmp 48, .tmp 51]) rfl ?_); at_builtin; refine Kd.R_append_rows k34 (w0 := w) w.heap.size rfl (.tmp 48) (.tmp 51) 22 34 (.agg #[(.string ⟨#[]⟩), (.string ⟨#[]⟩)]) 32 rfl Tryd.underlying22 info34 rfl (by decide) (by omega) v300 y299 y308 _ _ _ (fun k_ => some k_ ≠ (.slice Ao34 y308.length co34 : Value).ownBlock) (fun _ => False) rfl rfl ?aO ?aR (fun _ _ h => h) (fun _ h => h.elim) ?aF ?aB ?aS ?aL ?_; (case aR => repeat (first | exact (Kd.R_reads' HO310.out).2.2 | (with_reducible refine Kd.C_alloc ?_ _) | (with_reducible refine Kd.C_drewN ?_ _) | (with_reducible refine Kd.C_drew ?_))); (case aB => exact (by repeat (first | (with_reducible first | exact HB.out | apply below_alloc | apply pw_below_drewN | apply below_drew1 | refine below_set ?_ GE294.out) | exact HB.out))); (case aF => exact (fun k_ hk => Kd.fresh' (Kd.R_lt (by (with_reducible repeat (first | apply Kd.R_alloc | apply Kd.R_drewN | apply Kd.R_drew)); exact HO310.out)) k_ hk)); (case aO => exact (by (with_reducible repeat (first | apply Kd.R_alloc | apply Kd.R_drewN | apply Kd.R_drew)); exact Kd.R_mono HO301.out (fun _ hk => (by first | exact hk.2 | exact True.intro)))); (case aS => exact (below_size (by repeat (first | (with_reducible first | exact HB.out | apply below_alloc | apply pw_below_drewN | apply below_drew1 | refine below_set ?_ GE294.out) | exact HB.out)))); (case aL => have := LMc30.out; omega); intro v312 w33 ho hb hg hat; rw [← Ny311.out] at ho; have n0_ := Aside0.mk (blk_grown (g := gb294) (o := .cells #[.int .i64 t284, .int .i64 t285, .int .i64 t286, .int .i64 t287, .int .i64 t288, .int .i64 t289, .int .i64 t290, .int .i64 t291, .bool t292, .bool t293] 30 (0, 0)) (by (with_reducible repeat (first | refine blk_drewN ?_ _ | refine blk_drew ?_ | refine blk_alloc ?_ _)); exact BK294.out) hg (Kd.R_ne HO301.out BK294.out (by decide))); have n1_ := Aside0.mk (Kd.R_over' (by (with_reducible repeat (first | apply Kd.R_alloc | apply Kd.R_drewN | apply Kd.R_drew)); exact HO297.out) (Kd.R_typed (by (with_reducible repeat (first | apply Kd.R_alloc | apply Kd.R_drewN | apply Kd.R_drew)); exact HO301.out)) (by decide) hg); have n2_ := Aside0.mk (Kd.R_after (ok := (fun _ => True)) (by (with_reducible repeat (first | apply Kd.R_alloc | apply Kd.R_drewN | apply Kd.R_drew)); exact HO310.out) hg hat); have n3_ := Aside0.mk (hb); have n4_ := Aside0.mk (ho); clear BK294; clear HO297; clear HO310; clear HB; clear HO301; have BK294 := n0_; have HO297 := n1_; have HO310 := n2_; have HB := n3_; have HO313 := n4_; clear n0_ n1_ n2_ n3_ n4_; clear ho hb hg hat))
                          go_meet
                          case rel => exact ⟨_, (y311), (1), (100663296), (by first | rfl | (simp; done) | (simp [*]; done)), (by first | rfl | (simp; done) | (simp [*]; done)), H', ⟨by first | omega | exact Nat.le_refl _⟩, ⟨by (with_reducible repeat (first | apply Kd.R_alloc | apply Kd.R_drewN | apply Kd.R_drew)); exact Kd.R_mono HO313.out (fun _ hk => trivial)⟩, ⟨by (with_reducible repeat (first | refine blk_drewN ?_ _ | refine blk_drew ?_ | refine blk_alloc ?_ _)); exact BK294.out⟩, ⟨by repeat (first | (with_reducible first | exact HB.out | apply below_alloc | apply pw_below_drewN | apply below_drew1 | refine below_set ?_ GE294.out) | exact HB.out)⟩⟩
                        · rw [if_neg c30] at H
                          exact absurd H (by simp)
                      · rw [if_neg c29] at H
                        have c29b0 : ((rd y295 (ji6)) == 24) = false := beq_eq_false_iff_ne.mpr c29
                        have c29b1 : ((rd y295 (ji6)) != 24) = true := bne_iff_ne.mpr c29
                        (first | rw [c29b0] | (simp only [i64_w, i32_w]; rw [c29b0]) | skip)
                        have HC35 := Aside0.mk H
                        clear H
                        go_upto_if 53 with (fail)
                        go_cut [7, 8, 9, 53, 54] (fun v7 v8 v9 v53 v54 wc => ∃ (kq : Nat) (x7_34 : List (S34)) (x8_34 : Int) (x9_34 : Int), v8 = .int .i64 x8_34 ∧ v9 = .int .u32 x9_34 ∧ Aside0 (parallaxlaw10_FramingClauses.j1 kq a1 (rd y295 (ji6)) x7_34 x8_34 x9_34 t284 t285 t286 t287 t288 t289 t290 t291 t292 t293 = some r) ∧ Aside0 (kq ≤ k) ∧ Aside0 (Kd.R k34 34 wc w.heap.size (fun _ => True) v7 x7_34) ∧ Aside0 (wc.heap[gb294]? = some (.cells #[.int .i64 t284, .int .i64 t285, .int .i64 t286, .int .i64 t287, .int .i64 t288, .int .i64 t289, .int .i64 t290, .int .i64 t291, .bool t292, .bool t293] 30 (0, 0))) ∧ Aside0 (Below w.heap.size w wc))
                        case first =>
                          have H := HC35.out
                          clear HC35
                          by_cases c36 : (rd y295 (ji6)) = 19
                          · rw [if_pos c36] at H
                            have c36b0 : ((rd y295 (ji6)) == 19) = true := beq_iff_eq.mpr c36
                            have c36b1 : ((rd y295 (ji6)) != 19) = false := bne_eq_false_iff_eq.mpr c36
                            clear c36
                            (first | rw [c36b0] | (simp only [i64_w, i32_w]; rw [c36b0]) | skip)
                            by_cases c37 : y299.length < 4398046511104
                            · rw [if_pos c37] at H
                              have LMc37 := Aside0.mk c37
                              clear c37
                              obtain ⟨y314, hy314⟩ : ∃ y_ : List (S34), y_ = (y299 ++ [(⟨(⟨#[84, 114, 97, 110, 115, 102, 101, 114, 45, 69, 110, 99, 111, 100, 105, 110, 103]⟩ : ByteArray), (⟨#[98, 114]⟩ : ByteArray)⟩ : S34)]) := ⟨_, rfl⟩
                              replace H : (parallaxlaw10_FramingClauses.j1 k a1 (rd y295 (ji6)) y314 1 0 t284 t285 t286 t287 t288 t289 t290 t291 t292 t293) = some r := by first | (rw [hy314]; with_reducible exact H) | (have H2_ := (Option.bind_some _ _).symm.trans H; rw [hy314]; with_reducible exact H2_) | (have H2_ := (Option.bind_some _ _).symm.trans H; with_reducible exact H2_) | with_reducible exact H | (rw [hy314]; exact H) | exact H
                              have Ny314 := Aside0.mk hy314
                              clear hy314
                              have H' := Aside0.mk H
                              clear H
                              go_wp2_with (first | ((with_reducible refine gate_builtin (b := .append) (xs := #[.tmp 55, .tmp 57]) rfl ?_); at_builtin; refine Kd.R_append k34 (w0 := w) w.heap.size rfl (.tmp 55) (.tmp 57) 22 34 (.agg #[(.string ⟨#[]⟩), (.string ⟨#[]⟩)]) 32 rfl Tryd.underlying22 info34 rfl (by decide) (by omega) v300 y299 (⟨(⟨#[84, 114, 97, 110, 115, 102, 101, 114, 45, 69, 110, 99, 111, 100, 105, 110, 103]⟩ : ByteArray), (⟨#[98, 114]⟩ : ByteArray)⟩ : S34) [.string (⟨#[84, 114, 97, 110, 115, 102, 101, 114, 45, 69, 110, 99, 111, 100, 105, 110, 103]⟩ : ByteArray), .string (⟨#[98, 114]⟩ : ByteArray)] (fun _ => True) (fun _ => False) rfl rfl ?aP (fun _ hk => hk.elim) ?aF ?aO ?aB ?aS ?aL ?_; (case aP => exact k34_mkM _ _ _ (⟨(⟨#[84, 114, 97, 110, 115, 102, 101, 114, 45, 69, 110, 99, 111, 100, 105, 110, 103]⟩ : ByteArray), (⟨#[98, 114]⟩ : ByteArray)⟩ : S34)); (case aB => exact (by repeat (first | (with_reducible first | exact HB.out | apply below_alloc | apply pw_below_drewN | apply below_drew1 | refine below_set ?_ GE294.out) | exact HB.out))); (case aF => exact (fun _ _ => trivial)); (case aO => exact (by (with_reducible repeat (first | apply Kd.R_alloc | apply Kd.R_drewN | apply Kd.R_drew)); exact HO301.out)); (case aS => exact (below_size (by repeat (first | (with_reducible first | exact HB.out | apply below_alloc | apply pw_below_drewN | apply below_drew1 | refine below_set ?_ GE294.out) | exact HB.out)))); (case aL => have := LMc37.out; omega); intro v315 w38 ho hb hg hat; rw [← Ny314.out] at ho; have n0_ := Aside0.mk (blk_grown (g := gb294) (o := .cells #[.int .i64 t284, .int .i64 t285, .int .i64 t286, .int .i64 t287, .int .i64 t288, .int .i64 t289, .int .i64 t290, .int .i64 t291, .bool t292, .bool t293] 30 (0, 0)) (by (with_reducible repeat (first | refine blk_drewN ?_ _ | refine blk_drew ?_ | refine blk_alloc ?_ _)); exact BK294.out) hg (Kd.R_ne HO301.out BK294.out (by decide))); have n1_ := Aside0.mk (Kd.R_over' (by (with_reducible repeat (first | apply Kd.R_alloc | apply Kd.R_drewN | apply Kd.R_drew)); exact HO297.out) (Kd.R_typed (by (with_reducible repeat (first | apply Kd.R_alloc | apply Kd.R_drewN | apply Kd.R_drew)); exact HO301.out)) (by decide) hg); have n2_ := Aside0.mk (hb); have n3_ := Aside0.mk (ho); clear BK294; clear HO297; clear HB; clear HO301; have BK294 := n0_; have HO297 := n1_; have HB := n2_; have HO316 := n3_; clear n0_ n1_ n2_ n3_; clear ho hb hg hat))
                              go_meet
                              case rel => exact ⟨_, (y314), (1), (0), (by first | rfl | (simp; done) | (simp [*]; done)), (by first | rfl | (simp; done) | (simp [*]; done)), H', ⟨by first | omega | exact Nat.le_refl _⟩, ⟨by (with_reducible repeat (first | apply Kd.R_alloc | apply Kd.R_drewN | apply Kd.R_drew)); exact HO316.out⟩, ⟨by (with_reducible repeat (first | refine blk_drewN ?_ _ | refine blk_drew ?_ | refine blk_alloc ?_ _)); exact BK294.out⟩, ⟨by repeat (first | (with_reducible first | exact HB.out | apply below_alloc | apply pw_below_drewN | apply below_drew1 | refine below_set ?_ GE294.out) | exact HB.out)⟩⟩
                            · rw [if_neg c37] at H
                              exact absurd H (by simp)
                          · rw [if_neg c36] at H
                            have c36b0 : ((rd y295 (ji6)) == 19) = false := beq_eq_false_iff_ne.mpr c36
                            have c36b1 : ((rd y295 (ji6)) != 19) = true := bne_iff_ne.mpr c36
                            (first | rw [c36b0] | (simp only [i64_w, i32_w]; rw [c36b0]) | skip)
                            have HC39 := Aside0.mk H
                            clear H
                            go_upto_if 59 with (fail)
                            go_cut [7, 8, 9, 59, 60] (fun v7 v8 v9 v59 v60 wc => ∃ (kq : Nat) (x7_38 : List (S34)) (x8_38 : Int) (x9_38 : Int), v8 = .int .i64 x8_38 ∧ v9 = .int .u32 x9_38 ∧ Aside0 (parallaxlaw10_FramingClauses.j0 kq a1 (rd y295 (ji6)) x7_38 x8_38 x9_38 t284 t285 t286 t287 t288 t289 t290 t291 t292 t293 = some r) ∧ Aside0 (kq ≤ k) ∧ Aside0 (Kd.R k34 34 wc w.heap.size (fun _ => True) v7 x7_38) ∧ Aside0 (wc.heap[gb294]? = some (.cells #[.int .i64 t284, .int .i64 t285, .int .i64 t286, .int .i64 t287, .int .i64 t288, .int .i64 t289, .int .i64 t290, .int .i64 t291, .bool t292, .bool t293] 30 (0, 0))) ∧ Aside0 (Below w.heap.size w wc))
                            case first =>
                              have H := HC39.out
                              clear HC39
                              by_cases c40 : (rd y295 (ji6)) = 18
                              · rw [if_pos c40] at H
                                have c40b0 : ((rd y295 (ji6)) == 18) = true := beq_iff_eq.mpr c40
                                have c40b1 : ((rd y295 (ji6)) != 18) = false := bne_eq_false_iff_eq.mpr c40
                                clear c40
                                (first | rw [c40b0] | (simp only [i64_w, i32_w]; rw [c40b0]) | skip)
                                by_cases c41 : y299.length < 4398046511104
                                · rw [if_pos c41] at H
                                  have LMc41 := Aside0.mk c41
                                  clear c41
                                  obtain ⟨y317, hy317⟩ : ∃ y_ : List (S34), y_ = (y299 ++ [(⟨(⟨#[84, 114, 97, 110, 115, 102, 101, 114, 45, 69, 110, 99, 111, 100, 105, 110, 103]⟩ : ByteArray), (⟨#[98, 114, 44, 32, 99, 104, 117, 110, 107, 101, 100]⟩ : ByteArray)⟩ : S34)]) := ⟨_, rfl⟩
                                  replace H : (parallaxlaw10_FramingClauses.j0 k a1 (rd y295 (ji6)) y317 1 524288 t284 t285 t286 t287 t288 t289 t290 t291 t292 t293) = some r := by first | (rw [hy317]; with_reducible exact H) | (have H2_ := (Option.bind_some _ _).symm.trans H; rw [hy317]; with_reducible exact H2_) | (have H2_ := (Option.bind_some _ _).symm.trans H; with_reducible exact H2_) | with_reducible exact H | (rw [hy317]; exact H) | exact H
                                  have Ny317 := Aside0.mk hy317
                                  clear hy317
                                  have H' := Aside0.mk H
                                  clear H
                                  go_wp2_with (first | ((with_reducible refine gate_builtin (b := .append) (xs := #[.tmp 61, .tmp 63]) rfl ?_); at_builtin; refine Kd.R_append k34 (w0 := w) w.heap.size rfl (.tmp 61) (.tmp 63) 22 34 (.agg #[(.string ⟨#[]⟩), (.string ⟨#[]⟩)]) 32 rfl Tryd.underlying22 info34 rfl (by decide) (by omega) v300 y299 (⟨(⟨#[84, 114, 97, 110, 115, 102, 101, 114, 45, 69, 110, 99, 111, 100, 105, 110, 103]⟩ : ByteArray), (⟨#[98, 114, 44, 32, 99, 104, 117, 110, 107, 101, 100]⟩ : ByteArray)⟩ : S34) [.string (⟨#[84, 114, 97, 110, 115, 102, 101, 114, 45, 69, 110, 99, 111, 100, 105, 110, 103]⟩ : ByteArray), .string (⟨#[98, 114, 44, 32, 99, 104, 117, 110, 107, 101, 100]⟩ : ByteArray)] (fun _ => True) (fun _ => False) rfl rfl ?aP (fun _ hk => hk.elim) ?aF ?aO ?aB ?aS ?aL ?_; (case aP => exact k34_mkM _ _ _ (⟨(⟨#[84, 114, 97, 110, 115, 102, 101, 114, 45, 69, 110, 99, 111, 100, 105, 110, 103]⟩ : ByteArray), (⟨#[98, 114, 44, 32, 99, 104, 117, 110, 107, 101, 100]⟩ : ByteArray)⟩ : S34)); (case aB => exact (by repeat (first | (with_reducible first | exact HB.out | apply below_alloc | apply pw_below_drewN | apply below_drew1 | refine below_set ?_ GE294.out) | exact HB.out))); (case aF => exact (fun _ _ => trivial)); (case aO => exact (by (with_reducible repeat (first | apply Kd.R_alloc | apply Kd.R_drewN | apply Kd.R_drew)); exact HO301.out)); (case aS => exact (below_size (by repeat (first | (with_reducible first | exact HB.out | apply below_alloc | apply pw_below_drewN | apply below_drew1 | refine below_set ?_ GE294.out) | exact HB.out)))); (case aL => have := LMc41.out; omega); intro v318 w42 ho hb hg hat; rw [← Ny317.out] at ho; have n0_ := Aside0.mk (blk_grown (g := gb294) (o := .cells #[.int .i64 t284, .int .i64 t285, .int .i64 t286, .int .i64 t287, .int .i64 t288, .int .i64 t289, .int .i64 t290, .int .i64 t291, .bool t292, .bool t293] 30 (0, 0)) (by (with_reducible repeat (first | refine blk_drewN ?_ _ | refine blk_drew ?_ | refine blk_alloc ?_ _)); exact BK294.out) hg (Kd.R_ne HO301.out BK294.out (by decide))); have n1_ := Aside0.mk (Kd.R_over' (by (with_reducible repeat (first | apply Kd.R_alloc | apply Kd.R_drewN | apply Kd.R_drew)); exact HO297.out) (Kd.R_typed (by (with_reducible repeat (first | apply Kd.R_alloc | apply Kd.R_drewN | apply Kd.R_drew)); exact HO301.out)) (by decide) hg); have n2_ := Aside0.mk (hb); have n3_ := Aside0.mk (ho); clear BK294; clear HO297; clear HB; clear HO301; have BK294 := n0_; have HO297 := n1_; have HB := n2_; have HO319 := n3_; clear n0_ n1_ n2_ n3_; clear ho hb hg hat))
                                  go_meet
                                  case rel => exact ⟨_, (y317), (1), (524288), (by first | rfl | (simp; done) | (simp [*]; done)), (by first | rfl | (simp; done) | (simp [*]; done)), H', ⟨by first | omega | exact Nat.le_refl _⟩, ⟨by (with_reducible repeat (first | apply Kd.R_alloc | apply Kd.R_drewN | apply Kd.R_drew)); exact HO319.out⟩, ⟨by (with_reducible repeat (first | refine blk_drewN ?_ _ | refine blk_drew ?_ | refine blk_alloc ?_ _)); exact BK294.out⟩, ⟨by repeat (first | (with_reducible first | exact HB.out | apply below_alloc | apply pw_below_drewN | apply below_drew1 | refine below_set ?_ GE294.out) | exact HB.out)⟩⟩
                                · rw [if_neg c41] at H
                                  exact absurd H (by simp)
                              · rw [if_neg c40] at H
                                have c40b0 : ((rd y295 (ji6)) == 18) = false := beq_eq_false_iff_ne.mpr c40
                                have c40b1 : ((rd y295 (ji6)) != 18) = true := bne_iff_ne.mpr c40
                                (first | rw [c40b0] | (simp only [i64_w, i32_w]; rw [c40b0]) | skip)
                                by_cases c43 : y299.length < 4398046511104
                                · rw [if_pos c43] at H
                                  have LMc43 := Aside0.mk c43
                                  clear c43
                                  obtain ⟨y320, hy320⟩ : ∃ y_ : List (S34), y_ = (y299 ++ [(⟨(⟨#[84, 114, 97, 110, 115, 102, 101, 114, 45, 69, 110, 99, 111, 100, 105, 110, 103]⟩ : ByteArray), (⟨#[99, 104, 117, 110, 107, 101, 100]⟩ : ByteArray)⟩ : S34)]) := ⟨_, rfl⟩
                                  replace H : (parallaxlaw10_FramingClauses.j0 k a1 (rd y295 (ji6)) y320 0 0 t284 t285 t286 t287 t288 t289 t290 t291 t292 t293) = some r := by first | (rw [hy320]; with_reducible exact H) | (have H2_ := (Option.bind_some _ _).symm.trans H; rw [hy320]; with_reducible exact H2_) | (have H2_ := (Option.bind_some _ _).symm.trans H; with_reducible exact H2_) | with_reducible exact H | (rw [hy320]; exact H) | exact H
                                  have Ny320 := Aside0.mk hy320
                                  clear hy320
                                  have H' := Aside0.mk H
                                  clear H
                                  go_wp2_with (first | ((with_reducible refine gate_builtin (b := .append) (xs := #[.tmp 28, .tmp 30]) rfl ?_); at_builtin; refine Kd.R_append k34 (w0 := w) w.heap.size rfl (.tmp 28) (.tmp 30) 22 34 (.agg #[(.string ⟨#[]⟩), (.string ⟨#[]⟩)]) 32 rfl Tryd.underlying22 info34 rfl (by decide) (by omega) v300 y299 (⟨(⟨#[84, 114, 97, 110, 115, 102, 101, 114, 45, 69, 110, 99, 111, 100, 105, 110, 103]⟩ : ByteArray), (⟨#[99, 104, 117, 110, 107, 101, 100]⟩ : ByteArray)⟩ : S34) [.string (⟨#[84, 114, 97, 110, 115, 102, 101, 114, 45, 69, 110, 99, 111, 100, 105, 110, 103]⟩ : ByteArray), .string (⟨#[99, 104, 117, 110, 107, 101, 100]⟩ : ByteArray)] (fun _ => True) (fun _ => False) rfl rfl ?aP (fun _ hk => hk.elim) ?aF ?aO ?aB ?aS ?aL ?_; (case aP => exact k34_mkM _ _ _ (⟨(⟨#[84, 114, 97, 110, 115, 102, 101, 114, 45, 69, 110, 99, 111, 100, 105, 110, 103]⟩ : ByteArray), (⟨#[99, 104, 117, 110, 107, 101, 100]⟩ : ByteArray)⟩ : S34)); (case aB => exact (by repeat (first | (with_reducible first | exact HB.out | apply below_alloc | apply pw_below_drewN | apply below_drew1 | refine below_set ?_ GE294.out) | exact HB.out))); (case aF => exact (fun _ _ => trivial)); (case aO => exact (by (with_reducible repeat (first | apply Kd.R_alloc | apply Kd.R_drewN | apply Kd.R_drew)); exact HO301.out)); (case aS => exact (below_size (by repeat (first | (with_reducible first | exact HB.out | apply below_alloc | apply pw_below_drewN | apply below_drew1 | refine below_set ?_ GE294.out) | exact HB.out)))); (case aL => have := LMc43.out; omega); intro v321 w44 ho hb hg hat; rw [← Ny320.out] at ho; have n0_ := Aside0.mk (blk_grown (g := gb294) (o := .cells #[.int .i64 t284, .int .i64 t285, .int .i64 t286, .int .i64 t287, .int .i64 t288, .int .i64 t289, .int .i64 t290, .int .i64 t291, .bool t292, .bool t293] 30 (0, 0)) (by (with_reducible repeat (first | refine blk_drewN ?_ _ | refine blk_drew ?_ | refine blk_alloc ?_ _)); exact BK294.out) hg (Kd.R_ne HO301.out BK294.out (by decide))); have n1_ := Aside0.mk (Kd.R_over' (by (with_reducible repeat (first | apply Kd.R_alloc | apply Kd.R_drewN | apply Kd.R_drew)); exact HO297.out) (Kd.R_typed (by (with_reducible repeat (first | apply Kd.R_alloc | apply Kd.R_drewN | apply Kd.R_drew)); exact HO301.out)) (by decide) hg); have n2_ := Aside0.mk (hb); have n3_ := Aside0.mk (ho); clear BK294; clear HO297; clear HB; clear HO301; have BK294 := n0_; have HO297 := n1_; have HB := n2_; have HO322 := n3_; clear n0_ n1_ n2_ n3_; clear ho hb hg hat))
                                  go_meet
                                  case rel => exact ⟨_, (y320), (0), (0), (by first | rfl | (simp; done) | (simp [*]; done)), (by first | rfl | (simp; done) | (simp [*]; done)), H', ⟨by first | omega | exact Nat.le_refl _⟩, ⟨by (with_reducible repeat (first | apply Kd.R_alloc | apply Kd.R_drewN | apply Kd.R_drew)); exact HO322.out⟩, ⟨by (with_reducible repeat (first | refine blk_drewN ?_ _ | refine blk_drew ?_ | refine blk_alloc ?_ _)); exact BK294.out⟩, ⟨by repeat (first | (with_reducible first | exact HB.out | apply below_alloc | apply pw_below_drewN | apply below_drew1 | refine below_set ?_ GE294.out) | exact HB.out)⟩⟩
                                · rw [if_neg c43] at H
                                  exact absurd H (by simp)
                            case rest =>
                              clear HC39
                              try clear c1
                              try clear q1
                              try clear c2
                              try clear p2
                              try clear q2
                              try clear hx2
                              try clear c3
                              try clear c4
                              try clear c5
                              try clear c7
                              try clear c7b0
                              try clear c8
                              try clear c8b0
                              try clear c19
                              try clear c19b0
                              try clear c19b1
                              try clear c21
                              try clear c21b0
                              try clear c21b1
                              try clear c22
                              try clear c24
                              try clear c25
                              try clear c25b0
                              try clear c25b1
                              try clear c26
                              try clear c29
                              try clear c29b0
                              try clear c29b1
                              try clear p29
                              try clear q29
                              try clear hx29
                              try clear c30
                              try clear c36
                              try clear c36b0
                              try clear c36b1
                              try clear c37
                              try clear c40
                              try clear c40b0
                              try clear c40b1
                              try clear c41
                              try clear c43
                              try clear hcz13_0
                              try clear hcz13_1
                              try clear hcz13_2
                              try clear hcz13_3
                              try clear hcz13_4
                              try clear hcz13_5
                              try clear hcz13_6
                              try clear hcz13_7
                              try clear hcz13_8
                              try clear hcz13_9
                              try clear hfz13_0
                              try clear hfz13_1
                              try clear hfz13_2
                              try clear hfz13_3
                              try clear hfz13_4
                              try clear hfz13_5
                              try clear hfz13_6
                              try clear hfz13_7
                              try clear hfz13_8
                              try clear hfz13_9
                              try clear hx298_0
                              try clear p298
                              try clear q298
                              obtain ⟨kq, x7_38, x8_38, x9_38, rfl, rfl, HA, HJ38, HO_7, BK294, HB⟩ := hcut
                              cases kq with
                              | zero => exact absurd HA.out (by simp [parallaxlaw10_FramingClauses.j0])
                              | succ kj38 =>
                                have H := HA.out
                                clear HA
                                simp only [parallaxlaw10_FramingClauses.j0] at H
                                have H' := Aside0.mk H
                                clear H
                                go_wp2
                                go_meet
                                case rel => exact ⟨_, (x7_38), (x8_38), (x9_38), (by first | rfl | (simp; done) | (simp [*]; done)), (by first | rfl | (simp; done) | (simp [*]; done)), H', ⟨by have := HJ38.out; first | omega | exact Nat.le_refl _⟩, ⟨by (with_reducible repeat (first | apply Kd.R_alloc | apply Kd.R_drewN | apply Kd.R_drew)); exact HO_7.out⟩, ⟨by (with_reducible repeat (first | refine blk_drewN ?_ _ | refine blk_drew ?_ | refine blk_alloc ?_ _)); exact BK294.out⟩, ⟨by repeat (first | (with_reducible first | exact HB.out | apply below_alloc | apply pw_below_drewN | apply below_drew1 | refine below_set ?_ GE294.out) | exact HB.out)⟩⟩
                        case rest =>
                          clear HC35
                          try clear c1
                          try clear q1
                          try clear c2
                          try clear p2
                          try clear q2
                          try clear hx2
                          try clear c3
                          try clear c4
                          try clear c5
                          try clear c7
                          try clear c7b0
                          try clear c8
                          try clear c8b0
                          try clear c19
                          try clear c19b0
                          try clear c19b1
                          try clear c21
                          try clear c21b0
                          try clear c21b1
                          try clear c22
                          try clear c24
                          try clear c25
                          try clear c25b0
                          try clear c25b1
                          try clear c26
                          try clear c29
                          try clear c29b0
                          try clear c29b1
                          try clear p29
                          try clear q29
                          try clear hx29
                          try clear c30
                          try clear c36
                          try clear c36b0
                          try clear c36b1
                          try clear c37
                          try clear c40
                          try clear c40b0
                          try clear c40b1
                          try clear c41
                          try clear c43
                          try clear hcz13_0
                          try clear hcz13_1
                          try clear hcz13_2
                          try clear hcz13_3
                          try clear hcz13_4
                          try clear hcz13_5
                          try clear hcz13_6
                          try clear hcz13_7
                          try clear hcz13_8
                          try clear hcz13_9
                          try clear hfz13_0
                          try clear hfz13_1
                          try clear hfz13_2
                          try clear hfz13_3
                          try clear hfz13_4
                          try clear hfz13_5
                          try clear hfz13_6
                          try clear hfz13_7
                          try clear hfz13_8
                          try clear hfz13_9
                          try clear hx298_0
                          try clear p2
                          try clear p29
                          try clear p298
                          try clear q1
                          try clear q2
                          try clear q29
                          try clear q298
                          obtain ⟨kq, x7_34, x8_34, x9_34, rfl, rfl, HA, HJ34, HO_7, BK294, HB⟩ := hcut
                          cases kq with
                          | zero => exact absurd HA.out (by simp [parallaxlaw10_FramingClauses.j1])
                          | succ kj34 =>
                            have H := HA.out
                            clear HA
                            simp only [parallaxlaw10_FramingClauses.j1] at H
                            have H' := Aside0.mk H
                            clear H
                            go_wp2
                            go_meet
                            case rel => exact ⟨_, (x7_34), (x8_34), (x9_34), (by first | rfl | (simp; done) | (simp [*]; done)), (by first | rfl | (simp; done) | (simp [*]; done)), H', ⟨by have := HJ34.out; first | omega | exact Nat.le_refl _⟩, ⟨by (with_reducible repeat (first | apply Kd.R_alloc | apply Kd.R_drewN | apply Kd.R_drew)); exact HO_7.out⟩, ⟨by (with_reducible repeat (first | refine blk_drewN ?_ _ | refine blk_drew ?_ | refine blk_alloc ?_ _)); exact BK294.out⟩, ⟨by repeat (first | (with_reducible first | exact HB.out | apply below_alloc | apply pw_below_drewN | apply below_drew1 | refine below_set ?_ GE294.out) | exact HB.out)⟩⟩
                    case rest =>
                      clear HC28
                      try clear c1
                      try clear q1
                      try clear c2
                      try clear p2
                      try clear q2
                      try clear hx2
                      try clear c3
                      try clear c4
                      try clear c5
                      try clear c7
                      try clear c7b0
                      try clear c8
                      try clear c8b0
                      try clear c19
                      try clear c19b0
                      try clear c19b1
                      try clear c21
                      try clear c21b0
                      try clear c21b1
                      try clear c22
                      try clear c24
                      try clear c25
                      try clear c25b0
                      try clear c25b1
                      try clear c26
                      try clear c29
                      try clear c29b0
                      try clear c29b1
                      try clear p29
                      try clear q29
                      try clear hx29
                      try clear c30
                      try clear c36
                      try clear c36b0
                      try clear c36b1
                      try clear c37
                      try clear c40
                      try clear c40b0
                      try clear c40b1
                      try clear c41
                      try clear c43
                      try clear hcz13_0
                      try clear hcz13_1
                      try clear hcz13_2
                      try clear hcz13_3
                      try clear hcz13_4
                      try clear hcz13_5
                      try clear hcz13_6
                      try clear hcz13_7
                      try clear hcz13_8
                      try clear hcz13_9
                      try clear hfz13_0
                      try clear hfz13_1
                      try clear hfz13_2
                      try clear hfz13_3
                      try clear hfz13_4
                      try clear hfz13_5
                      try clear hfz13_6
                      try clear hfz13_7
                      try clear hfz13_8
                      try clear hfz13_9
                      try clear hx298_0
                      try clear p2
                      try clear p29
                      try clear p298
                      try clear q1
                      try clear q2
                      try clear q29
                      try clear q298
                      obtain ⟨kq, x7_27, x8_27, x9_27, rfl, rfl, HA, HJ27, HO_7, BK294, HB⟩ := hcut
                      cases kq with
                      | zero => exact absurd HA.out (by simp [parallaxlaw10_FramingClauses.j2])
                      | succ kj27 =>
                        have H := HA.out
                        clear HA
                        simp only [parallaxlaw10_FramingClauses.j2] at H
                        have H' := Aside0.mk H
                        clear H
                        go_wp2
                        go_meet
                        case rel => exact ⟨_, (x7_27), (x8_27), (x9_27), (by first | rfl | (simp; done) | (simp [*]; done)), (by first | rfl | (simp; done) | (simp [*]; done)), H', ⟨by have := HJ27.out; first | omega | exact Nat.le_refl _⟩, ⟨by (with_reducible repeat (first | apply Kd.R_alloc | apply Kd.R_drewN | apply Kd.R_drew)); exact HO_7.out⟩, ⟨by (with_reducible repeat (first | refine blk_drewN ?_ _ | refine blk_drew ?_ | refine blk_alloc ?_ _)); exact BK294.out⟩, ⟨by repeat (first | (with_reducible first | exact HB.out | apply below_alloc | apply pw_below_drewN | apply below_drew1 | refine below_set ?_ GE294.out) | exact HB.out)⟩⟩
                case rest =>
                  clear HC24
                  try clear c1
                  try clear q1
                  try clear c2
                  try clear p2
                  try clear q2
                  try clear hx2
                  try clear c3
                  try clear c4
                  try clear c5
                  try clear c7
                  try clear c7b0
                  try clear c8
                  try clear c8b0
                  try clear c19
                  try clear c19b0
                  try clear c19b1
                  try clear c21
                  try clear c21b0
                  try clear c21b1
                  try clear c22
                  try clear c24
                  try clear c25
                  try clear c25b0
                  try clear c25b1
                  try clear c26
                  try clear c29
                  try clear c29b0
                  try clear c29b1
                  try clear p29
                  try clear q29
                  try clear hx29
                  try clear c30
                  try clear c36
                  try clear c36b0
                  try clear c36b1
                  try clear c37
                  try clear c40
                  try clear c40b0
                  try clear c40b1
                  try clear c41
                  try clear c43
                  try clear hcz13_0
                  try clear hcz13_1
                  try clear hcz13_2
                  try clear hcz13_3
                  try clear hcz13_4
                  try clear hcz13_5
                  try clear hcz13_6
                  try clear hcz13_7
                  try clear hcz13_8
                  try clear hcz13_9
                  try clear hfz13_0
                  try clear hfz13_1
                  try clear hfz13_2
                  try clear hfz13_3
                  try clear hfz13_4
                  try clear hfz13_5
                  try clear hfz13_6
                  try clear hfz13_7
                  try clear hfz13_8
                  try clear hfz13_9
                  try clear hx298_0
                  try clear p2
                  try clear p29
                  try clear p298
                  try clear q1
                  try clear q2
                  try clear q29
                  try clear q298
                  obtain ⟨kq, x7_23, x8_23, x9_23, rfl, rfl, HA, HJ23, HO_7, BK294, HB⟩ := hcut
                  cases kq with
                  | zero => exact absurd HA.out (by simp [parallaxlaw10_FramingClauses.j3])
                  | succ kj23 =>
                    have H := HA.out
                    clear HA
                    simp only [parallaxlaw10_FramingClauses.j3] at H
                    have H' := Aside0.mk H
                    clear H
                    go_wp2
                    go_meet
                    case rel => exact ⟨_, (x7_23), (x8_23), (x9_23), (by first | rfl | (simp; done) | (simp [*]; done)), (by first | rfl | (simp; done) | (simp [*]; done)), H', ⟨by have := HJ23.out; first | omega | exact Nat.le_refl _⟩, ⟨by (with_reducible repeat (first | apply Kd.R_alloc | apply Kd.R_drewN | apply Kd.R_drew)); exact HO_7.out⟩, ⟨by (with_reducible repeat (first | refine blk_drewN ?_ _ | refine blk_drew ?_ | refine blk_alloc ?_ _)); exact BK294.out⟩, ⟨by repeat (first | (with_reducible first | exact HB.out | apply below_alloc | apply pw_below_drewN | apply below_drew1 | refine below_set ?_ GE294.out) | exact HB.out)⟩⟩
            case rest =>
              clear HC20
              try clear c1
              try clear q1
              try clear c2
              try clear p2
              try clear q2
              try clear hx2
              try clear c3
              try clear c4
              try clear c5
              try clear c7
              try clear c7b0
              try clear c8
              try clear c8b0
              try clear c19
              try clear c19b0
              try clear c19b1
              try clear c21
              try clear c21b0
              try clear c21b1
              try clear c22
              try clear c24
              try clear c25
              try clear c25b0
              try clear c25b1
              try clear c26
              try clear c29
              try clear c29b0
              try clear c29b1
              try clear p29
              try clear q29
              try clear hx29
              try clear c30
              try clear c36
              try clear c36b0
              try clear c36b1
              try clear c37
              try clear c40
              try clear c40b0
              try clear c40b1
              try clear c41
              try clear c43
              try clear hcz13_0
              try clear hcz13_1
              try clear hcz13_2
              try clear hcz13_3
              try clear hcz13_4
              try clear hcz13_5
              try clear hcz13_6
              try clear hcz13_7
              try clear hcz13_8
              try clear hcz13_9
              try clear hfz13_0
              try clear hfz13_1
              try clear hfz13_2
              try clear hfz13_3
              try clear hfz13_4
              try clear hfz13_5
              try clear hfz13_6
              try clear hfz13_7
              try clear hfz13_8
              try clear hfz13_9
              try clear hx298_0
              try clear p2
              try clear p29
              try clear p298
              try clear q1
              try clear q2
              try clear q29
              try clear q298
              obtain ⟨kq, x7_19, x8_19, x9_19, rfl, rfl, HA, HJ19, HO_7, BK294, HB⟩ := hcut
              cases kq with
              | zero => exact absurd HA.out (by simp [parallaxlaw10_FramingClauses.j4])
              | succ kj19 =>
                have H := HA.out
                clear HA
                simp only [parallaxlaw10_FramingClauses.j4] at H
                have H' := Aside0.mk H
                clear H
                go_wp2
                go_meet
                case rel => exact ⟨_, (x7_19), (x8_19), (x9_19), (by first | rfl | (simp; done) | (simp [*]; done)), (by first | rfl | (simp; done) | (simp [*]; done)), H', ⟨by have := HJ19.out; first | omega | exact Nat.le_refl _⟩, ⟨by (with_reducible repeat (first | apply Kd.R_alloc | apply Kd.R_drewN | apply Kd.R_drew)); exact HO_7.out⟩, ⟨by (with_reducible repeat (first | refine blk_drewN ?_ _ | refine blk_drew ?_ | refine blk_alloc ?_ _)); exact BK294.out⟩, ⟨by repeat (first | (with_reducible first | exact HB.out | apply below_alloc | apply pw_below_drewN | apply below_drew1 | refine below_set ?_ GE294.out) | exact HB.out)⟩⟩
        case rest =>
          clear HC9
          try clear c1
          try clear q1
          try clear c2
          try clear p2
          try clear q2
          try clear hx2
          try clear c3
          try clear c4
          try clear c5
          try clear c7
          try clear c7b0
          try clear c8
          try clear c8b0
          try clear c19
          try clear c19b0
          try clear c19b1
          try clear c21
          try clear c21b0
          try clear c21b1
          try clear c22
          try clear c24
          try clear c25
          try clear c25b0
          try clear c25b1
          try clear c26
          try clear c29
          try clear c29b0
          try clear c29b1
          try clear p29
          try clear q29
          try clear hx29
          try clear c30
          try clear c36
          try clear c36b0
          try clear c36b1
          try clear c37
          try clear c40
          try clear c40b0
          try clear c40b1
          try clear c41
          try clear c43
          try clear hcz13_0
          try clear hcz13_1
          try clear hcz13_2
          try clear hcz13_3
          try clear hcz13_4
          try clear hcz13_5
          try clear hcz13_6
          try clear hcz13_7
          try clear hcz13_8
          try clear hcz13_9
          try clear hfz13_0
          try clear hfz13_1
          try clear hfz13_2
          try clear hfz13_3
          try clear hfz13_4
          try clear hfz13_5
          try clear hfz13_6
          try clear hfz13_7
          try clear hfz13_8
          try clear hfz13_9
          try clear hx298_0
          try clear p2
          try clear p29
          try clear p298
          try clear q1
          try clear q2
          try clear q29
          try clear q298
          obtain ⟨kq, x7_8, x8_8, x9_8, rfl, rfl, HA, HJ8, HO_7, BK294, HB⟩ := hcut
          cases kq with
          | zero => exact absurd HA.out (by simp [parallaxlaw10_FramingClauses.j5])
          | succ kj8 =>
            have H := HA.out
            clear HA
            simp only [parallaxlaw10_FramingClauses.j5] at H
            by_cases c45 : 0 ≤ (rd y295 (ji6))
            · rw [if_pos c45] at H
              have c45b0 := eq_true c45
              have c45b1 : decide (0 ≤ (rd y295 (ji6))) = true := decide_eq_true c45
              clear c45
              obtain ⟨ji46, hji46⟩ : ∃ j_ : Int, (shl .u32 1 (rd y295 (ji6))) = j_ := ⟨_, rfl⟩
              have hji46s := (Mark.shl1_spell (rd y295 (ji6))).trans hji46
              replace H : ((framing_Decide.f kj8 (Go.bits .andNot .u32 (Go.bits .andNot .u32 (Go.bits .and .u32 a1 1073741823) (ji46)) x9_8) t284 t285 t286 t287 t288 t289 t290 t291 t292 t293 x8_8 x7_8).bind fun bt323 => ((framing_Decide.f kj8 (Go.bits .or .u32 (Go.bits .andNot .u32 (Go.bits .andNot .u32 (Go.bits .and .u32 a1 1073741823) (ji46)) x9_8) (ji46)) t284 t285 t286 t287 t288 t289 t290 t291 t292 t293 x8_8 x7_8).bind fun bt327 => (if (rd y295 (ji6)) = 23 then (parallaxlaw10_FramingClauses.j6 kj8 (rd y295 (ji6)) bt323.2.2 bt327.2.2 0 1 true bt327.1 bt327.2.1) else (parallaxlaw10_FramingClauses.j6 kj8 (rd y295 (ji6)) bt323.2.2 bt327.2.2 0 1 ((rd y295 (ji6)) == 24) bt327.1 bt327.2.1)))) = some r := by first | (rw [hji46] at H; exact H) | (simp only [hji46] at H ⊢; exact H)
              have hji46_ : (IntKind.u32.wrap (1 * 2 ^ min (rd y295 (ji6)).toNat 32)) = ji46 := hji46
              have hji46z : (rd y295 (ji6)) ≤ 32 → (IntKind.u32.wrap (1 * 2 ^ (rd y295 (ji6)).toNat)) = ji46 := shl_small hji46
              have hji46u : (IntKind.u32.wrap (2 ^ min (rd y295 (ji6)).toNat 32)) = ji46 := by have h_ := hji46_; rw [Int.one_mul] at h_; exact h_
              have hji46v : (rd y295 (ji6)) ≤ 32 → (IntKind.u32.wrap (2 ^ (rd y295 (ji6)).toNat)) = ji46 := fun hle_ => by have h_ := hji46z hle_; rw [Int.one_mul] at h_; exact h_
              replace H := Option.bind_eq_some_iff.mp H
              obtain ⟨⟨t323, t324, t325⟩, A470, H⟩ := H
              (try dsimp only at H)
              have A47 := Aside0.mk A470
              clear A470
              have c48b0 := eq_true (of_decide_eq_true (by first | (with_reducible assumption) | assumption) : 0 ≤ (rd y295 (ji6)))
              replace H := Option.bind_eq_some_iff.mp H
              obtain ⟨⟨t327, t328, t329⟩, A500, H⟩ := H
              (try dsimp only at H)
              have A50 := Aside0.mk A500
              clear A500
              have HC51 := Aside0.mk H
              clear H
              have hcz52_0 : wc.cell? ⟨gb294, 0, none⟩ = some (.int .i64 t284) := (blk_cell BK294.out 0).trans rfl
              have hcz52_1 : wc.cell? ⟨gb294, 1, none⟩ = some (.int .i64 t285) := (blk_cell BK294.out 1).trans rfl
              have hcz52_2 : wc.cell? ⟨gb294, 2, none⟩ = some (.int .i64 t286) := (blk_cell BK294.out 2).trans rfl
              have hcz52_3 : wc.cell? ⟨gb294, 3, none⟩ = some (.int .i64 t287) := (blk_cell BK294.out 3).trans rfl
              have hcz52_4 : wc.cell? ⟨gb294, 4, none⟩ = some (.int .i64 t288) := (blk_cell BK294.out 4).trans rfl
              have hcz52_5 : wc.cell? ⟨gb294, 5, none⟩ = some (.int .i64 t289) := (blk_cell BK294.out 5).trans rfl
              have hcz52_6 : wc.cell? ⟨gb294, 6, none⟩ = some (.int .i64 t290) := (blk_cell BK294.out 6).trans rfl
              have hcz52_7 : wc.cell? ⟨gb294, 7, none⟩ = some (.int .i64 t291) := (blk_cell BK294.out 7).trans rfl
              have hcz52_8 : wc.cell? ⟨gb294, 8, none⟩ = some (.bool t292) := (blk_cell BK294.out 8).trans rfl
              have hcz52_9 : wc.cell? ⟨gb294, 9, none⟩ = some (.bool t293) := (blk_cell BK294.out 9).trans rfl
              have hfz52_0 := blk_frozen BK294.out 0
              have hfz52_1 := blk_frozen BK294.out 1
              have hfz52_2 := blk_frozen BK294.out 2
              have hfz52_3 := blk_frozen BK294.out 3
              have hfz52_4 := blk_frozen BK294.out 4
              have hfz52_5 := blk_frozen BK294.out 5
              have hfz52_6 := blk_frozen BK294.out 6
              have hfz52_7 := blk_frozen BK294.out 7
              have hfz52_8 := blk_frozen BK294.out 8
              have hfz52_9 := blk_frozen BK294.out 9
              obtain ⟨Ao53, co53, eo53⟩ := Kd.R_slice HO_7.out
              subst eo53
              try go_wp2_with (first | ((with_reducible refine gate_callee (f := 14) rfl ?_); refine goesL_ (some 77) rfl rfl Tryd.func14 (by kernel_rfl) rfl #[.int .u32 (Go.bits .andNot .u32 (Go.bits .andNot .u32 (Go.bits .and .u32 a1 1073741823) (ji46)) x9_8), .agg #[.int .i64 t284, .int .i64 t285, .int .i64 t286, .int .i64 t287, .int .i64 t288, .int .i64 t289, .int .i64 t290, .int .i64 t291, .bool t292, .bool t293], .int .i64 x8_8, .slice Ao53 x7_8.length co53] rfl (by (try simp only [List.map_toArray, List.map_cons, List.map_nil]); first | done | (simp only [hji46]; rfl) | rfl | (simp only [List.length_drop, List.length_take]; rfl)) ?_; (with_reducible refine (framing_Decide.calls kj8 (Go.bits .andNot .u32 (Go.bits .andNot .u32 (Go.bits .and .u32 a1 1073741823) (ji46)) x9_8) t284 t285 t286 t287 t288 t289 t290 t291 t292 t293 x8_8 _ _ x7_8 t323 t324 t325 _ ?side1 ?side2 A47.out).mono ?_); (case side1 => repeat (first | exact (Kd.R_reads' HO_7.out).2.2 | (with_reducible refine Kd.C_alloc ?_ _) | (with_reducible refine Kd.C_drewN ?_ _) | (with_reducible refine Kd.C_drew ?_))); (case side2 => exact (Kd.R_reads' HO_7.out).2.1); rintro e w54 ⟨rfl, hb⟩; refine ⟨_, rfl, ?_⟩; have n0_ := Aside0.mk (Kd.R_below (by (with_reducible repeat (first | apply Kd.R_alloc | apply Kd.R_drewN | apply Kd.R_drew)); exact HO_7.out) hb); have n1_ := Aside0.mk (blk_below (g := gb294) (o := .cells #[.int .i64 t284, .int .i64 t285, .int .i64 t286, .int .i64 t287, .int .i64 t288, .int .i64 t289, .int .i64 t290, .int .i64 t291, .bool t292, .bool t293] 30 (0, 0)) (by (with_reducible repeat (first | refine blk_drewN ?_ _ | refine blk_drew ?_ | refine blk_alloc ?_ _)); exact BK294.out) hb); have n2_ := Aside0.mk (below_step (by repeat (first | (with_reducible first | exact HB.out | apply below_alloc | apply pw_below_drewN | apply below_drew1 | refine below_set ?_ GE294.out) | exact HB.out)) hb); clear HO_7; clear BK294; clear HB; have HO_7 := n0_; have BK294 := n1_; have HB := n2_; clear n0_ n1_ n2_; (try clear hb); (try clear hb2); (try clear hk); (try clear hi)) | ((with_reducible refine gate_dst (N := 11) rfl ?_); refine box_event ?hg (N := 11) ?hd (cs := #[.int .i64 0, .int .i64 0]) (t := 40) ?hr ?_; (case hd => rfl); (case hg => rfl); (case hr => first | (go_simp; done) | (go_simp; rfl)); intro gb326 hg w55 hbox hb; have n0_ := Aside0.mk (Kd.R_below (by (with_reducible repeat (first | apply Kd.R_alloc | apply Kd.R_drewN | apply Kd.R_drew)); exact HO_7.out) hb); have n1_ := Aside0.mk (blk_below (g := gb294) (o := .cells #[.int .i64 t284, .int .i64 t285, .int .i64 t286, .int .i64 t287, .int .i64 t288, .int .i64 t289, .int .i64 t290, .int .i64 t291, .bool t292, .bool t293] 30 (0, 0)) (by (with_reducible repeat (first | refine blk_drewN ?_ _ | refine blk_drew ?_ | refine blk_alloc ?_ _)); exact BK294.out) hb); have n2_ := Aside0.mk (below_step (by repeat (first | (with_reducible first | exact HB.out | apply below_alloc | apply pw_below_drewN | apply below_drew1 | refine below_set ?_ GE294.out) | exact HB.out)) hb); have n3_ := Aside0.mk (hbox); have n4_ := Aside0.mk ((by rw [hg]; exact (below_size (by repeat (first | (with_reducible first | exact HB.out | apply below_alloc | apply pw_below_drewN | apply below_drew1 | refine below_set ?_ GE294.out) | exact HB.out))) : w.heap.size ≤ gb326)); have n5_ := Aside0.mk ((by rw [hg]; exact (below_size (by repeat (first | (with_reducible first | exact HB.out | apply below_alloc | apply pw_below_drewN | apply below_drew1 | refine below_set ?_ GE294.out) | exact HB.out))) : w.heap.size ≤ gb326)); have n6_ := Aside0.mk ((by rw [hg]; exact Nat.ne_of_lt (blk_lt (g := gb294) (o := .cells #[.int .i64 t284, .int .i64 t285, .int .i64 t286, .int .i64 t287, .int .i64 t288, .int .i64 t289, .int .i64 t290, .int .i64 t291, .bool t292, .bool t293] 30 (0, 0)) (by (with_reducible repeat (first | refine blk_drewN ?_ _ | refine blk_drew ?_ | refine blk_alloc ?_ _)); exact BK294.out)) : gb294 ≠ gb326)); have n7_ := Aside0.mk ((by rw [hg]; exact Nat.ne_of_gt (blk_lt (g := gb294) (o := .cells #[.int .i64 t284, .int .i64 t285, .int .i64 t286, .int .i64 t287, .int .i64 t288, .int .i64 t289, .int .i64 t290, .int .i64 t291, .bool t292, .bool t293] 30 (0, 0)) (by (with_reducible repeat (first | refine blk_drewN ?_ _ | refine blk_drew ?_ | refine blk_alloc ?_ _)); exact BK294.out)) : gb326 ≠ gb294)); clear HO_7; clear BK294; clear HB; have HO_7 := n0_; have BK294 := n1_; have HB := n2_; have BK326 := n3_; have GW326 := n4_; have GE326 := n5_; have NB294_326 := n6_; have NB326_294 := n7_; clear n0_ n1_ n2_ n3_ n4_ n5_ n6_ n7_; clear hb hbox hg; have hnb56 := NB326_294.out; have hnc56 := NB294_326.out; have hcz57_0 : w55.cell? ⟨gb326, 0, none⟩ = some (.int .i64 0) := (blk_cell BK326.out 0).trans rfl; have hcz57_1 : w55.cell? ⟨gb326, 1, none⟩ = some (.int .i64 0) := (blk_cell BK326.out 1).trans rfl; have hfz57_0 := blk_frozen BK326.out 0; have hfz57_1 := blk_frozen BK326.out 1))
              have n0_ : Aside0 (Kd.R k34 34 ((w55.setCell ⟨gb326, 0, none⟩ (.int .i64 t323)).setCell ⟨gb326, 1, none⟩ (.int .i64 t324)) w.heap.size (fun _ => True) (.slice Ao53 x7_8.length co53) x7_8) := ⟨by (with_reducible repeat (first | apply Kd.R_alloc | apply Kd.R_drewN | apply Kd.R_drew)); exact Kd.R_mono (Kd.R_far (p := ⟨gb326, 1, none⟩) (Kd.R_far (p := ⟨gb326, 0, none⟩) (Kd.R_types HO_7.out BK326.out (by decide)) (fun _ hk => (by first | exact hk.2 | exact True.intro)) (.int .i64 t323)) (fun _ hk => (by first | exact hk.2 | exact True.intro)) (.int .i64 t324)) (fun _ hk => trivial)⟩
              have n1_ : Aside0 (((w55.setCell ⟨gb326, 0, none⟩ (.int .i64 t323)).setCell ⟨gb326, 1, none⟩ (.int .i64 t324)).heap[gb294]? = some (.cells #[.int .i64 t284, .int .i64 t285, .int .i64 t286, .int .i64 t287, .int .i64 t288, .int .i64 t289, .int .i64 t290, .int .i64 t291, .bool t292, .bool t293] 30 (0, 0))) := ⟨by (with_reducible repeat (first | refine blk_drewN ?_ _ | refine blk_drew ?_ | refine blk_alloc ?_ _)); refine blk_far ?_ NB294_326.out _; (with_reducible repeat (first | refine blk_drewN ?_ _ | refine blk_drew ?_ | refine blk_alloc ?_ _)); refine blk_far ?_ NB294_326.out _; (with_reducible repeat (first | refine blk_drewN ?_ _ | refine blk_drew ?_ | refine blk_alloc ?_ _)); exact BK294.out⟩
              have n2_ : Aside0 (((w55.setCell ⟨gb326, 0, none⟩ (.int .i64 t323)).setCell ⟨gb326, 1, none⟩ (.int .i64 t324)).heap[gb326]? = some (.cells #[.int .i64 t323, .int .i64 t324] 40 (0, 0))) := ⟨by (with_reducible repeat (first | refine blk_drewN ?_ _ | refine blk_drew ?_ | refine blk_alloc ?_ _)); refine blk_put (cs := #[.int .i64 t323, .int .i64 0]) ?_ 1 _ rfl; (with_reducible repeat (first | refine blk_drewN ?_ _ | refine blk_drew ?_ | refine blk_alloc ?_ _)); refine blk_put (cs := #[.int .i64 0, .int .i64 0]) ?_ 0 _ rfl; (with_reducible repeat (first | refine blk_drewN ?_ _ | refine blk_drew ?_ | refine blk_alloc ?_ _)); exact BK326.out⟩
              have n3_ : Aside0 (Below w.heap.size w ((w55.setCell ⟨gb326, 0, none⟩ (.int .i64 t323)).setCell ⟨gb326, 1, none⟩ (.int .i64 t324))) := ⟨by repeat (first | (with_reducible first | exact HB.out | apply below_alloc | apply pw_below_drewN | apply below_drew1 | refine below_set ?_ GE294.out | refine below_set ?_ GE326.out) | exact HB.out)⟩
              (try clear HO_7)
              (try clear BK294)
              (try clear BK326)
              (try clear HB)
              generalize ((w55.setCell ⟨gb326, 0, none⟩ (.int .i64 t323)).setCell ⟨gb326, 1, none⟩ (.int .i64 t324)) = w58 at n0_ n1_ n2_ n3_ ⊢
              have HO_7 := n0_
              have BK294 := n1_
              have BK326 := n2_
              have HB := n3_
              clear n0_ n1_ n2_ n3_
              have n0_ := Aside0.mk (Kd.R_drew HO_7.out)
              have n1_ := Aside0.mk (blk_drew BK294.out)
              have n2_ := Aside0.mk (blk_drew BK326.out)
              have n3_ := Aside0.mk (below_drew1 HB.out)
              clear HO_7
              clear BK294
              clear BK326
              clear HB
              have HO_7 := n0_
              have BK294 := n1_
              have BK326 := n2_
              have HB := n3_
              clear n0_ n1_ n2_ n3_
              refine start_ (n := 14) (S := fun w' => w'.cell? ⟨gb294, 0, none⟩ = some (.int .i64 t284) ∧ w'.cell? ⟨gb294, 1, none⟩ = some (.int .i64 t285) ∧ w'.cell? ⟨gb294, 2, none⟩ = some (.int .i64 t286) ∧ w'.cell? ⟨gb294, 3, none⟩ = some (.int .i64 t287) ∧ w'.cell? ⟨gb294, 4, none⟩ = some (.int .i64 t288) ∧ w'.cell? ⟨gb294, 5, none⟩ = some (.int .i64 t289) ∧ w'.cell? ⟨gb294, 6, none⟩ = some (.int .i64 t290) ∧ w'.cell? ⟨gb294, 7, none⟩ = some (.int .i64 t291) ∧ w'.cell? ⟨gb294, 8, none⟩ = some (.bool t292) ∧ w'.cell? ⟨gb294, 9, none⟩ = some (.bool t293)) (ds := []) #[false, false, false, false, false, false, false, false, false, false, false, false, false, false] (by kernel_rfl) rfl rfl ⟨(blk_cell BK294.out 0).trans rfl, (blk_cell BK294.out 1).trans rfl, (blk_cell BK294.out 2).trans rfl, (blk_cell BK294.out 3).trans rfl, (blk_cell BK294.out 4).trans rfl, (blk_cell BK294.out 5).trans rfl, (blk_cell BK294.out 6).trans rfl, (blk_cell BK294.out 7).trans rfl, (blk_cell BK294.out 8).trans rfl, (blk_cell BK294.out 9).trans rfl⟩ (fun hHeld => ?_); refine with_tabW parallaxlaw10_FramingClauses.tab27 parallaxlaw10_FramingClauses.bits27 (fun HT_ HW_ => ?_)
              generalize w58.drew = w59 at HO_7 BK294 BK326 HB hHeld ⊢
              refine pure_ (i := 0) (N := some 81) (v := ?_) (a' := ?_) #[true, false, false, false, false, false, false, false, false, false, false, false, false, false] rfl rfl (any_of HT_.out (by kernel_rfl)) (fun _ _ _ h => h) (Or.inl ⟨by rfl, ?_⟩) ?_ ?_
              rotate_left
              · intro w'
                go_simp
                with_reducible rfl
              rotate_left
              · simp only [Act.put, List.setIfInBounds_toArray, List.set_cons_zero, List.set_cons_succ, i64_w, i32_w]
                rfl
              refine pure_ (i := 1) (N := some 82) (v := ?_) (a' := ?_) #[true, true, false, false, false, false, false, false, false, false, false, false, false, false] rfl rfl (any_of HT_.out (by kernel_rfl)) (fun _ _ _ h => h) (Or.inl ⟨by rfl, ?_⟩) ?_ ?_
              rotate_left
              · intro w'
                go_simp
                with_reducible rfl
              rotate_left
              · simp only [Act.put, List.setIfInBounds_toArray, List.set_cons_zero, List.set_cons_succ, i64_w, i32_w]
                rfl
              refine pure_ (i := 2) (N := some 83) (v := ?_) (a' := ?_) #[true, true, true, false, false, false, false, false, false, false, false, false, false, false] rfl rfl (any_of HT_.out (by kernel_rfl)) (fun _ _ _ h => h) (Or.inl ⟨by rfl, ?_⟩) ?_ ?_
              rotate_left
              · intro w'
                go_simp
                with_reducible rfl
              rotate_left
              · simp only [Act.put, List.setIfInBounds_toArray, List.set_cons_zero, List.set_cons_succ, i64_w, i32_w]
                rfl
              refine pure_ (i := 3) (N := some 84) (v := ?_) (a' := ?_) #[true, true, true, true, false, false, false, false, false, false, false, false, false, false] rfl rfl (any_of HT_.out (by kernel_rfl)) (fun _ _ _ h => h) (Or.inl ⟨by rfl, ?_⟩) ?_ ?_
              rotate_left
              · intro w'
                go_simp
                with_reducible rfl
              rotate_left
              · simp only [Act.put, List.setIfInBounds_toArray, List.set_cons_zero, List.set_cons_succ, i64_w, i32_w]
                rfl
              refine pure_ (i := 5) (N := some 86) (v := ?_) (a' := ?_) #[true, true, true, true, false, true, false, false, false, false, false, false, false, false] rfl rfl (any_of HT_.out (by kernel_rfl)) (fun _ _ _ h => h) (Or.inl ⟨by rfl, ?_⟩) ?_ ?_
              rotate_left
              · intro w'
                go_simp
                with_reducible rfl
              rotate_left
              · simp only [Act.put, List.setIfInBounds_toArray, List.set_cons_zero, List.set_cons_succ, i64_w, i32_w]
                rfl
              refine pure_ (i := 6) (N := some 87) (v := ?_) (a' := ?_) #[true, true, true, true, false, true, true, false, false, false, false, false, false, false] rfl rfl (any_of HT_.out (by kernel_rfl)) (fun _ _ _ h => h) (Or.inl ⟨by rfl, ?_⟩) ?_ ?_
              rotate_left
              · intro w'
                go_simp
                with_reducible rfl
              rotate_left
              · simp only [Act.put, List.setIfInBounds_toArray, List.set_cons_zero, List.set_cons_succ, i64_w, i32_w]
                rfl
              refine take_ (i := 4) (N := some 85) (v := ?_) (a' := ?_) #[true, true, true, true, true, true, true, false, false, false, false, false, false, false] rfl rfl (take_ofW HT_.out HW_.out (by kernel_rfl)) (fun _ _ _ h => h) (Or.inl ⟨by rfl, ?_⟩) hHeld ?_ ?_
              rotate_left
              · rintro w' ⟨s0, s1, s2, s3, s4, s5, s6, s7, s8, s9⟩
                go_simp
                with_reducible rfl
              rotate_left
              · simp only [Act.put, List.setIfInBounds_toArray, List.set_cons_zero, List.set_cons_succ, i64_w, i32_w]
                rfl
              refine join_ (σ := Nat) 2 #[true, true, true, true, true, true, true, true, true, true, true, true, false, false] (fun s_ => [(88, .tuple #[.agg #[.int .i64 t327, .int .i64 t328], .int .i64 t329]), (13, .pointer (some ⟨s_, 0, none⟩)), (80, .tuple #[.agg #[.int .i64 t327, .int .i64 t328], .int .i64 t329]), (89, .agg #[.int .i64 t327, .int .i64 t328]), (90, .int .i64 t329)]) (fun s_ w' => (w'.cell? ⟨gb294, 0, none⟩ = some (.int .i64 t284) ∧ w'.cell? ⟨gb294, 1, none⟩ = some (.int .i64 t285) ∧ w'.cell? ⟨gb294, 2, none⟩ = some (.int .i64 t286) ∧ w'.cell? ⟨gb294, 3, none⟩ = some (.int .i64 t287) ∧ w'.cell? ⟨gb294, 4, none⟩ = some (.int .i64 t288) ∧ w'.cell? ⟨gb294, 5, none⟩ = some (.int .i64 t289) ∧ w'.cell? ⟨gb294, 6, none⟩ = some (.int .i64 t290) ∧ w'.cell? ⟨gb294, 7, none⟩ = some (.int .i64 t291) ∧ w'.cell? ⟨gb294, 8, none⟩ = some (.bool t292) ∧ w'.cell? ⟨gb294, 9, none⟩ = some (.bool t293)) ∧ (Kd.R k34 34 w' w.heap.size (fun _ => True) (.slice Ao53 x7_8.length co53) x7_8) ∧ (w'.heap[gb294]? = some (.cells #[.int .i64 t284, .int .i64 t285, .int .i64 t286, .int .i64 t287, .int .i64 t288, .int .i64 t289, .int .i64 t290, .int .i64 t291, .bool t292, .bool t293] 30 (0, 0))) ∧ (w'.heap[gb326]? = some (.cells #[.int .i64 t323, .int .i64 t324] 40 (0, 0))) ∧ (w'.heap[s_]? = some (.cells #[.int .i64 0, .int .i64 0] 40 (0, 0))) ∧ (w.heap.size ≤ s_) ∧ (w.heap.size ≤ s_) ∧ (gb294 ≠ s_) ∧ (s_ ≠ gb294) ∧ (gb326 ≠ s_) ∧ (s_ ≠ gb326) ∧ (Below w.heap.size w w')) ?_ ?_
              rotate_left
              · intro hCont
                refine two_ (i := 7) (j := 11) (Ni := some 88) (Nj := some 13) #[true, true, true, true, true, true, true, true, false, false, false, false, false, false] #[true, true, true, true, true, true, true, false, false, false, false, true, false, false] rfl rfl rfl rfl (two_of HT_.out (by kernel_rfl)) (by decide) (by decide) (fun K hK => ?_) (fun K hK => ?_)
                · skip
                  refine goes_ Tryd.func14 (by kernel_rfl) rfl #[.int .u32 (Go.bits .or .u32 (Go.bits .andNot .u32 (Go.bits .andNot .u32 (Go.bits .and .u32 a1 1073741823) (ji46)) x9_8) (ji46)), .agg #[.int .i64 t284, .int .i64 t285, .int .i64 t286, .int .i64 t287, .int .i64 t288, .int .i64 t289, .int .i64 t290, .int .i64 t291, .bool t292, .bool t293], .int .i64 x8_8, .slice Ao53 x7_8.length co53] (by rfl) rfl rfl (by (try simp only [List.map_toArray, List.map_cons, List.map_nil]); first | done | (simp only [hji46]; rfl) | rfl | (simp only [List.length_drop, List.length_take]; rfl)) ?_
                  with_reducible refine (framing_Decide.calls kj8 (Go.bits .or .u32 (Go.bits .andNot .u32 (Go.bits .andNot .u32 (Go.bits .and .u32 a1 1073741823) (ji46)) x9_8) (ji46)) t284 t285 t286 t287 t288 t289 t290 t291 t292 t293 x8_8 _ _ x7_8 t327 t328 t329 _ ?side1 ?side2 A50.out).mono ?_
                  (case side1 => repeat (first | exact (Kd.R_reads' HO_7.out).2.2 | (with_reducible refine Kd.C_alloc ?_ _) | (with_reducible refine Kd.C_drewN ?_ _) | (with_reducible refine Kd.C_drew ?_)))
                  (case side2 => exact (Kd.R_reads' HO_7.out).2.1)
                  rintro e w60 ⟨rfl, hb⟩
                  refine ⟨_, rfl, ?_⟩
                  have n0_ := Aside0.mk (Kd.R_below (by (with_reducible repeat (first | apply Kd.R_alloc | apply Kd.R_drewN | apply Kd.R_drew)); exact HO_7.out) hb)
                  have n1_ := Aside0.mk (blk_below (g := gb294) (o := .cells #[.int .i64 t284, .int .i64 t285, .int .i64 t286, .int .i64 t287, .int .i64 t288, .int .i64 t289, .int .i64 t290, .int .i64 t291, .bool t292, .bool t293] 30 (0, 0)) (by (with_reducible repeat (first | refine blk_drewN ?_ _ | refine blk_drew ?_ | refine blk_alloc ?_ _)); exact BK294.out) hb)
                  have n2_ := Aside0.mk (blk_below (g := gb326) (o := .cells #[.int .i64 t323, .int .i64 t324] 40 (0, 0)) (by (with_reducible repeat (first | refine blk_drewN ?_ _ | refine blk_drew ?_ | refine blk_alloc ?_ _)); exact BK326.out) hb)
                  have n3_ := Aside0.mk (below_step (by repeat (first | (with_reducible first | exact HB.out | apply below_alloc | apply pw_below_drewN | apply below_drew1 | refine below_set ?_ GE294.out | refine below_set ?_ GE326.out) | exact HB.out)) hb)
                  clear HO_7
                  clear BK294
                  clear BK326
                  clear HB
                  have HO_7 := n0_
                  have BK294 := n1_
                  have BK326 := n2_
                  have HB := n3_
                  clear n0_ n1_ n2_ n3_
                  (try clear hb)
                  (try clear hb2)
                  (try clear hk)
                  (try clear hi)
                  refine hK.out _ _ ⟨(blk_cell BK294.out 0).trans rfl, (blk_cell BK294.out 1).trans rfl, (blk_cell BK294.out 2).trans rfl, (blk_cell BK294.out 3).trans rfl, (blk_cell BK294.out 4).trans rfl, (blk_cell BK294.out 5).trans rfl, (blk_cell BK294.out 6).trans rfl, (blk_cell BK294.out 7).trans rfl, (blk_cell BK294.out 8).trans rfl, (blk_cell BK294.out 9).trans rfl⟩ (fun hHeld => ?_)
                  clear hK K
                  refine norm_ (a' := ?_) ?_ ?_
                  rotate_left
                  · show Act.put _ (some 88) _ = _
                    simp only [Act.put, List.setIfInBounds_toArray, List.set_cons_zero, List.set_cons_succ, i64_w, i32_w]
                    rfl
                  refine pure_ (i := 8) (N := some 80) (v := ?_) (a' := ?_) #[true, true, true, true, true, true, true, true, true, false, false, false, false, false] rfl rfl (any_of HT_.out (by kernel_rfl)) (fun _ _ _ h => h) (Or.inl ⟨by rfl, ?_⟩) ?_ ?_
                  rotate_left
                  · intro w'
                    go_simp
                    with_reducible rfl
                  rotate_left
                  · simp only [Act.put, List.setIfInBounds_toArray, List.set_cons_zero, List.set_cons_succ, i64_w, i32_w]
                    rfl
                  refine pure_ (i := 9) (N := some 89) (v := ?_) (a' := ?_) #[true, true, true, true, true, true, true, true, true, true, false, false, false, false] rfl rfl (any_of HT_.out (by kernel_rfl)) (fun _ _ _ h => h) (Or.inl ⟨by rfl, ?_⟩) ?_ ?_
                  rotate_left
                  · intro w'
                    go_simp
                    with_reducible rfl
                  rotate_left
                  · simp only [Act.put, List.setIfInBounds_toArray, List.set_cons_zero, List.set_cons_succ, i64_w, i32_w]
                    rfl
                  refine pure_ (i := 10) (N := some 90) (v := ?_) (a' := ?_) #[true, true, true, true, true, true, true, true, true, true, true, false, false, false] rfl rfl (any_of HT_.out (by kernel_rfl)) (fun _ _ _ h => h) (Or.inl ⟨by rfl, ?_⟩) ?_ ?_
                  rotate_left
                  · intro w'
                    go_simp
                    with_reducible rfl
                  rotate_left
                  · simp only [Act.put, List.setIfInBounds_toArray, List.set_cons_zero, List.set_cons_succ, i64_w, i32_w]
                    rfl
                  refine one_ (i := 11) (N := some 13) #[true, true, true, true, true, true, true, true, true, true, true, true, false, false] rfl rfl (one_of HT_.out (by kernel_rfl)) (by decide) (fun K hK => ?_)
                  refine box_step ?hg (N := 13) ?hd (cs := #[.int .i64 0, .int .i64 0]) (t := 40) ?hr ?_; (case hd => rfl); (case hg => rfl); (case hr => first | (go_simp; done) | (go_simp; rfl))
                  intro gb330 hg w61 hbox hb
                  have n0_ := Aside0.mk (Kd.R_below (by (with_reducible repeat (first | apply Kd.R_alloc | apply Kd.R_drewN | apply Kd.R_drew)); exact HO_7.out) hb)
                  have n1_ := Aside0.mk (blk_below (g := gb294) (o := .cells #[.int .i64 t284, .int .i64 t285, .int .i64 t286, .int .i64 t287, .int .i64 t288, .int .i64 t289, .int .i64 t290, .int .i64 t291, .bool t292, .bool t293] 30 (0, 0)) (by (with_reducible repeat (first | refine blk_drewN ?_ _ | refine blk_drew ?_ | refine blk_alloc ?_ _)); exact BK294.out) hb)
                  have n2_ := Aside0.mk (blk_below (g := gb326) (o := .cells #[.int .i64 t323, .int .i64 t324] 40 (0, 0)) (by (with_reducible repeat (first | refine blk_drewN ?_ _ | refine blk_drew ?_ | refine blk_alloc ?_ _)); exact BK326.out) hb)
                  have n3_ := Aside0.mk (below_step (by repeat (first | (with_reducible first | exact HB.out | apply below_alloc | apply pw_below_drewN | apply below_drew1 | refine below_set ?_ GE294.out | refine below_set ?_ GE326.out) | exact HB.out)) hb)
                  have n4_ := Aside0.mk (hbox)
                  have n5_ := Aside0.mk ((by rw [hg]; exact (below_size (by repeat (first | (with_reducible first | exact HB.out | apply below_alloc | apply pw_below_drewN | apply below_drew1 | refine below_set ?_ GE294.out | refine below_set ?_ GE326.out) | exact HB.out))) : w.heap.size ≤ gb330))
                  have n6_ := Aside0.mk ((by rw [hg]; exact (below_size (by repeat (first | (with_reducible first | exact HB.out | apply below_alloc | apply pw_below_drewN | apply below_drew1 | refine below_set ?_ GE294.out | refine below_set ?_ GE326.out) | exact HB.out))) : w.heap.size ≤ gb330))
                  have n7_ := Aside0.mk ((by rw [hg]; exact Nat.ne_of_lt (blk_lt (g := gb294) (o := .cells #[.int .i64 t284, .int .i64 t285, .int .i64 t286, .int .i64 t287, .int .i64 t288, .int .i64 t289, .int .i64 t290, .int .i64 t291, .bool t292, .bool t293] 30 (0, 0)) (by (with_reducible repeat (first | refine blk_drewN ?_ _ | refine blk_drew ?_ | refine blk_alloc ?_ _)); exact BK294.out)) : gb294 ≠ gb330))
                  have n8_ := Aside0.mk ((by rw [hg]; exact Nat.ne_of_gt (blk_lt (g := gb294) (o := .cells #[.int .i64 t284, .int .i64 t285, .int .i64 t286, .int .i64 t287, .int .i64 t288, .int .i64 t289, .int .i64 t290, .int .i64 t291, .bool t292, .bool t293] 30 (0, 0)) (by (with_reducible repeat (first | refine blk_drewN ?_ _ | refine blk_drew ?_ | refine blk_alloc ?_ _)); exact BK294.out)) : gb330 ≠ gb294))
                  have n9_ := Aside0.mk ((by rw [hg]; exact Nat.ne_of_lt (blk_lt (g := gb326) (o := .cells #[.int .i64 t323, .int .i64 t324] 40 (0, 0)) (by (with_reducible repeat (first | refine blk_drewN ?_ _ | refine blk_drew ?_ | refine blk_alloc ?_ _)); exact BK326.out)) : gb326 ≠ gb330))
                  have n10_ := Aside0.mk ((by rw [hg]; exact Nat.ne_of_gt (blk_lt (g := gb326) (o := .cells #[.int .i64 t323, .int .i64 t324] 40 (0, 0)) (by (with_reducible repeat (first | refine blk_drewN ?_ _ | refine blk_drew ?_ | refine blk_alloc ?_ _)); exact BK326.out)) : gb330 ≠ gb326))
                  clear HO_7
                  clear BK294
                  clear BK326
                  clear HB
                  have HO_7 := n0_
                  have BK294 := n1_
                  have BK326 := n2_
                  have HB := n3_
                  have BK330 := n4_
                  have GW330 := n5_
                  have GE330 := n6_
                  have NB294_330 := n7_
                  have NB330_294 := n8_
                  have NB326_330 := n9_
                  have NB330_326 := n10_
                  clear n0_ n1_ n2_ n3_ n4_ n5_ n6_ n7_ n8_ n9_ n10_
                  clear hb hbox hg
                  refine hK.out _ _ ⟨(blk_cell BK294.out 0).trans rfl, (blk_cell BK294.out 1).trans rfl, (blk_cell BK294.out 2).trans rfl, (blk_cell BK294.out 3).trans rfl, (blk_cell BK294.out 4).trans rfl, (blk_cell BK294.out 5).trans rfl, (blk_cell BK294.out 6).trans rfl, (blk_cell BK294.out 7).trans rfl, (blk_cell BK294.out 8).trans rfl, (blk_cell BK294.out 9).trans rfl⟩ (fun hHeld => ?_)
                  clear hK K
                  refine norm_ (a' := ?_) ?_ ?_
                  rotate_left
                  · show Act.put _ (some 13) _ = _
                    simp only [Act.put, List.setIfInBounds_toArray, List.set_cons_zero, List.set_cons_succ, i64_w, i32_w]
                    rfl
                  exact norm_ (by simp only [putAll, Act.put, List.setIfInBounds_toArray, List.set_cons_zero, List.set_cons_succ]) (hCont (gb330) _ ⟨hHeld, (by (with_reducible repeat (first | apply Kd.R_alloc | apply Kd.R_drewN | apply Kd.R_drew)); exact HO_7.out), (by (with_reducible repeat (first | refine blk_drewN ?_ _ | refine blk_drew ?_ | refine blk_alloc ?_ _)); exact BK294.out), (by (with_reducible repeat (first | refine blk_drewN ?_ _ | refine blk_drew ?_ | refine blk_alloc ?_ _)); exact BK326.out), (by (with_reducible repeat (first | refine blk_drewN ?_ _ | refine blk_drew ?_ | refine blk_alloc ?_ _)); exact BK330.out), GW330.out, GE330.out, NB294_330.out, NB330_294.out, NB326_330.out, NB330_326.out, (by repeat (first | (with_reducible first | exact HB.out | apply below_alloc | apply pw_below_drewN | apply below_drew1 | refine below_set ?_ GE294.out | refine below_set ?_ GE326.out | refine below_set ?_ GE330.out) | exact HB.out))⟩)
                · skip
                  refine box_step ?hg (N := 13) ?hd (cs := #[.int .i64 0, .int .i64 0]) (t := 40) ?hr ?_; (case hd => rfl); (case hg => rfl); (case hr => first | (go_simp; done) | (go_simp; rfl))
                  intro gb330 hg w60 hbox hb
                  have n0_ := Aside0.mk (Kd.R_below (by (with_reducible repeat (first | apply Kd.R_alloc | apply Kd.R_drewN | apply Kd.R_drew)); exact HO_7.out) hb)
                  have n1_ := Aside0.mk (blk_below (g := gb294) (o := .cells #[.int .i64 t284, .int .i64 t285, .int .i64 t286, .int .i64 t287, .int .i64 t288, .int .i64 t289, .int .i64 t290, .int .i64 t291, .bool t292, .bool t293] 30 (0, 0)) (by (with_reducible repeat (first | refine blk_drewN ?_ _ | refine blk_drew ?_ | refine blk_alloc ?_ _)); exact BK294.out) hb)
                  have n2_ := Aside0.mk (blk_below (g := gb326) (o := .cells #[.int .i64 t323, .int .i64 t324] 40 (0, 0)) (by (with_reducible repeat (first | refine blk_drewN ?_ _ | refine blk_drew ?_ | refine blk_alloc ?_ _)); exact BK326.out) hb)
                  have n3_ := Aside0.mk (below_step (by repeat (first | (with_reducible first | exact HB.out | apply below_alloc | apply pw_below_drewN | apply below_drew1 | refine below_set ?_ GE294.out | refine below_set ?_ GE326.out) | exact HB.out)) hb)
                  have n4_ := Aside0.mk (hbox)
                  have n5_ := Aside0.mk ((by rw [hg]; exact (below_size (by repeat (first | (with_reducible first | exact HB.out | apply below_alloc | apply pw_below_drewN | apply below_drew1 | refine below_set ?_ GE294.out | refine below_set ?_ GE326.out) | exact HB.out))) : w.heap.size ≤ gb330))
                  have n6_ := Aside0.mk ((by rw [hg]; exact (below_size (by repeat (first | (with_reducible first | exact HB.out | apply below_alloc | apply pw_below_drewN | apply below_drew1 | refine below_set ?_ GE294.out | refine below_set ?_ GE326.out) | exact HB.out))) : w.heap.size ≤ gb330))
                  have n7_ := Aside0.mk ((by rw [hg]; exact Nat.ne_of_lt (blk_lt (g := gb294) (o := .cells #[.int .i64 t284, .int .i64 t285, .int .i64 t286, .int .i64 t287, .int .i64 t288, .int .i64 t289, .int .i64 t290, .int .i64 t291, .bool t292, .bool t293] 30 (0, 0)) (by (with_reducible repeat (first | refine blk_drewN ?_ _ | refine blk_drew ?_ | refine blk_alloc ?_ _)); exact BK294.out)) : gb294 ≠ gb330))
                  have n8_ := Aside0.mk ((by rw [hg]; exact Nat.ne_of_gt (blk_lt (g := gb294) (o := .cells #[.int .i64 t284, .int .i64 t285, .int .i64 t286, .int .i64 t287, .int .i64 t288, .int .i64 t289, .int .i64 t290, .int .i64 t291, .bool t292, .bool t293] 30 (0, 0)) (by (with_reducible repeat (first | refine blk_drewN ?_ _ | refine blk_drew ?_ | refine blk_alloc ?_ _)); exact BK294.out)) : gb330 ≠ gb294))
                  have n9_ := Aside0.mk ((by rw [hg]; exact Nat.ne_of_lt (blk_lt (g := gb326) (o := .cells #[.int .i64 t323, .int .i64 t324] 40 (0, 0)) (by (with_reducible repeat (first | refine blk_drewN ?_ _ | refine blk_drew ?_ | refine blk_alloc ?_ _)); exact BK326.out)) : gb326 ≠ gb330))
                  have n10_ := Aside0.mk ((by rw [hg]; exact Nat.ne_of_gt (blk_lt (g := gb326) (o := .cells #[.int .i64 t323, .int .i64 t324] 40 (0, 0)) (by (with_reducible repeat (first | refine blk_drewN ?_ _ | refine blk_drew ?_ | refine blk_alloc ?_ _)); exact BK326.out)) : gb330 ≠ gb326))
                  clear HO_7
                  clear BK294
                  clear BK326
                  clear HB
                  have HO_7 := n0_
                  have BK294 := n1_
                  have BK326 := n2_
                  have HB := n3_
                  have BK330 := n4_
                  have GW330 := n5_
                  have GE330 := n6_
                  have NB294_330 := n7_
                  have NB330_294 := n8_
                  have NB326_330 := n9_
                  have NB330_326 := n10_
                  clear n0_ n1_ n2_ n3_ n4_ n5_ n6_ n7_ n8_ n9_ n10_
                  clear hb hbox hg
                  refine hK.out _ _ ⟨(blk_cell BK294.out 0).trans rfl, (blk_cell BK294.out 1).trans rfl, (blk_cell BK294.out 2).trans rfl, (blk_cell BK294.out 3).trans rfl, (blk_cell BK294.out 4).trans rfl, (blk_cell BK294.out 5).trans rfl, (blk_cell BK294.out 6).trans rfl, (blk_cell BK294.out 7).trans rfl, (blk_cell BK294.out 8).trans rfl, (blk_cell BK294.out 9).trans rfl⟩ (fun hHeld => ?_)
                  clear hK K
                  refine norm_ (a' := ?_) ?_ ?_
                  rotate_left
                  · show Act.put _ (some 13) _ = _
                    simp only [Act.put, List.setIfInBounds_toArray, List.set_cons_zero, List.set_cons_succ, i64_w, i32_w]
                    rfl
                  refine one_ (i := 7) (N := some 88) #[true, true, true, true, true, true, true, true, false, false, false, true, false, false] rfl rfl (one_of HT_.out (by kernel_rfl)) (by decide) (fun K hK => ?_)
                  refine goes_ Tryd.func14 (by kernel_rfl) rfl #[.int .u32 (Go.bits .or .u32 (Go.bits .andNot .u32 (Go.bits .andNot .u32 (Go.bits .and .u32 a1 1073741823) (ji46)) x9_8) (ji46)), .agg #[.int .i64 t284, .int .i64 t285, .int .i64 t286, .int .i64 t287, .int .i64 t288, .int .i64 t289, .int .i64 t290, .int .i64 t291, .bool t292, .bool t293], .int .i64 x8_8, .slice Ao53 x7_8.length co53] (by rfl) rfl rfl (by (try simp only [List.map_toArray, List.map_cons, List.map_nil]); first | done | (simp only [hji46]; rfl) | rfl | (simp only [List.length_drop, List.length_take]; rfl)) ?_
                  with_reducible refine (framing_Decide.calls kj8 (Go.bits .or .u32 (Go.bits .andNot .u32 (Go.bits .andNot .u32 (Go.bits .and .u32 a1 1073741823) (ji46)) x9_8) (ji46)) t284 t285 t286 t287 t288 t289 t290 t291 t292 t293 x8_8 _ _ x7_8 t327 t328 t329 _ ?side1 ?side2 A50.out).mono ?_
                  (case side1 => repeat (first | exact (Kd.R_reads' HO_7.out).2.2 | (with_reducible refine Kd.C_alloc ?_ _) | (with_reducible refine Kd.C_drewN ?_ _) | (with_reducible refine Kd.C_drew ?_)))
                  (case side2 => exact (Kd.R_reads' HO_7.out).2.1)
                  rintro e w61 ⟨rfl, hb⟩
                  refine ⟨_, rfl, ?_⟩
                  have n0_ := Aside0.mk (Kd.R_below (by (with_reducible repeat (first | apply Kd.R_alloc | apply Kd.R_drewN | apply Kd.R_drew)); exact HO_7.out) hb)
                  have n1_ := Aside0.mk (blk_below (g := gb294) (o := .cells #[.int .i64 t284, .int .i64 t285, .int .i64 t286, .int .i64 t287, .int .i64 t288, .int .i64 t289, .int .i64 t290, .int .i64 t291, .bool t292, .bool t293] 30 (0, 0)) (by (with_reducible repeat (first | refine blk_drewN ?_ _ | refine blk_drew ?_ | refine blk_alloc ?_ _)); exact BK294.out) hb)
                  have n2_ := Aside0.mk (blk_below (g := gb326) (o := .cells #[.int .i64 t323, .int .i64 t324] 40 (0, 0)) (by (with_reducible repeat (first | refine blk_drewN ?_ _ | refine blk_drew ?_ | refine blk_alloc ?_ _)); exact BK326.out) hb)
                  have n3_ := Aside0.mk (blk_below (g := gb330) (o := .cells #[.int .i64 0, .int .i64 0] 40 (0, 0)) (by (with_reducible repeat (first | refine blk_drewN ?_ _ | refine blk_drew ?_ | refine blk_alloc ?_ _)); exact BK330.out) hb)
                  have n4_ := Aside0.mk (below_step (by repeat (first | (with_reducible first | exact HB.out | apply below_alloc | apply pw_below_drewN | apply below_drew1 | refine below_set ?_ GE294.out | refine below_set ?_ GE326.out | refine below_set ?_ GE330.out) | exact HB.out)) hb)
                  clear HO_7
                  clear BK294
                  clear BK326
                  clear BK330
                  clear HB
                  have HO_7 := n0_
                  have BK294 := n1_
                  have BK326 := n2_
                  have BK330 := n3_
                  have HB := n4_
                  clear n0_ n1_ n2_ n3_ n4_
                  (try clear hb)
                  (try clear hb2)
                  (try clear hk)
                  (try clear hi)
                  refine hK.out _ _ ⟨(blk_cell BK294.out 0).trans rfl, (blk_cell BK294.out 1).trans rfl, (blk_cell BK294.out 2).trans rfl, (blk_cell BK294.out 3).trans rfl, (blk_cell BK294.out 4).trans rfl, (blk_cell BK294.out 5).trans rfl, (blk_cell BK294.out 6).trans rfl, (blk_cell BK294.out 7).trans rfl, (blk_cell BK294.out 8).trans rfl, (blk_cell BK294.out 9).trans rfl⟩ (fun hHeld => ?_)
                  clear hK K
                  refine norm_ (a' := ?_) ?_ ?_
                  rotate_left
                  · show Act.put _ (some 88) _ = _
                    simp only [Act.put, List.setIfInBounds_toArray, List.set_cons_zero, List.set_cons_succ, i64_w, i32_w]
                    rfl
                  refine pure_ (i := 8) (N := some 80) (v := ?_) (a' := ?_) #[true, true, true, true, true, true, true, true, true, false, false, true, false, false] rfl rfl (any_of HT_.out (by kernel_rfl)) (fun _ _ _ h => h) (Or.inl ⟨by rfl, ?_⟩) ?_ ?_
                  rotate_left
                  · intro w'
                    go_simp
                    with_reducible rfl
                  rotate_left
                  · simp only [Act.put, List.setIfInBounds_toArray, List.set_cons_zero, List.set_cons_succ, i64_w, i32_w]
                    rfl
                  refine pure_ (i := 9) (N := some 89) (v := ?_) (a' := ?_) #[true, true, true, true, true, true, true, true, true, true, false, true, false, false] rfl rfl (any_of HT_.out (by kernel_rfl)) (fun _ _ _ h => h) (Or.inl ⟨by rfl, ?_⟩) ?_ ?_
                  rotate_left
                  · intro w'
                    go_simp
                    with_reducible rfl
                  rotate_left
                  · simp only [Act.put, List.setIfInBounds_toArray, List.set_cons_zero, List.set_cons_succ, i64_w, i32_w]
                    rfl
                  refine pure_ (i := 10) (N := some 90) (v := ?_) (a' := ?_) #[true, true, true, true, true, true, true, true, true, true, true, true, false, false] rfl rfl (any_of HT_.out (by kernel_rfl)) (fun _ _ _ h => h) (Or.inl ⟨by rfl, ?_⟩) ?_ ?_
                  rotate_left
                  · intro w'
                    go_simp
                    with_reducible rfl
                  rotate_left
                  · simp only [Act.put, List.setIfInBounds_toArray, List.set_cons_zero, List.set_cons_succ, i64_w, i32_w]
                    rfl
                  exact norm_ (by simp only [putAll, Act.put, List.setIfInBounds_toArray, List.set_cons_zero, List.set_cons_succ]) (hCont (gb330) _ ⟨hHeld, (by (with_reducible repeat (first | apply Kd.R_alloc | apply Kd.R_drewN | apply Kd.R_drew)); exact HO_7.out), (by (with_reducible repeat (first | refine blk_drewN ?_ _ | refine blk_drew ?_ | refine blk_alloc ?_ _)); exact BK294.out), (by (with_reducible repeat (first | refine blk_drewN ?_ _ | refine blk_drew ?_ | refine blk_alloc ?_ _)); exact BK326.out), (by (with_reducible repeat (first | refine blk_drewN ?_ _ | refine blk_drew ?_ | refine blk_alloc ?_ _)); exact BK330.out), GW330.out, GE330.out, NB294_330.out, NB330_294.out, NB326_330.out, NB330_326.out, (by repeat (first | (with_reducible first | exact HB.out | apply below_alloc | apply pw_below_drewN | apply below_drew1 | refine below_set ?_ GE294.out | refine below_set ?_ GE326.out | refine below_set ?_ GE330.out) | exact HB.out))⟩)
              rintro gb330 w62 ⟨hS_, h0_, h1_, h2_, h3_, h4_, h5_, h6_, h7_, h8_, h9_, h10_⟩
              have n0_ : Aside0 (Kd.R k34 34 w62 w.heap.size (fun _ => True) (.slice Ao53 x7_8.length co53) x7_8) := ⟨h0_⟩
              have n1_ : Aside0 (w62.heap[gb294]? = some (.cells #[.int .i64 t284, .int .i64 t285, .int .i64 t286, .int .i64 t287, .int .i64 t288, .int .i64 t289, .int .i64 t290, .int .i64 t291, .bool t292, .bool t293] 30 (0, 0))) := ⟨h1_⟩
              have n2_ : Aside0 (w62.heap[gb326]? = some (.cells #[.int .i64 t323, .int .i64 t324] 40 (0, 0))) := ⟨h2_⟩
              have n3_ : Aside0 (w62.heap[gb330]? = some (.cells #[.int .i64 0, .int .i64 0] 40 (0, 0))) := ⟨h3_⟩
              have n4_ : Aside0 (w.heap.size ≤ gb330) := ⟨h4_⟩
              have n5_ : Aside0 (w.heap.size ≤ gb330) := ⟨h5_⟩
              have n6_ : Aside0 (gb294 ≠ gb330) := ⟨h6_⟩
              have n7_ : Aside0 (gb330 ≠ gb294) := ⟨h7_⟩
              have n8_ : Aside0 (gb326 ≠ gb330) := ⟨h8_⟩
              have n9_ : Aside0 (gb330 ≠ gb326) := ⟨h9_⟩
              have n10_ : Aside0 (Below w.heap.size w w62) := ⟨h10_⟩
              clear HO_7
              clear BK294
              clear BK326
              clear HB
              clear h0_ h1_ h2_ h3_ h4_ h5_ h6_ h7_ h8_ h9_ h10_
              have HO_7 := n0_
              have BK294 := n1_
              have BK326 := n2_
              have BK330 := n3_
              have GW330 := n4_
              have GE330 := n5_
              have NB294_330 := n6_
              have NB330_294 := n7_
              have NB326_330 := n8_
              have NB330_326 := n9_
              have HB := n10_
              clear n0_ n1_ n2_ n3_ n4_ n5_ n6_ n7_ n8_ n9_ n10_
              have hHeld : w62.cell? ⟨gb294, 0, none⟩ = some (.int .i64 t284) ∧ w62.cell? ⟨gb294, 1, none⟩ = some (.int .i64 t285) ∧ w62.cell? ⟨gb294, 2, none⟩ = some (.int .i64 t286) ∧ w62.cell? ⟨gb294, 3, none⟩ = some (.int .i64 t287) ∧ w62.cell? ⟨gb294, 4, none⟩ = some (.int .i64 t288) ∧ w62.cell? ⟨gb294, 5, none⟩ = some (.int .i64 t289) ∧ w62.cell? ⟨gb294, 6, none⟩ = some (.int .i64 t290) ∧ w62.cell? ⟨gb294, 7, none⟩ = some (.int .i64 t291) ∧ w62.cell? ⟨gb294, 8, none⟩ = some (.bool t292) ∧ w62.cell? ⟨gb294, 9, none⟩ = some (.bool t293) := hS_
              refine norm_ (a' := ?_) ?_ ?_
              rotate_left
              · simp only [putAll, Act.put, List.setIfInBounds_toArray, List.set_cons_zero, List.set_cons_succ]
                rfl
              refine one_ (i := 12) (N := none) #[true, true, true, true, true, true, true, true, true, true, true, true, true, false] rfl rfl (one_of HT_.out (by kernel_rfl)) (by decide) (fun K hK => ?_)
              have hs63 : w62.cell? ⟨gb330, 0, none⟩ = some (.int .i64 0) := (blk_cell BK330.out 0).trans rfl
              have hfs63 := blk_frozen BK330.out 0
              have hns63_0 := NB294_330.out
              have hns63_1 := NB326_330.out
              have hms63_0 := NB330_294.out
              have hms63_1 := NB330_326.out
              have hs64 : w62.cell? ⟨gb330, 1, none⟩ = some (.int .i64 0) := (blk_cell BK330.out 1).trans rfl
              have hfs64 := blk_frozen BK330.out 1
              have hns64_0 := NB294_330.out
              have hns64_1 := NB326_330.out
              have hms64_0 := NB330_294.out
              have hms64_1 := NB330_326.out
              refine skip_ (w1 := ?_) (by rfl) rfl ?_ ?_
              rotate_left
              · go_simp
                rfl
              refine hK.out _ _ ⟨((cell_far (p := ⟨gb330, _, none⟩) NB294_330.out _).trans (((cell_far (p := ⟨gb330, _, none⟩) NB294_330.out _).trans (hHeld.1)))), ((cell_far (p := ⟨gb330, _, none⟩) NB294_330.out _).trans (((cell_far (p := ⟨gb330, _, none⟩) NB294_330.out _).trans (hHeld.2.1)))), ((cell_far (p := ⟨gb330, _, none⟩) NB294_330.out _).trans (((cell_far (p := ⟨gb330, _, none⟩) NB294_330.out _).trans (hHeld.2.2.1)))), ((cell_far (p := ⟨gb330, _, none⟩) NB294_330.out _).trans (((cell_far (p := ⟨gb330, _, none⟩) NB294_330.out _).trans (hHeld.2.2.2.1)))), ((cell_far (p := ⟨gb330, _, none⟩) NB294_330.out _).trans (((cell_far (p := ⟨gb330, _, none⟩) NB294_330.out _).trans (hHeld.2.2.2.2.1)))), ((cell_far (p := ⟨gb330, _, none⟩) NB294_330.out _).trans (((cell_far (p := ⟨gb330, _, none⟩) NB294_330.out _).trans (hHeld.2.2.2.2.2.1)))), ((cell_far (p := ⟨gb330, _, none⟩) NB294_330.out _).trans (((cell_far (p := ⟨gb330, _, none⟩) NB294_330.out _).trans (hHeld.2.2.2.2.2.2.1)))), ((cell_far (p := ⟨gb330, _, none⟩) NB294_330.out _).trans (((cell_far (p := ⟨gb330, _, none⟩) NB294_330.out _).trans (hHeld.2.2.2.2.2.2.2.1)))), ((cell_far (p := ⟨gb330, _, none⟩) NB294_330.out _).trans (((cell_far (p := ⟨gb330, _, none⟩) NB294_330.out _).trans (hHeld.2.2.2.2.2.2.2.2.1)))), ((cell_far (p := ⟨gb330, _, none⟩) NB294_330.out _).trans (((cell_far (p := ⟨gb330, _, none⟩) NB294_330.out _).trans (hHeld.2.2.2.2.2.2.2.2.2))))⟩ (fun hHeld => ?_)
              clear hK K
              refine pure_ (i := 13) (N := some 14) (v := ?_) (a' := ?_) #[true, true, true, true, true, true, true, true, true, true, true, true, true, true] rfl rfl (any_of HT_.out (by kernel_rfl)) (fun _ _ _ h => h) (Or.inl ⟨by rfl, ?_⟩) ?_ ?_
              rotate_left
              · intro w'
                go_simp
                with_reducible rfl
              rotate_left
              · simp only [Act.put, List.setIfInBounds_toArray, List.set_cons_zero, List.set_cons_succ, i64_w, i32_w]
                rfl
              refine done_ (done_of HT_.out (by kernel_rfl)) ?_
              go_upto_region 29 with (fail)
              go_cut [96] (fun v96 wc => ∃ (kq : Nat) (x96_50 : Bool), v96 = .bool x96_50 ∧ Aside0 (parallaxlaw10_FramingClauses.j6 kq (rd y295 (ji6)) t325 t329 0 1 x96_50 t327 t328 = some r) ∧ Aside0 (kq ≤ kj8) ∧ Aside0 (wc.heap[gb294]? = some (.cells #[.int .i64 t284, .int .i64 t285, .int .i64 t286, .int .i64 t287, .int .i64 t288, .int .i64 t289, .int .i64 t290, .int .i64 t291, .bool t292, .bool t293] 30 (0, 0))) ∧ Aside0 (wc.heap[gb326]? = some (.cells #[.int .i64 t323, .int .i64 t324] 40 (0, 0))) ∧ Aside0 (wc.heap[gb330]? = some (.cells #[.int .i64 t327, .int .i64 t328] 40 (0, 0))) ∧ Aside0 (Below w.heap.size w wc))
              case first =>
                have H := HC51.out
                clear HC51
                by_cases c65 : (rd y295 (ji6)) = 23
                · rw [if_pos c65] at H
                  have c65b0 : ((rd y295 (ji6)) == 23) = true := beq_iff_eq.mpr c65
                  have c65b1 : ((rd y295 (ji6)) != 23) = false := bne_eq_false_iff_eq.mpr c65
                  clear c65
                  (first | rw [c65b0] | (simp only [i64_w, i32_w]; rw [c65b0]) | skip)
                  have H' := Aside0.mk H
                  clear H
                  go_wp2
                  go_meet
                  case rel => exact ⟨_, (true), (by first | rfl | (simp; done) | (simp [*]; done)), H', ⟨by have := HJ8.out; first | omega | exact Nat.le_refl _⟩, ⟨by (with_reducible repeat (first | refine blk_drewN ?_ _ | refine blk_drew ?_ | refine blk_alloc ?_ _)); refine blk_far ?_ NB294_330.out _; (with_reducible repeat (first | refine blk_drewN ?_ _ | refine blk_drew ?_ | refine blk_alloc ?_ _)); refine blk_far ?_ NB294_330.out _; (with_reducible repeat (first | refine blk_drewN ?_ _ | refine blk_drew ?_ | refine blk_alloc ?_ _)); exact BK294.out⟩, ⟨by (with_reducible repeat (first | refine blk_drewN ?_ _ | refine blk_drew ?_ | refine blk_alloc ?_ _)); refine blk_far ?_ NB326_330.out _; (with_reducible repeat (first | refine blk_drewN ?_ _ | refine blk_drew ?_ | refine blk_alloc ?_ _)); refine blk_far ?_ NB326_330.out _; (with_reducible repeat (first | refine blk_drewN ?_ _ | refine blk_drew ?_ | refine blk_alloc ?_ _)); exact BK326.out⟩, ⟨by (with_reducible repeat (first | refine blk_drewN ?_ _ | refine blk_drew ?_ | refine blk_alloc ?_ _)); refine blk_put (cs := #[.int .i64 t327, .int .i64 0]) ?_ 1 _ rfl; (with_reducible repeat (first | refine blk_drewN ?_ _ | refine blk_drew ?_ | refine blk_alloc ?_ _)); refine blk_put (cs := #[.int .i64 0, .int .i64 0]) ?_ 0 _ rfl; (with_reducible repeat (first | refine blk_drewN ?_ _ | refine blk_drew ?_ | refine blk_alloc ?_ _)); exact BK330.out⟩, ⟨by repeat (first | (with_reducible first | exact HB.out | apply below_alloc | apply pw_below_drewN | apply below_drew1 | refine below_set ?_ GE294.out | refine below_set ?_ GE326.out | refine below_set ?_ GE330.out) | exact HB.out)⟩⟩
                · rw [if_neg c65] at H
                  have c65b0 : ((rd y295 (ji6)) == 23) = false := beq_eq_false_iff_ne.mpr c65
                  have c65b1 : ((rd y295 (ji6)) != 23) = true := bne_iff_ne.mpr c65
                  (first | rw [c65b0] | (simp only [i64_w, i32_w]; rw [c65b0]) | skip)
                  have H' := Aside0.mk H
                  clear H
                  go_wp2
                  go_meet
                  case rel => exact ⟨_, (((rd y295 (ji6)) == 24)), (by first | rfl | (simp; done) | (simp only [← hji6] <;> (first | rfl | simp)) | (simp [*]; done)), H', ⟨by have := HJ8.out; first | omega | exact Nat.le_refl _⟩, ⟨by (with_reducible repeat (first | refine blk_drewN ?_ _ | refine blk_drew ?_ | refine blk_alloc ?_ _)); refine blk_far ?_ NB294_330.out _; (with_reducible repeat (first | refine blk_drewN ?_ _ | refine blk_drew ?_ | refine blk_alloc ?_ _)); refine blk_far ?_ NB294_330.out _; (with_reducible repeat (first | refine blk_drewN ?_ _ | refine blk_drew ?_ | refine blk_alloc ?_ _)); exact BK294.out⟩, ⟨by (with_reducible repeat (first | refine blk_drewN ?_ _ | refine blk_drew ?_ | refine blk_alloc ?_ _)); refine blk_far ?_ NB326_330.out _; (with_reducible repeat (first | refine blk_drewN ?_ _ | refine blk_drew ?_ | refine blk_alloc ?_ _)); refine blk_far ?_ NB326_330.out _; (with_reducible repeat (first | refine blk_drewN ?_ _ | refine blk_drew ?_ | refine blk_alloc ?_ _)); exact BK326.out⟩, ⟨by (with_reducible repeat (first | refine blk_drewN ?_ _ | refine blk_drew ?_ | refine blk_alloc ?_ _)); refine blk_put (cs := #[.int .i64 t327, .int .i64 0]) ?_ 1 _ rfl; (with_reducible repeat (first | refine blk_drewN ?_ _ | refine blk_drew ?_ | refine blk_alloc ?_ _)); refine blk_put (cs := #[.int .i64 0, .int .i64 0]) ?_ 0 _ rfl; (with_reducible repeat (first | refine blk_drewN ?_ _ | refine blk_drew ?_ | refine blk_alloc ?_ _)); exact BK330.out⟩, ⟨by repeat (first | (with_reducible first | exact HB.out | apply below_alloc | apply pw_below_drewN | apply below_drew1 | refine below_set ?_ GE294.out | refine below_set ?_ GE326.out | refine below_set ?_ GE330.out) | exact HB.out)⟩⟩
              case rest =>
                clear HC51
                try clear c1
                try clear q1
                try clear c2
                try clear p2
                try clear q2
                try clear hx2
                try clear c3
                try clear c4
                try clear c5
                try clear c6
                try clear c7
                try clear c7b0
                try clear c8
                try clear c8b0
                try clear c14
                try clear c19
                try clear c19b0
                try clear c19b1
                try clear c21
                try clear c21b0
                try clear c21b1
                try clear c22
                try clear c24
                try clear c25
                try clear c25b0
                try clear c25b1
                try clear c26
                try clear c29
                try clear c29b0
                try clear c29b1
                try clear p29
                try clear q29
                try clear hx29
                try clear c30
                try clear c36
                try clear c36b0
                try clear c36b1
                try clear c37
                try clear c40
                try clear c40b0
                try clear c40b1
                try clear c41
                try clear c43
                try clear c45
                try clear c45b0
                try clear c45b1
                try clear c48
                try clear c48b0
                try clear c49
                try clear c49b0
                try clear c56
                try clear c65
                try clear c65b0
                try clear c65b1
                try clear hcz13_0
                try clear hcz13_1
                try clear hcz13_2
                try clear hcz13_3
                try clear hcz13_4
                try clear hcz13_5
                try clear hcz13_6
                try clear hcz13_7
                try clear hcz13_8
                try clear hcz13_9
                try clear hcz52_0
                try clear hcz52_1
                try clear hcz52_2
                try clear hcz52_3
                try clear hcz52_4
                try clear hcz52_5
                try clear hcz52_6
                try clear hcz52_7
                try clear hcz52_8
                try clear hcz52_9
                try clear hcz57_0
                try clear hcz57_1
                try clear hfz13_0
                try clear hfz13_1
                try clear hfz13_2
                try clear hfz13_3
                try clear hfz13_4
                try clear hfz13_5
                try clear hfz13_6
                try clear hfz13_7
                try clear hfz13_8
                try clear hfz13_9
                try clear hfz52_0
                try clear hfz52_1
                try clear hfz52_2
                try clear hfz52_3
                try clear hfz52_4
                try clear hfz52_5
                try clear hfz52_6
                try clear hfz52_7
                try clear hfz52_8
                try clear hfz52_9
                try clear hfz57_0
                try clear hfz57_1
                try clear hx298_0
                try clear p2
                try clear p29
                try clear p298
                try clear q1
                try clear q2
                try clear q29
                try clear q298
                obtain ⟨kq, x96_50, rfl, HA, HJ50, BK294, BK326, BK330, HB⟩ := hcut
                cases kq with
                | zero => exact absurd HA.out (by simp [parallaxlaw10_FramingClauses.j6])
                | succ kj50 =>
                  have H := HA.out
                  clear HA
                  simp only [parallaxlaw10_FramingClauses.j6] at H
                  have HC66 := Aside0.mk H
                  clear H
                  go_upto_if 96 with (fail)
                  go_cut [15] (fun v15 wc => ∃ (kq : Nat) (x15_65 : Int), v15 = .int .i64 x15_65 ∧ Aside0 (parallaxlaw10_FramingClauses.j7 kq (rd y295 (ji6)) t325 t329 x15_65 1 t327 t328 = some r) ∧ Aside0 (kq ≤ kj50) ∧ Aside0 (wc.heap[gb294]? = some (.cells #[.int .i64 t284, .int .i64 t285, .int .i64 t286, .int .i64 t287, .int .i64 t288, .int .i64 t289, .int .i64 t290, .int .i64 t291, .bool t292, .bool t293] 30 (0, 0))) ∧ Aside0 (wc.heap[gb326]? = some (.cells #[.int .i64 t323, .int .i64 t324] 40 (0, 0))) ∧ Aside0 (wc.heap[gb330]? = some (.cells #[.int .i64 t327, .int .i64 t328] 40 (0, 0))) ∧ Aside0 (Below w.heap.size w wc))
                  case first =>
                    have H := HC66.out
                    clear HC66
                    by_cases c67 : x96_50 = true
                    · subst c67
                      rw [if_pos rfl] at H
                      have H' := Aside0.mk H
                      clear H
                      go_wp2
                      go_meet
                      case rel => exact ⟨_, (3), (by first | rfl | (simp; done) | (simp [*]; done)), H', ⟨by have := HJ8.out; have := HJ50.out; first | omega | exact Nat.le_refl _⟩, ⟨by (with_reducible repeat (first | refine blk_drewN ?_ _ | refine blk_drew ?_ | refine blk_alloc ?_ _)); exact BK294.out⟩, ⟨by (with_reducible repeat (first | refine blk_drewN ?_ _ | refine blk_drew ?_ | refine blk_alloc ?_ _)); exact BK326.out⟩, ⟨by (with_reducible repeat (first | refine blk_drewN ?_ _ | refine blk_drew ?_ | refine blk_alloc ?_ _)); exact BK330.out⟩, ⟨by repeat (first | (with_reducible first | exact HB.out | apply below_alloc | apply pw_below_drewN | apply below_drew1 | refine below_set ?_ GE294.out | refine below_set ?_ GE326.out | refine below_set ?_ GE330.out) | exact HB.out)⟩⟩
                    · replace c67 := Bool.eq_false_iff.mpr c67
                      subst c67
                      rw [if_neg (show ¬ (false = true) by decide)] at H
                      have H' := Aside0.mk H
                      clear H
                      go_wp2
                      go_meet
                      case rel => exact ⟨_, (0), (by first | rfl | (simp; done) | (simp [*]; done)), H', ⟨by have := HJ8.out; have := HJ50.out; first | omega | exact Nat.le_refl _⟩, ⟨by (with_reducible repeat (first | refine blk_drewN ?_ _ | refine blk_drew ?_ | refine blk_alloc ?_ _)); exact BK294.out⟩, ⟨by (with_reducible repeat (first | refine blk_drewN ?_ _ | refine blk_drew ?_ | refine blk_alloc ?_ _)); exact BK326.out⟩, ⟨by (with_reducible repeat (first | refine blk_drewN ?_ _ | refine blk_drew ?_ | refine blk_alloc ?_ _)); exact BK330.out⟩, ⟨by repeat (first | (with_reducible first | exact HB.out | apply below_alloc | apply pw_below_drewN | apply below_drew1 | refine below_set ?_ GE294.out | refine below_set ?_ GE326.out | refine below_set ?_ GE330.out) | exact HB.out)⟩⟩
                  case rest =>
                    clear HC66
                    try clear c1
                    try clear q1
                    try clear c2
                    try clear p2
                    try clear q2
                    try clear hx2
                    try clear c3
                    try clear c4
                    try clear c5
                    try clear c6
                    try clear c7
                    try clear c7b0
                    try clear c8
                    try clear c8b0
                    try clear c14
                    try clear c19
                    try clear c19b0
                    try clear c19b1
                    try clear c21
                    try clear c21b0
                    try clear c21b1
                    try clear c22
                    try clear c24
                    try clear c25
                    try clear c25b0
                    try clear c25b1
                    try clear c26
                    try clear c29
                    try clear c29b0
                    try clear c29b1
                    try clear p29
                    try clear q29
                    try clear hx29
                    try clear c30
                    try clear c36
                    try clear c36b0
                    try clear c36b1
                    try clear c37
                    try clear c40
                    try clear c40b0
                    try clear c40b1
                    try clear c41
                    try clear c43
                    try clear c45
                    try clear c45b0
                    try clear c45b1
                    try clear c48
                    try clear c48b0
                    try clear c49
                    try clear c49b0
                    try clear c56
                    try clear c65
                    try clear c65b0
                    try clear c65b1
                    try clear c67
                    try clear hcz13_0
                    try clear hcz13_1
                    try clear hcz13_2
                    try clear hcz13_3
                    try clear hcz13_4
                    try clear hcz13_5
                    try clear hcz13_6
                    try clear hcz13_7
                    try clear hcz13_8
                    try clear hcz13_9
                    try clear hcz52_0
                    try clear hcz52_1
                    try clear hcz52_2
                    try clear hcz52_3
                    try clear hcz52_4
                    try clear hcz52_5
                    try clear hcz52_6
                    try clear hcz52_7
                    try clear hcz52_8
                    try clear hcz52_9
                    try clear hcz57_0
                    try clear hcz57_1
                    try clear hfz13_0
                    try clear hfz13_1
                    try clear hfz13_2
                    try clear hfz13_3
                    try clear hfz13_4
                    try clear hfz13_5
                    try clear hfz13_6
                    try clear hfz13_7
                    try clear hfz13_8
                    try clear hfz13_9
                    try clear hfz52_0
                    try clear hfz52_1
                    try clear hfz52_2
                    try clear hfz52_3
                    try clear hfz52_4
                    try clear hfz52_5
                    try clear hfz52_6
                    try clear hfz52_7
                    try clear hfz52_8
                    try clear hfz52_9
                    try clear hfz57_0
                    try clear hfz57_1
                    try clear hx298_0
                    try clear p2
                    try clear p29
                    try clear p298
                    try clear q1
                    try clear q2
                    try clear q29
                    try clear q298
                    obtain ⟨kq, x15_65, rfl, HA, HJ65, BK294, BK326, BK330, HB⟩ := hcut
                    cases kq with
                    | zero => exact absurd HA.out (by simp [parallaxlaw10_FramingClauses.j7])
                    | succ kj65 =>
                      have H := HA.out
                      clear HA
                      simp only [parallaxlaw10_FramingClauses.j7] at H
                      by_cases c68 : (rd y295 (ji6)) = 18
                      · rw [if_pos c68] at H
                        have c68b0 : ((rd y295 (ji6)) == 18) = true := beq_iff_eq.mpr c68
                        have c68b1 : ((rd y295 (ji6)) != 18) = false := bne_eq_false_iff_eq.mpr c68
                        clear c68
                        have HC69 := Aside0.mk H
                        clear H
                        go_upto_region 33 with (fail)
                        go_cut [4] (fun v4 wc => ∃ (kq : Nat) (x4_68 : Bool), v4 = .bool x4_68 ∧ Aside0 (parallaxlaw10_FramingClauses.j8 kq x4_68 = some r) ∧ Aside0 (kq ≤ kj65) ∧ Aside0 (wc.heap[gb294]? = some (.cells #[.int .i64 t284, .int .i64 t285, .int .i64 t286, .int .i64 t287, .int .i64 t288, .int .i64 t289, .int .i64 t290, .int .i64 t291, .bool t292, .bool t293] 30 (0, 0))) ∧ Aside0 (wc.heap[gb326]? = some (.cells #[.int .i64 t323, .int .i64 t324] 40 (0, 0))) ∧ Aside0 (wc.heap[gb330]? = some (.cells #[.int .i64 t327, .int .i64 t328] 40 (0, 0))) ∧ Aside0 (Below w.heap.size w wc))
                        case first =>
                          have H := HC69.out
                          clear HC69
                          by_cases c70 : t325 = 0
                          · rw [if_pos c70] at H
                            have c70b0 : (t325 == 0) = true := beq_iff_eq.mpr c70
                            have c70b1 : (t325 != 0) = false := bne_eq_false_iff_eq.mpr c70
                            clear c70
                            (first | rw [c70b0] | (simp only [i64_w, i32_w]; rw [c70b0]) | skip)
                            have H' := Aside0.mk H
                            clear H
                            go_wp2
                            go_meet
                            case rel => exact ⟨_, (false), (by first | rfl | (simp; done) | (simp [*]; done)), H', ⟨by have := HJ8.out; have := HJ50.out; have := HJ65.out; first | omega | exact Nat.le_refl _⟩, ⟨by (with_reducible repeat (first | refine blk_drewN ?_ _ | refine blk_drew ?_ | refine blk_alloc ?_ _)); exact BK294.out⟩, ⟨by (with_reducible repeat (first | refine blk_drewN ?_ _ | refine blk_drew ?_ | refine blk_alloc ?_ _)); exact BK326.out⟩, ⟨by (with_reducible repeat (first | refine blk_drewN ?_ _ | refine blk_drew ?_ | refine blk_alloc ?_ _)); exact BK330.out⟩, ⟨by repeat (first | (with_reducible first | exact HB.out | apply below_alloc | apply pw_below_drewN | apply below_drew1 | refine below_set ?_ GE294.out | refine below_set ?_ GE326.out | refine below_set ?_ GE330.out) | exact HB.out)⟩⟩
                          · rw [if_neg c70] at H
                            have c70b0 : (t325 == 0) = false := beq_eq_false_iff_ne.mpr c70
                            have c70b1 : (t325 != 0) = true := bne_iff_ne.mpr c70
                            (first | rw [c70b0] | (simp only [i64_w, i32_w]; rw [c70b0]) | skip)
                            by_cases c71 : t329 = 0
                            · rw [if_pos c71] at H
                              have c71b0 : (t329 == 0) = true := beq_iff_eq.mpr c71
                              have c71b1 : (t329 != 0) = false := bne_eq_false_iff_eq.mpr c71
                              clear c71
                              by_cases c72 : t327 = 2
                              · rw [if_pos c72] at H
                                have c72b0 : (t327 == 2) = true := beq_iff_eq.mpr c72
                                have c72b1 : (t327 != 2) = false := bne_eq_false_iff_eq.mpr c72
                                clear c72
                                have H' := Aside0.mk H
                                clear H
                                have hnb73 := NB330_294.out
                                have hnc73 := NB294_330.out
                                have hnb74 := NB330_326.out
                                have hnc74 := NB326_330.out
                                have hcz75_0 : wc.cell? ⟨gb330, 0, none⟩ = some (.int .i64 t327) := (blk_cell BK330.out 0).trans rfl
                                have hcz75_1 : wc.cell? ⟨gb330, 1, none⟩ = some (.int .i64 t328) := (blk_cell BK330.out 1).trans rfl
                                have hfz75_0 := blk_frozen BK330.out 0
                                have hfz75_1 := blk_frozen BK330.out 1
                                go_wp2
                                go_meet
                                case rel => exact ⟨_, ((t328 == x15_65)), (by first | rfl | (simp; done) | (simp [*]; done)), H', ⟨by have := HJ8.out; have := HJ50.out; have := HJ65.out; first | omega | exact Nat.le_refl _⟩, ⟨by (with_reducible repeat (first | refine blk_drewN ?_ _ | refine blk_drew ?_ | refine blk_alloc ?_ _)); exact BK294.out⟩, ⟨by (with_reducible repeat (first | refine blk_drewN ?_ _ | refine blk_drew ?_ | refine blk_alloc ?_ _)); exact BK326.out⟩, ⟨by (with_reducible repeat (first | refine blk_drewN ?_ _ | refine blk_drew ?_ | refine blk_alloc ?_ _)); exact BK330.out⟩, ⟨by repeat (first | (with_reducible first | exact HB.out | apply below_alloc | apply pw_below_drewN | apply below_drew1 | refine below_set ?_ GE294.out | refine below_set ?_ GE326.out | refine below_set ?_ GE330.out) | exact HB.out)⟩⟩
                              · rw [if_neg c72] at H
                                have c72b0 : (t327 == 2) = false := beq_eq_false_iff_ne.mpr c72
                                have c72b1 : (t327 != 2) = true := bne_iff_ne.mpr c72
                                have H' := Aside0.mk H
                                clear H
                                have hnb76 := NB330_294.out
                                have hnc76 := NB294_330.out
                                have hnb77 := NB330_326.out
                                have hnc77 := NB326_330.out
                                have hcz78_0 : wc.cell? ⟨gb330, 0, none⟩ = some (.int .i64 t327) := (blk_cell BK330.out 0).trans rfl
                                have hcz78_1 : wc.cell? ⟨gb330, 1, none⟩ = some (.int .i64 t328) := (blk_cell BK330.out 1).trans rfl
                                have hfz78_0 := blk_frozen BK330.out 0
                                have hfz78_1 := blk_frozen BK330.out 1
                                go_wp2
                                go_meet
                                case rel => exact ⟨_, (false), (by first | rfl | (simp; done) | (simp [*]; done)), H', ⟨by have := HJ8.out; have := HJ50.out; have := HJ65.out; first | omega | exact Nat.le_refl _⟩, ⟨by (with_reducible repeat (first | refine blk_drewN ?_ _ | refine blk_drew ?_ | refine blk_alloc ?_ _)); exact BK294.out⟩, ⟨by (with_reducible repeat (first | refine blk_drewN ?_ _ | refine blk_drew ?_ | refine blk_alloc ?_ _)); exact BK326.out⟩, ⟨by (with_reducible repeat (first | refine blk_drewN ?_ _ | refine blk_drew ?_ | refine blk_alloc ?_ _)); exact BK330.out⟩, ⟨by repeat (first | (with_reducible first | exact HB.out | apply below_alloc | apply pw_below_drewN | apply below_drew1 | refine below_set ?_ GE294.out | refine below_set ?_ GE326.out | refine below_set ?_ GE330.out) | exact HB.out)⟩⟩
                            · rw [if_neg c71] at H
                              have c71b0 : (t329 == 0) = false := beq_eq_false_iff_ne.mpr c71
                              have c71b1 : (t329 != 0) = true := bne_iff_ne.mpr c71
                              have H' := Aside0.mk H
                              clear H
                              go_wp2
                              go_meet
                              case rel => exact ⟨_, (false), (by first | rfl | (simp; done) | (simp [*]; done)), H', ⟨by have := HJ8.out; have := HJ50.out; have := HJ65.out; first | omega | exact Nat.le_refl _⟩, ⟨by (with_reducible repeat (first | refine blk_drewN ?_ _ | refine blk_drew ?_ | refine blk_alloc ?_ _)); exact BK294.out⟩, ⟨by (with_reducible repeat (first | refine blk_drewN ?_ _ | refine blk_drew ?_ | refine blk_alloc ?_ _)); exact BK326.out⟩, ⟨by (with_reducible repeat (first | refine blk_drewN ?_ _ | refine blk_drew ?_ | refine blk_alloc ?_ _)); exact BK330.out⟩, ⟨by repeat (first | (with_reducible first | exact HB.out | apply below_alloc | apply pw_below_drewN | apply below_drew1 | refine below_set ?_ GE294.out | refine below_set ?_ GE326.out | refine below_set ?_ GE330.out) | exact HB.out)⟩⟩
                        case rest =>
                          clear HC69
                          try clear c1
                          try clear q1
                          try clear c2
                          try clear p2
                          try clear q2
                          try clear hx2
                          try clear c3
                          try clear c4
                          try clear c5
                          try clear c6
                          try clear c7
                          try clear c7b0
                          try clear c8
                          try clear c8b0
                          try clear c14
                          try clear c19
                          try clear c19b0
                          try clear c19b1
                          try clear c21
                          try clear c21b0
                          try clear c21b1
                          try clear c22
                          try clear c24
                          try clear c25
                          try clear c25b0
                          try clear c25b1
                          try clear c26
                          try clear c29
                          try clear c29b0
                          try clear c29b1
                          try clear p29
                          try clear q29
                          try clear hx29
                          try clear c30
                          try clear c36
                          try clear c36b0
                          try clear c36b1
                          try clear c37
                          try clear c40
                          try clear c40b0
                          try clear c40b1
                          try clear c41
                          try clear c43
                          try clear c45
                          try clear c45b0
                          try clear c45b1
                          try clear c48
                          try clear c48b0
                          try clear c49
                          try clear c49b0
                          try clear c56
                          try clear c65
                          try clear c65b0
                          try clear c65b1
                          try clear c67
                          try clear c68
                          try clear c68b0
                          try clear c68b1
                          try clear c70
                          try clear c70b0
                          try clear c70b1
                          try clear c71
                          try clear c71b0
                          try clear c71b1
                          try clear c72
                          try clear c72b0
                          try clear c72b1
                          try clear c73
                          try clear c74
                          try clear c76
                          try clear c77
                          try clear hcz13_0
                          try clear hcz13_1
                          try clear hcz13_2
                          try clear hcz13_3
                          try clear hcz13_4
                          try clear hcz13_5
                          try clear hcz13_6
                          try clear hcz13_7
                          try clear hcz13_8
                          try clear hcz13_9
                          try clear hcz52_0
                          try clear hcz52_1
                          try clear hcz52_2
                          try clear hcz52_3
                          try clear hcz52_4
                          try clear hcz52_5
                          try clear hcz52_6
                          try clear hcz52_7
                          try clear hcz52_8
                          try clear hcz52_9
                          try clear hcz57_0
                          try clear hcz57_1
                          try clear hcz75_0
                          try clear hcz75_1
                          try clear hcz78_0
                          try clear hcz78_1
                          try clear hfz13_0
                          try clear hfz13_1
                          try clear hfz13_2
                          try clear hfz13_3
                          try clear hfz13_4
                          try clear hfz13_5
                          try clear hfz13_6
                          try clear hfz13_7
                          try clear hfz13_8
                          try clear hfz13_9
                          try clear hfz52_0
                          try clear hfz52_1
                          try clear hfz52_2
                          try clear hfz52_3
                          try clear hfz52_4
                          try clear hfz52_5
                          try clear hfz52_6
                          try clear hfz52_7
                          try clear hfz52_8
                          try clear hfz52_9
                          try clear hfz57_0
                          try clear hfz57_1
                          try clear hfz75_0
                          try clear hfz75_1
                          try clear hfz78_0
                          try clear hfz78_1
                          try clear hx298_0
                          try clear p2
                          try clear p29
                          try clear p298
                          try clear q1
                          try clear q2
                          try clear q29
                          try clear q298
                          obtain ⟨kq, x4_68, rfl, HA, HJ68, BK294, BK326, BK330, HB⟩ := hcut
                          cases kq with
                          | zero => exact absurd HA.out (by simp [parallaxlaw10_FramingClauses.j8])
                          | succ kj68 =>
                            have H := HA.out
                            clear HA
                            simp only [parallaxlaw10_FramingClauses.j8] at H
                            obtain rfl := Option.some.inj H
                            go_wp2
                            go_ret
                            exact ⟨by first | rfl | (simp [errW_none, errW_some] <;> rfl) | (simp only [← hji6, ← hji46]; first | rfl | (simp [errW_none, errW_some] <;> rfl)) | (simp [*, errW_none, errW_some] <;> rfl), by repeat (first | (with_reducible first | exact HB.out | apply below_alloc | apply pw_below_drewN | apply below_drew1 | refine below_set ?_ GE294.out | refine below_set ?_ GE326.out | refine below_set ?_ GE330.out) | exact HB.out)⟩
                      · rw [if_neg c68] at H
                        have c68b0 : ((rd y295 (ji6)) == 18) = false := beq_eq_false_iff_ne.mpr c68
                        have c68b1 : ((rd y295 (ji6)) != 18) = true := bne_iff_ne.mpr c68
                        have HC79 := Aside0.mk H
                        clear H
                        go_upto_if 102 with (fail)
                        go_cut [16] (fun v16 wc => ∃ (kq : Nat) (x16_78 : Int), v16 = .int .i64 x16_78 ∧ Aside0 (parallaxlaw10_FramingClauses.j9 kq t325 t329 x15_65 x16_78 t327 t328 = some r) ∧ Aside0 (kq ≤ kj65) ∧ Aside0 (wc.heap[gb294]? = some (.cells #[.int .i64 t284, .int .i64 t285, .int .i64 t286, .int .i64 t287, .int .i64 t288, .int .i64 t289, .int .i64 t290, .int .i64 t291, .bool t292, .bool t293] 30 (0, 0))) ∧ Aside0 (wc.heap[gb326]? = some (.cells #[.int .i64 t323, .int .i64 t324] 40 (0, 0))) ∧ Aside0 (wc.heap[gb330]? = some (.cells #[.int .i64 t327, .int .i64 t328] 40 (0, 0))) ∧ Aside0 (Below w.heap.size w wc))
                        case first =>
                          have H := HC79.out
                          clear HC79
                          by_cases c80 : (rd y295 (ji6)) = 20
                          · rw [if_pos c80] at H
                            have c80b0 : ((rd y295 (ji6)) == 20) = true := beq_iff_eq.mpr c80
                            have c80b1 : ((rd y295 (ji6)) != 20) = false := bne_eq_false_iff_eq.mpr c80
                            clear c80
                            (first | rw [c80b0] | (simp only [i64_w, i32_w]; rw [c80b0]) | skip)
                            have H' := Aside0.mk H
                            clear H
                            go_wp2
                            go_meet
                            case rel => exact ⟨_, (2), (by first | rfl | (simp; done) | (simp [*]; done)), H', ⟨by have := HJ8.out; have := HJ50.out; have := HJ65.out; first | omega | exact Nat.le_refl _⟩, ⟨by (with_reducible repeat (first | refine blk_drewN ?_ _ | refine blk_drew ?_ | refine blk_alloc ?_ _)); exact BK294.out⟩, ⟨by (with_reducible repeat (first | refine blk_drewN ?_ _ | refine blk_drew ?_ | refine blk_alloc ?_ _)); exact BK326.out⟩, ⟨by (with_reducible repeat (first | refine blk_drewN ?_ _ | refine blk_drew ?_ | refine blk_alloc ?_ _)); exact BK330.out⟩, ⟨by repeat (first | (with_reducible first | exact HB.out | apply below_alloc | apply pw_below_drewN | apply below_drew1 | refine below_set ?_ GE294.out | refine below_set ?_ GE326.out | refine below_set ?_ GE330.out) | exact HB.out)⟩⟩
                          · rw [if_neg c80] at H
                            have c80b0 : ((rd y295 (ji6)) == 20) = false := beq_eq_false_iff_ne.mpr c80
                            have c80b1 : ((rd y295 (ji6)) != 20) = true := bne_iff_ne.mpr c80
                            (first | rw [c80b0] | (simp only [i64_w, i32_w]; rw [c80b0]) | skip)
                            have H' := Aside0.mk H
                            clear H
                            go_wp2
                            go_meet
                            case rel => exact ⟨_, (1), (by first | rfl | (simp; done) | (simp [*]; done)), H', ⟨by have := HJ8.out; have := HJ50.out; have := HJ65.out; first | omega | exact Nat.le_refl _⟩, ⟨by (with_reducible repeat (first | refine blk_drewN ?_ _ | refine blk_drew ?_ | refine blk_alloc ?_ _)); exact BK294.out⟩, ⟨by (with_reducible repeat (first | refine blk_drewN ?_ _ | refine blk_drew ?_ | refine blk_alloc ?_ _)); exact BK326.out⟩, ⟨by (with_reducible repeat (first | refine blk_drewN ?_ _ | refine blk_drew ?_ | refine blk_alloc ?_ _)); exact BK330.out⟩, ⟨by repeat (first | (with_reducible first | exact HB.out | apply below_alloc | apply pw_below_drewN | apply below_drew1 | refine below_set ?_ GE294.out | refine below_set ?_ GE326.out | refine below_set ?_ GE330.out) | exact HB.out)⟩⟩
                        case rest =>
                          clear HC79
                          try clear c1
                          try clear q1
                          try clear c2
                          try clear p2
                          try clear q2
                          try clear hx2
                          try clear c3
                          try clear c4
                          try clear c5
                          try clear c6
                          try clear c7
                          try clear c7b0
                          try clear c8
                          try clear c8b0
                          try clear c14
                          try clear c19
                          try clear c19b0
                          try clear c19b1
                          try clear c21
                          try clear c21b0
                          try clear c21b1
                          try clear c22
                          try clear c24
                          try clear c25
                          try clear c25b0
                          try clear c25b1
                          try clear c26
                          try clear c29
                          try clear c29b0
                          try clear c29b1
                          try clear p29
                          try clear q29
                          try clear hx29
                          try clear c30
                          try clear c36
                          try clear c36b0
                          try clear c36b1
                          try clear c37
                          try clear c40
                          try clear c40b0
                          try clear c40b1
                          try clear c41
                          try clear c43
                          try clear c45
                          try clear c45b0
                          try clear c45b1
                          try clear c48
                          try clear c48b0
                          try clear c49
                          try clear c49b0
                          try clear c56
                          try clear c65
                          try clear c65b0
                          try clear c65b1
                          try clear c67
                          try clear c68
                          try clear c68b0
                          try clear c68b1
                          try clear c70
                          try clear c70b0
                          try clear c70b1
                          try clear c71
                          try clear c71b0
                          try clear c71b1
                          try clear c72
                          try clear c72b0
                          try clear c72b1
                          try clear c73
                          try clear c74
                          try clear c76
                          try clear c77
                          try clear c80
                          try clear c80b0
                          try clear c80b1
                          try clear hcz13_0
                          try clear hcz13_1
                          try clear hcz13_2
                          try clear hcz13_3
                          try clear hcz13_4
                          try clear hcz13_5
                          try clear hcz13_6
                          try clear hcz13_7
                          try clear hcz13_8
                          try clear hcz13_9
                          try clear hcz52_0
                          try clear hcz52_1
                          try clear hcz52_2
                          try clear hcz52_3
                          try clear hcz52_4
                          try clear hcz52_5
                          try clear hcz52_6
                          try clear hcz52_7
                          try clear hcz52_8
                          try clear hcz52_9
                          try clear hcz57_0
                          try clear hcz57_1
                          try clear hcz75_0
                          try clear hcz75_1
                          try clear hcz78_0
                          try clear hcz78_1
                          try clear hfz13_0
                          try clear hfz13_1
                          try clear hfz13_2
                          try clear hfz13_3
                          try clear hfz13_4
                          try clear hfz13_5
                          try clear hfz13_6
                          try clear hfz13_7
                          try clear hfz13_8
                          try clear hfz13_9
                          try clear hfz52_0
                          try clear hfz52_1
                          try clear hfz52_2
                          try clear hfz52_3
                          try clear hfz52_4
                          try clear hfz52_5
                          try clear hfz52_6
                          try clear hfz52_7
                          try clear hfz52_8
                          try clear hfz52_9
                          try clear hfz57_0
                          try clear hfz57_1
                          try clear hfz75_0
                          try clear hfz75_1
                          try clear hfz78_0
                          try clear hfz78_1
                          try clear hx298_0
                          try clear p2
                          try clear p29
                          try clear p298
                          try clear q1
                          try clear q2
                          try clear q29
                          try clear q298
                          obtain ⟨kq, x16_78, rfl, HA, HJ78, BK294, BK326, BK330, HB⟩ := hcut
                          cases kq with
                          | zero => exact absurd HA.out (by simp [parallaxlaw10_FramingClauses.j9])
                          | succ kj78 =>
                            have H := HA.out
                            clear HA
                            simp only [parallaxlaw10_FramingClauses.j9] at H
                            have HC81 := Aside0.mk H
                            clear H
                            go_upto_region 33 with (fail)
                            go_cut [4] (fun v4 wc => ∃ (kq : Nat) (x4_80 : Bool), v4 = .bool x4_80 ∧ Aside0 (parallaxlaw10_FramingClauses.j10 kq x4_80 = some r) ∧ Aside0 (kq ≤ kj78) ∧ Aside0 (wc.heap[gb294]? = some (.cells #[.int .i64 t284, .int .i64 t285, .int .i64 t286, .int .i64 t287, .int .i64 t288, .int .i64 t289, .int .i64 t290, .int .i64 t291, .bool t292, .bool t293] 30 (0, 0))) ∧ Aside0 (wc.heap[gb326]? = some (.cells #[.int .i64 t323, .int .i64 t324] 40 (0, 0))) ∧ Aside0 (wc.heap[gb330]? = some (.cells #[.int .i64 t327, .int .i64 t328] 40 (0, 0))) ∧ Aside0 (Below w.heap.size w wc))
                            case first =>
                              have H := HC81.out
                              clear HC81
                              by_cases c82 : t325 = 0
                              · rw [if_pos c82] at H
                                have c82b0 : (t325 == 0) = true := beq_iff_eq.mpr c82
                                have c82b1 : (t325 != 0) = false := bne_eq_false_iff_eq.mpr c82
                                clear c82
                                (first | rw [c82b0] | (simp only [i64_w, i32_w]; rw [c82b0]) | skip)
                                have H' := Aside0.mk H
                                clear H
                                go_wp2
                                go_meet
                                case rel => exact ⟨_, (false), (by first | rfl | (simp; done) | (simp [*]; done)), H', ⟨by have := HJ8.out; have := HJ50.out; have := HJ65.out; have := HJ78.out; first | omega | exact Nat.le_refl _⟩, ⟨by (with_reducible repeat (first | refine blk_drewN ?_ _ | refine blk_drew ?_ | refine blk_alloc ?_ _)); exact BK294.out⟩, ⟨by (with_reducible repeat (first | refine blk_drewN ?_ _ | refine blk_drew ?_ | refine blk_alloc ?_ _)); exact BK326.out⟩, ⟨by (with_reducible repeat (first | refine blk_drewN ?_ _ | refine blk_drew ?_ | refine blk_alloc ?_ _)); exact BK330.out⟩, ⟨by repeat (first | (with_reducible first | exact HB.out | apply below_alloc | apply pw_below_drewN | apply below_drew1 | refine below_set ?_ GE294.out | refine below_set ?_ GE326.out | refine below_set ?_ GE330.out) | exact HB.out)⟩⟩
                              · rw [if_neg c82] at H
                                have c82b0 : (t325 == 0) = false := beq_eq_false_iff_ne.mpr c82
                                have c82b1 : (t325 != 0) = true := bne_iff_ne.mpr c82
                                (first | rw [c82b0] | (simp only [i64_w, i32_w]; rw [c82b0]) | skip)
                                by_cases c83 : t329 = 0
                                · rw [if_pos c83] at H
                                  have c83b0 : (t329 == 0) = true := beq_iff_eq.mpr c83
                                  have c83b1 : (t329 != 0) = false := bne_eq_false_iff_eq.mpr c83
                                  clear c83
                                  by_cases c84 : t327 = x16_78
                                  · rw [if_pos c84] at H
                                    have c84b0 : (t327 == x16_78) = true := beq_iff_eq.mpr c84
                                    have c84b1 : (t327 != x16_78) = false := bne_eq_false_iff_eq.mpr c84
                                    clear c84
                                    have H' := Aside0.mk H
                                    clear H
                                    have hnb85 := NB330_294.out
                                    have hnc85 := NB294_330.out
                                    have hnb86 := NB330_326.out
                                    have hnc86 := NB326_330.out
                                    have hcz87_0 : wc.cell? ⟨gb330, 0, none⟩ = some (.int .i64 t327) := (blk_cell BK330.out 0).trans rfl
                                    have hcz87_1 : wc.cell? ⟨gb330, 1, none⟩ = some (.int .i64 t328) := (blk_cell BK330.out 1).trans rfl
                                    have hfz87_0 := blk_frozen BK330.out 0
                                    have hfz87_1 := blk_frozen BK330.out 1
                                    go_wp2
                                    go_meet
                                    case rel => exact ⟨_, ((t328 == x15_65)), (by first | rfl | (simp; done) | (simp [*]; done)), H', ⟨by have := HJ8.out; have := HJ50.out; have := HJ65.out; have := HJ78.out; first | omega | exact Nat.le_refl _⟩, ⟨by (with_reducible repeat (first | refine blk_drewN ?_ _ | refine blk_drew ?_ | refine blk_alloc ?_ _)); exact BK294.out⟩, ⟨by (with_reducible repeat (first | refine blk_drewN ?_ _ | refine blk_drew ?_ | refine blk_alloc ?_ _)); exact BK326.out⟩, ⟨by (with_reducible repeat (first | refine blk_drewN ?_ _ | refine blk_drew ?_ | refine blk_alloc ?_ _)); exact BK330.out⟩, ⟨by repeat (first | (with_reducible first | exact HB.out | apply below_alloc | apply pw_below_drewN | apply below_drew1 | refine below_set ?_ GE294.out | refine below_set ?_ GE326.out | refine below_set ?_ GE330.out) | exact HB.out)⟩⟩
                                  · rw [if_neg c84] at H
                                    have c84b0 : (t327 == x16_78) = false := beq_eq_false_iff_ne.mpr c84
                                    have c84b1 : (t327 != x16_78) = true := bne_iff_ne.mpr c84
                                    have H' := Aside0.mk H
                                    clear H
                                    have hnb88 := NB330_294.out
                                    have hnc88 := NB294_330.out
                                    have hnb89 := NB330_326.out
                                    have hnc89 := NB326_330.out
                                    have hcz90_0 : wc.cell? ⟨gb330, 0, none⟩ = some (.int .i64 t327) := (blk_cell BK330.out 0).trans rfl
                                    have hcz90_1 : wc.cell? ⟨gb330, 1, none⟩ = some (.int .i64 t328) := (blk_cell BK330.out 1).trans rfl
                                    have hfz90_0 := blk_frozen BK330.out 0
                                    have hfz90_1 := blk_frozen BK330.out 1
                                    go_wp2
                                    go_meet
                                    case rel => exact ⟨_, (false), (by first | rfl | (simp; done) | (simp [*]; done)), H', ⟨by have := HJ8.out; have := HJ50.out; have := HJ65.out; have := HJ78.out; first | omega | exact Nat.le_refl _⟩, ⟨by (with_reducible repeat (first | refine blk_drewN ?_ _ | refine blk_drew ?_ | refine blk_alloc ?_ _)); exact BK294.out⟩, ⟨by (with_reducible repeat (first | refine blk_drewN ?_ _ | refine blk_drew ?_ | refine blk_alloc ?_ _)); exact BK326.out⟩, ⟨by (with_reducible repeat (first | refine blk_drewN ?_ _ | refine blk_drew ?_ | refine blk_alloc ?_ _)); exact BK330.out⟩, ⟨by repeat (first | (with_reducible first | exact HB.out | apply below_alloc | apply pw_below_drewN | apply below_drew1 | refine below_set ?_ GE294.out | refine below_set ?_ GE326.out | refine below_set ?_ GE330.out) | exact HB.out)⟩⟩
                                · rw [if_neg c83] at H
                                  have c83b0 : (t329 == 0) = false := beq_eq_false_iff_ne.mpr c83
                                  have c83b1 : (t329 != 0) = true := bne_iff_ne.mpr c83
                                  have H' := Aside0.mk H
                                  clear H
                                  go_wp2
                                  go_meet
                                  case rel => exact ⟨_, (false), (by first | rfl | (simp; done) | (simp [*]; done)), H', ⟨by have := HJ8.out; have := HJ50.out; have := HJ65.out; have := HJ78.out; first | omega | exact Nat.le_refl _⟩, ⟨by (with_reducible repeat (first | refine blk_drewN ?_ _ | refine blk_drew ?_ | refine blk_alloc ?_ _)); exact BK294.out⟩, ⟨by (with_reducible repeat (first | refine blk_drewN ?_ _ | refine blk_drew ?_ | refine blk_alloc ?_ _)); exact BK326.out⟩, ⟨by (with_reducible repeat (first | refine blk_drewN ?_ _ | refine blk_drew ?_ | refine blk_alloc ?_ _)); exact BK330.out⟩, ⟨by repeat (first | (with_reducible first | exact HB.out | apply below_alloc | apply pw_below_drewN | apply below_drew1 | refine below_set ?_ GE294.out | refine below_set ?_ GE326.out | refine below_set ?_ GE330.out) | exact HB.out)⟩⟩
                            case rest =>
                              clear HC81
                              try clear c1
                              try clear q1
                              try clear c2
                              try clear p2
                              try clear q2
                              try clear hx2
                              try clear c3
                              try clear c4
                              try clear c5
                              try clear c6
                              try clear c7
                              try clear c7b0
                              try clear c8
                              try clear c8b0
                              try clear c14
                              try clear c19
                              try clear c19b0
                              try clear c19b1
                              try clear c21
                              try clear c21b0
                              try clear c21b1
                              try clear c22
                              try clear c24
                              try clear c25
                              try clear c25b0
                              try clear c25b1
                              try clear c26
                              try clear c29
                              try clear c29b0
                              try clear c29b1
                              try clear p29
                              try clear q29
                              try clear hx29
                              try clear c30
                              try clear c36
                              try clear c36b0
                              try clear c36b1
                              try clear c37
                              try clear c40
                              try clear c40b0
                              try clear c40b1
                              try clear c41
                              try clear c43
                              try clear c45
                              try clear c45b0
                              try clear c45b1
                              try clear c48
                              try clear c48b0
                              try clear c49
                              try clear c49b0
                              try clear c56
                              try clear c65
                              try clear c65b0
                              try clear c65b1
                              try clear c67
                              try clear c68
                              try clear c68b0
                              try clear c68b1
                              try clear c70
                              try clear c70b0
                              try clear c70b1
                              try clear c71
                              try clear c71b0
                              try clear c71b1
                              try clear c72
                              try clear c72b0
                              try clear c72b1
                              try clear c73
                              try clear c74
                              try clear c76
                              try clear c77
                              try clear c80
                              try clear c80b0
                              try clear c80b1
                              try clear c82
                              try clear c82b0
                              try clear c82b1
                              try clear c83
                              try clear c83b0
                              try clear c83b1
                              try clear c84
                              try clear c84b0
                              try clear c84b1
                              try clear c85
                              try clear c86
                              try clear c88
                              try clear c89
                              try clear hcz13_0
                              try clear hcz13_1
                              try clear hcz13_2
                              try clear hcz13_3
                              try clear hcz13_4
                              try clear hcz13_5
                              try clear hcz13_6
                              try clear hcz13_7
                              try clear hcz13_8
                              try clear hcz13_9
                              try clear hcz52_0
                              try clear hcz52_1
                              try clear hcz52_2
                              try clear hcz52_3
                              try clear hcz52_4
                              try clear hcz52_5
                              try clear hcz52_6
                              try clear hcz52_7
                              try clear hcz52_8
                              try clear hcz52_9
                              try clear hcz57_0
                              try clear hcz57_1
                              try clear hcz75_0
                              try clear hcz75_1
                              try clear hcz78_0
                              try clear hcz78_1
                              try clear hcz87_0
                              try clear hcz87_1
                              try clear hcz90_0
                              try clear hcz90_1
                              try clear hfz13_0
                              try clear hfz13_1
                              try clear hfz13_2
                              try clear hfz13_3
                              try clear hfz13_4
                              try clear hfz13_5
                              try clear hfz13_6
                              try clear hfz13_7
                              try clear hfz13_8
                              try clear hfz13_9
                              try clear hfz52_0
                              try clear hfz52_1
                              try clear hfz52_2
                              try clear hfz52_3
                              try clear hfz52_4
                              try clear hfz52_5
                              try clear hfz52_6
                              try clear hfz52_7
                              try clear hfz52_8
                              try clear hfz52_9
                              try clear hfz57_0
                              try clear hfz57_1
                              try clear hfz75_0
                              try clear hfz75_1
                              try clear hfz78_0
                              try clear hfz78_1
                              try clear hfz87_0
                              try clear hfz87_1
                              try clear hfz90_0
                              try clear hfz90_1
                              try clear hx298_0
                              try clear p2
                              try clear p29
                              try clear p298
                              try clear q1
                              try clear q2
                              try clear q29
                              try clear q298
                              obtain ⟨kq, x4_80, rfl, HA, HJ80, BK294, BK326, BK330, HB⟩ := hcut
                              cases kq with
                              | zero => exact absurd HA.out (by simp [parallaxlaw10_FramingClauses.j10])
                              | succ kj80 =>
                                have H := HA.out
                                clear HA
                                simp only [parallaxlaw10_FramingClauses.j10] at H
                                obtain rfl := Option.some.inj H
                                go_wp2
                                go_ret
                                exact ⟨by first | rfl | (simp [errW_none, errW_some] <;> rfl) | (simp only [← hji6, ← hji46]; first | rfl | (simp [errW_none, errW_some] <;> rfl)) | (simp [*, errW_none, errW_some] <;> rfl), by repeat (first | (with_reducible first | exact HB.out | apply below_alloc | apply pw_below_drewN | apply below_drew1 | refine below_set ?_ GE294.out | refine below_set ?_ GE326.out | refine below_set ?_ GE330.out) | exact HB.out)⟩
            · rw [if_neg c45] at H
              exact absurd H (by simp)
      · rw [if_neg c8] at H
        exact absurd H (by simp)
    · rw [if_neg c7] at H
      exact absurd H (by simp)
  · replace c4 := Bool.eq_false_iff.mpr c4
    subst c4
    rw [if_neg (show ¬ (false = true) by decide)] at H
    exact absurd ((Option.some.inj H).trans HT.out) (by decide)

/-- THE ONE PURE STATEMENT of parallaxlaw10_FramingClauses: yours. -/
def parallaxlaw10_FramingClauses.Pure : Prop := ∀ (a0 : Int) (a1 : Int), (Lit.int .u8 a0).wf = true → (Lit.int .u32 a1).wf = true → ∃ k, parallaxlaw10_FramingClauses.f k a0 a1 = some true
theorem parallaxlaw10_FramingClauses.walk (P : parallaxlaw10_FramingClauses.Pure) (a0 : Int) (a1 : Int) (w : World) (w0 : (Lit.int .u8 a0).wf = true) (w1 : (Lit.int .u32 a1).wf = true) :
    Calls Tryd.prog 5 #[.int .u8 a0, .int .u32 a1] w fun e w' => e = .returned (.bool true) ∧ Below w.heap.size w w' := by
  obtain ⟨k, h⟩ := P a0 a1 w0 w1
  refine (parallaxlaw10_FramingClauses.calls k a0 a1 true w w0 w1 rfl h).mono ?_
  rintro e w' ⟨rfl, hd⟩
  exact ⟨rfl, hd⟩

end Go.Proofs.YtlheepfjdmhplaaDoor.PFramingClauses
