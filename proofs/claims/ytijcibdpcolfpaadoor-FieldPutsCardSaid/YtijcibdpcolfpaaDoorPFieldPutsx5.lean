-- Written by a program of this session (wip/tools/myprint.sh)
import Derived.Test.YtijcibdpcolfpaaDoorPFieldPutsx0
import Derived.Test.YtijcibdpcolfpaaDoorPFieldPutsx1
import Derived.Test.YtijcibdpcolfpaaDoorPFieldPutsx3
import Derived.Test.YtijcibdpcolfpaaDoorPFieldPutsx4
namespace Go.Proofs.YtijcibdpcolfpaaDoor.PFieldPuts
open Go.RowKit Go.Proofs.YtijcibdpcolfpaaDoorW.PrintWords Go.Proofs.YtijcibdpcolfpaaDoorW.PrintLast Go.Proofs.YtijcibdpcolfpaaDoorW.PrintMore
attribute [local go_sem] max2_int min2_int max_two min_two max_three min_three max_four min_four   -- for this text's walks alone
set_option linter.unusedVariables false
set_option linter.unusedSimpArgs false

attribute [local go_sem high] eqA25
/-! ### parallaxlaw9_FieldPuts: function 6 -/
mutual
def parallaxlaw9_FieldPuts.j0 : Nat → List (S51) → List ByteArray → Bool → Option (Bool)
 | 0, _, _, _ => none
 | k + 1, x0, x1, x24 => if x24 = true then (some true) else (parallaxlaw9_FieldPuts.l0 k x0 x1 ([] : List (S25)) 0)
def parallaxlaw9_FieldPuts.l0 : Nat → List (S51) → List ByteArray → List (S25) → Int → Option (Bool)
 | 0, _, _, _, _ => none
 | k + 1, x0, x1, x5, x6 => if x6 < (x0.length : Int) then ((some (([(⟨#[65]⟩ : ByteArray), (⟨#[72, 111, 115, 116]⟩ : ByteArray), (⟨#[120, 45, 121]⟩ : ByteArray), (⟨#[33, 126]⟩ : ByteArray)] : List ByteArray) : List ByteArray)).bind fun y190 => (if 0 ≤ x6 then (if 0 ≤ (Int.tmod ((rd_T51 x0 x6).f0) 4) then (if (Int.tmod ((rd_T51 x0 x6).f0) 4) < (y190.length : Int) then ((some (([(⟨#[]⟩ : ByteArray), (⟨#[98]⟩ : ByteArray), (⟨#[99, 32, 100]⟩ : ByteArray), (⟨#[195, 169, 58, 44]⟩ : ByteArray)] : List ByteArray) : List ByteArray)).bind fun y195 => (if 0 ≤ (Int.tmod ((rd_T51 x0 x6).f1) 4) then (if (Int.tmod ((rd_T51 x0 x6).f1) 4) < (y195.length : Int) then (if x6 < (x1.length : Int) then (if ((rdOf ByteArray.empty x1 x6).size : Int) < 40 then ((field_Right.f k (⟨#[65]⟩ : ByteArray) (rdOf ByteArray.empty x1 x6)).bind fun t203 => (parallaxlaw9_FieldPuts.j2 k x0 x1 x5 x6 t203 (rdOf ByteArray.empty y190 (Int.tmod ((rd_T51 x0 x6).f0) 4)) (rdOf ByteArray.empty y195 (Int.tmod ((rd_T51 x0 x6).f1) 4)))) else (parallaxlaw9_FieldPuts.j2 k x0 x1 x5 x6 false (rdOf ByteArray.empty y190 (Int.tmod ((rd_T51 x0 x6).f0) 4)) (rdOf ByteArray.empty y195 (Int.tmod ((rd_T51 x0 x6).f1) 4)))) else (parallaxlaw9_FieldPuts.j2 k x0 x1 x5 x6 false (rdOf ByteArray.empty y190 (Int.tmod ((rd_T51 x0 x6).f0) 4)) (rdOf ByteArray.empty y195 (Int.tmod ((rd_T51 x0 x6).f1) 4)))) else (none)) else (none))) else (none)) else (none)) else (none))) else ((field_Put.f x5).bind fun t208 => (parallaxlaw9_FieldPuts.l1 k x5 t208 0 0 1))
def parallaxlaw9_FieldPuts.j2 : Nat → List (S51) → List ByteArray → List (S25) → Int → Bool → ByteArray → ByteArray → Option (Bool)
 | 0, _, _, _, _, _, _, _ => none
 | k + 1, x0, x1, x5, x6, x69, x201000, x201001 => if x69 = true then (if 0 ≤ x6 then (if x6 < (x1.length : Int) then (parallaxlaw9_FieldPuts.j3 k x0 x1 x5 x6 x201000 (rdOf ByteArray.empty x1 x6)) else (none)) else (none)) else (parallaxlaw9_FieldPuts.j3 k x0 x1 x5 x6 x201000 x201001)
def parallaxlaw9_FieldPuts.j3 : Nat → List (S51) → List ByteArray → List (S25) → Int → ByteArray → ByteArray → Option (Bool)
 | 0, _, _, _, _, _, _ => none
 | k + 1, x0, x1, x5, x6, x201000, x201001 => if x5.length < 4398046511104 then (parallaxlaw9_FieldPuts.l0 k x0 x1 (x5 ++ [(⟨x201000, x201001⟩ : S25)]) (wrap64 (x6 + 1))) else (none)
def parallaxlaw9_FieldPuts.l1 : Nat → List (S25) → ByteArray → Int → Int → Int → Option (Bool)
 | 0, _, _, _, _, _ => none
 | k + 1, x5, x8, x9, x10, x11 => if x11 < (x8.size : Int) then (if 0 ≤ (wrap64 (x11 - 1)) then (if (wrap64 (x11 - 1)) < (x8.size : Int) then (if (bt x8 (wrap64 (x11 - 1))) = 13 then (if 0 ≤ x11 then (parallaxlaw9_FieldPuts.j5 k x5 x8 x9 x10 x11 ((bt x8 x11) != 10)) else (none)) else (parallaxlaw9_FieldPuts.j5 k x5 x8 x9 x10 x11 true)) else (none)) else (none)) else (if x9 = (x5.length : Int) then (some (x10 == (x8.size : Int))) else (some false))
def parallaxlaw9_FieldPuts.j7 : Nat → List (S25) → ByteArray → Int → Int → Int → Option (Bool)
 | 0, _, _, _, _, _ => none
 | k + 1, x5, x8, x9, x10, x11 => parallaxlaw9_FieldPuts.l1 k x5 x8 x9 x10 (wrap64 (x11 + 1))
def parallaxlaw9_FieldPuts.j5 : Nat → List (S25) → ByteArray → Int → Int → Int → Bool → Option (Bool)
 | 0, _, _, _, _, _, _ => none
 | k + 1, x5, x8, x9, x10, x11, x97 => if x97 = true then (parallaxlaw9_FieldPuts.j7 k x5 x8 x9 x10 x11) else (if 0 ≤ x10 then (if x10 ≤ (wrap64 (x11 - 1)) then (if (wrap64 (x11 - 1)) ≤ (x8.size : Int) then ((field_Parse.f k (x8.extract (x10 : Int).toNat ((wrap64 (x11 - 1)) : Int).toNat) 0).bind fun bt209 => (if bt209.2.2.1 = true then (if bt209.2.2.2 = 0 then (if x9 ≥ (x5.length : Int) then (parallaxlaw9_FieldPuts.j6 k x5 x8 x9 x11 true) else (if 0 ≤ x9 then (if x9 < (x5.length : Int) then (parallaxlaw9_FieldPuts.j6 k x5 x8 x9 x11 (!(bt209.1.toList == (((rd_T25 x5 x9).f0).toList)) || (!(bt209.2.1.toList == (((rd_T25 x5 x9).f1).toList))))) else (none)) else (none))) else (parallaxlaw9_FieldPuts.j6 k x5 x8 x9 x11 true)) else (parallaxlaw9_FieldPuts.j6 k x5 x8 x9 x11 true))) else (none)) else (none)) else (none))
def parallaxlaw9_FieldPuts.j6 : Nat → List (S25) → ByteArray → Int → Int → Bool → Option (Bool)
 | 0, _, _, _, _, _ => none
 | k + 1, x5, x8, x9, x11, x127 => if x127 = true then (some false) else (parallaxlaw9_FieldPuts.j7 k x5 x8 (wrap64 (x9 + 1)) (wrap64 (x11 + 1)) x11)
end
def parallaxlaw9_FieldPuts.f (k : Nat) (l0 : List (S51)) (l1 : List ByteArray) : Option (Bool) := (parallaxlaw9_known.f k).bind fun t189 => (if t189 = true then (if (l0.length : Int) > 10 then (parallaxlaw9_FieldPuts.j0 k l0 l1 true) else (parallaxlaw9_FieldPuts.j0 k l0 l1 (decide ((l1.length : Int) > 10)))) else (some false))
theorem parallaxlaw9_FieldPuts.mono_l : ∀ k, (∀ y0 y1 y2, LeO (parallaxlaw9_FieldPuts.j0 k y0 y1 y2) (parallaxlaw9_FieldPuts.j0 (k + 1) y0 y1 y2)) ∧ (∀ y0 y1 y2 y3, LeO (parallaxlaw9_FieldPuts.l0 k y0 y1 y2 y3) (parallaxlaw9_FieldPuts.l0 (k + 1) y0 y1 y2 y3)) ∧ (∀ y0 y1 y2 y3 y4 y5 y6, LeO (parallaxlaw9_FieldPuts.j2 k y0 y1 y2 y3 y4 y5 y6) (parallaxlaw9_FieldPuts.j2 (k + 1) y0 y1 y2 y3 y4 y5 y6)) ∧ (∀ y0 y1 y2 y3 y4 y5, LeO (parallaxlaw9_FieldPuts.j3 k y0 y1 y2 y3 y4 y5) (parallaxlaw9_FieldPuts.j3 (k + 1) y0 y1 y2 y3 y4 y5)) ∧ (∀ y0 y1 y2 y3 y4, LeO (parallaxlaw9_FieldPuts.l1 k y0 y1 y2 y3 y4) (parallaxlaw9_FieldPuts.l1 (k + 1) y0 y1 y2 y3 y4)) ∧ (∀ y0 y1 y2 y3 y4, LeO (parallaxlaw9_FieldPuts.j7 k y0 y1 y2 y3 y4) (parallaxlaw9_FieldPuts.j7 (k + 1) y0 y1 y2 y3 y4)) ∧ (∀ y0 y1 y2 y3 y4 y5, LeO (parallaxlaw9_FieldPuts.j5 k y0 y1 y2 y3 y4 y5) (parallaxlaw9_FieldPuts.j5 (k + 1) y0 y1 y2 y3 y4 y5)) ∧ (∀ y0 y1 y2 y3 y4, LeO (parallaxlaw9_FieldPuts.j6 k y0 y1 y2 y3 y4) (parallaxlaw9_FieldPuts.j6 (k + 1) y0 y1 y2 y3 y4))
 | 0 => ⟨fun _ _ _ r h => by simp [parallaxlaw9_FieldPuts.j0] at h, fun _ _ _ _ r h => by simp [parallaxlaw9_FieldPuts.l0] at h, fun _ _ _ _ _ _ _ r h => by simp [parallaxlaw9_FieldPuts.j2] at h, fun _ _ _ _ _ _ r h => by simp [parallaxlaw9_FieldPuts.j3] at h, fun _ _ _ _ _ r h => by simp [parallaxlaw9_FieldPuts.l1] at h, fun _ _ _ _ _ r h => by simp [parallaxlaw9_FieldPuts.j7] at h, fun _ _ _ _ _ _ r h => by simp [parallaxlaw9_FieldPuts.j5] at h, fun _ _ _ _ _ r h => by simp [parallaxlaw9_FieldPuts.j6] at h⟩
 | k + 1 => by
  obtain ⟨ih0, ih1, ih2, ih3, ih4, ih5, ih6, ih7⟩ := parallaxlaw9_FieldPuts.mono_l k
  refine ⟨?_, ?_, ?_, ?_, ?_, ?_, ?_, ?_⟩
  ·intro y0 y1 y2
   unfold parallaxlaw9_FieldPuts.j0
   repeat' first
   | (with_reducible exact ih0 _ _ _)
   | (with_reducible exact ih1 _ _ _ _)
   | (with_reducible exact ih2 _ _ _ _ _ _ _)
   | (with_reducible exact ih3 _ _ _ _ _ _)
   | (with_reducible exact ih4 _ _ _ _ _)
   | (with_reducible exact ih5 _ _ _ _ _)
   | (with_reducible exact ih6 _ _ _ _ _ _)
   | (with_reducible exact ih7 _ _ _ _ _)
   | (with_reducible exact field_Parse.mono _ _ _)
   | (with_reducible exact field_Right.mono _ _ _)
   | (with_reducible exact parallaxlaw9_known.mono _)
   | (with_reducible exact LeO.refl _)
   | (with_reducible exact LeO.none _)
   | (with_reducible refine LeO.ite ?_ ?_)
   | (with_reducible refine LeO.bind ?_ (fun _ => ?_))
   | exact ih0 _ _ _
   | exact ih1 _ _ _ _
   | exact ih2 _ _ _ _ _ _ _
   | exact ih3 _ _ _ _ _ _
   | exact ih4 _ _ _ _ _
   | exact ih5 _ _ _ _ _
   | exact ih6 _ _ _ _ _ _
   | exact ih7 _ _ _ _ _
   | exact field_Parse.mono _ _ _
   | exact field_Right.mono _ _ _
   | exact parallaxlaw9_known.mono _
   | exact LeO.none _
   | refine LeO.ite ?_ ?_
   | refine LeO.bind ?_ (fun _ => ?_)
  ·intro y0 y1 y2 y3
   unfold parallaxlaw9_FieldPuts.l0
   repeat' first
   | (with_reducible exact ih0 _ _ _)
   | (with_reducible exact ih1 _ _ _ _)
   | (with_reducible exact ih2 _ _ _ _ _ _ _)
   | (with_reducible exact ih3 _ _ _ _ _ _)
   | (with_reducible exact ih4 _ _ _ _ _)
   | (with_reducible exact ih5 _ _ _ _ _)
   | (with_reducible exact ih6 _ _ _ _ _ _)
   | (with_reducible exact ih7 _ _ _ _ _)
   | (with_reducible exact field_Parse.mono _ _ _)
   | (with_reducible exact field_Right.mono _ _ _)
   | (with_reducible exact parallaxlaw9_known.mono _)
   | (with_reducible exact LeO.refl _)
   | (with_reducible exact LeO.none _)
   | (with_reducible refine LeO.ite ?_ ?_)
   | (with_reducible refine LeO.bind ?_ (fun _ => ?_))
   | exact ih0 _ _ _
   | exact ih1 _ _ _ _
   | exact ih2 _ _ _ _ _ _ _
   | exact ih3 _ _ _ _ _ _
   | exact ih4 _ _ _ _ _
   | exact ih5 _ _ _ _ _
   | exact ih6 _ _ _ _ _ _
   | exact ih7 _ _ _ _ _
   | exact field_Parse.mono _ _ _
   | exact field_Right.mono _ _ _
   | exact parallaxlaw9_known.mono _
   | exact LeO.none _
   | refine LeO.ite ?_ ?_
   | refine LeO.bind ?_ (fun _ => ?_)
  ·intro y0 y1 y2 y3 y4 y5 y6
   unfold parallaxlaw9_FieldPuts.j2
   repeat' first
   | (with_reducible exact ih0 _ _ _)
   | (with_reducible exact ih1 _ _ _ _)
   | (with_reducible exact ih2 _ _ _ _ _ _ _)
   | (with_reducible exact ih3 _ _ _ _ _ _)
   | (with_reducible exact ih4 _ _ _ _ _)
   | (with_reducible exact ih5 _ _ _ _ _)
   | (with_reducible exact ih6 _ _ _ _ _ _)
   | (with_reducible exact ih7 _ _ _ _ _)
   | (with_reducible exact field_Parse.mono _ _ _)
   | (with_reducible exact field_Right.mono _ _ _)
   | (with_reducible exact parallaxlaw9_known.mono _)
   | (with_reducible exact LeO.refl _)
   | (with_reducible exact LeO.none _)
   | (with_reducible refine LeO.ite ?_ ?_)
   | (with_reducible refine LeO.bind ?_ (fun _ => ?_))
   | exact ih0 _ _ _
   | exact ih1 _ _ _ _
   | exact ih2 _ _ _ _ _ _ _
   | exact ih3 _ _ _ _ _ _
   | exact ih4 _ _ _ _ _
   | exact ih5 _ _ _ _ _
   | exact ih6 _ _ _ _ _ _
   | exact ih7 _ _ _ _ _
   | exact field_Parse.mono _ _ _
   | exact field_Right.mono _ _ _
   | exact parallaxlaw9_known.mono _
   | exact LeO.none _
   | refine LeO.ite ?_ ?_
   | refine LeO.bind ?_ (fun _ => ?_)
  ·intro y0 y1 y2 y3 y4 y5
   unfold parallaxlaw9_FieldPuts.j3
   repeat' first
   | (with_reducible exact ih0 _ _ _)
   | (with_reducible exact ih1 _ _ _ _)
   | (with_reducible exact ih2 _ _ _ _ _ _ _)
   | (with_reducible exact ih3 _ _ _ _ _ _)
   | (with_reducible exact ih4 _ _ _ _ _)
   | (with_reducible exact ih5 _ _ _ _ _)
   | (with_reducible exact ih6 _ _ _ _ _ _)
   | (with_reducible exact ih7 _ _ _ _ _)
   | (with_reducible exact field_Parse.mono _ _ _)
   | (with_reducible exact field_Right.mono _ _ _)
   | (with_reducible exact parallaxlaw9_known.mono _)
   | (with_reducible exact LeO.refl _)
   | (with_reducible exact LeO.none _)
   | (with_reducible refine LeO.ite ?_ ?_)
   | (with_reducible refine LeO.bind ?_ (fun _ => ?_))
   | exact ih0 _ _ _
   | exact ih1 _ _ _ _
   | exact ih2 _ _ _ _ _ _ _
   | exact ih3 _ _ _ _ _ _
   | exact ih4 _ _ _ _ _
   | exact ih5 _ _ _ _ _
   | exact ih6 _ _ _ _ _ _
   | exact ih7 _ _ _ _ _
   | exact field_Parse.mono _ _ _
   | exact field_Right.mono _ _ _
   | exact parallaxlaw9_known.mono _
   | exact LeO.none _
   | refine LeO.ite ?_ ?_
   | refine LeO.bind ?_ (fun _ => ?_)
  ·intro y0 y1 y2 y3 y4
   unfold parallaxlaw9_FieldPuts.l1
   repeat' first
   | (with_reducible exact ih0 _ _ _)
   | (with_reducible exact ih1 _ _ _ _)
   | (with_reducible exact ih2 _ _ _ _ _ _ _)
   | (with_reducible exact ih3 _ _ _ _ _ _)
   | (with_reducible exact ih4 _ _ _ _ _)
   | (with_reducible exact ih5 _ _ _ _ _)
   | (with_reducible exact ih6 _ _ _ _ _ _)
   | (with_reducible exact ih7 _ _ _ _ _)
   | (with_reducible exact field_Parse.mono _ _ _)
   | (with_reducible exact field_Right.mono _ _ _)
   | (with_reducible exact parallaxlaw9_known.mono _)
   | (with_reducible exact LeO.refl _)
   | (with_reducible exact LeO.none _)
   | (with_reducible refine LeO.ite ?_ ?_)
   | (with_reducible refine LeO.bind ?_ (fun _ => ?_))
   | exact ih0 _ _ _
   | exact ih1 _ _ _ _
   | exact ih2 _ _ _ _ _ _ _
   | exact ih3 _ _ _ _ _ _
   | exact ih4 _ _ _ _ _
   | exact ih5 _ _ _ _ _
   | exact ih6 _ _ _ _ _ _
   | exact ih7 _ _ _ _ _
   | exact field_Parse.mono _ _ _
   | exact field_Right.mono _ _ _
   | exact parallaxlaw9_known.mono _
   | exact LeO.none _
   | refine LeO.ite ?_ ?_
   | refine LeO.bind ?_ (fun _ => ?_)
  ·intro y0 y1 y2 y3 y4
   unfold parallaxlaw9_FieldPuts.j7
   repeat' first
   | (with_reducible exact ih0 _ _ _)
   | (with_reducible exact ih1 _ _ _ _)
   | (with_reducible exact ih2 _ _ _ _ _ _ _)
   | (with_reducible exact ih3 _ _ _ _ _ _)
   | (with_reducible exact ih4 _ _ _ _ _)
   | (with_reducible exact ih5 _ _ _ _ _)
   | (with_reducible exact ih6 _ _ _ _ _ _)
   | (with_reducible exact ih7 _ _ _ _ _)
   | (with_reducible exact field_Parse.mono _ _ _)
   | (with_reducible exact field_Right.mono _ _ _)
   | (with_reducible exact parallaxlaw9_known.mono _)
   | (with_reducible exact LeO.refl _)
   | (with_reducible exact LeO.none _)
   | (with_reducible refine LeO.ite ?_ ?_)
   | (with_reducible refine LeO.bind ?_ (fun _ => ?_))
   | exact ih0 _ _ _
   | exact ih1 _ _ _ _
   | exact ih2 _ _ _ _ _ _ _
   | exact ih3 _ _ _ _ _ _
   | exact ih4 _ _ _ _ _
   | exact ih5 _ _ _ _ _
   | exact ih6 _ _ _ _ _ _
   | exact ih7 _ _ _ _ _
   | exact field_Parse.mono _ _ _
   | exact field_Right.mono _ _ _
   | exact parallaxlaw9_known.mono _
   | exact LeO.none _
   | refine LeO.ite ?_ ?_
   | refine LeO.bind ?_ (fun _ => ?_)
  ·intro y0 y1 y2 y3 y4 y5
   unfold parallaxlaw9_FieldPuts.j5
   repeat' first
   | (with_reducible exact ih0 _ _ _)
   | (with_reducible exact ih1 _ _ _ _)
   | (with_reducible exact ih2 _ _ _ _ _ _ _)
   | (with_reducible exact ih3 _ _ _ _ _ _)
   | (with_reducible exact ih4 _ _ _ _ _)
   | (with_reducible exact ih5 _ _ _ _ _)
   | (with_reducible exact ih6 _ _ _ _ _ _)
   | (with_reducible exact ih7 _ _ _ _ _)
   | (with_reducible exact field_Parse.mono _ _ _)
   | (with_reducible exact field_Right.mono _ _ _)
   | (with_reducible exact parallaxlaw9_known.mono _)
   | (with_reducible exact LeO.refl _)
   | (with_reducible exact LeO.none _)
   | (with_reducible refine LeO.ite ?_ ?_)
   | (with_reducible refine LeO.bind ?_ (fun _ => ?_))
   | exact ih0 _ _ _
   | exact ih1 _ _ _ _
   | exact ih2 _ _ _ _ _ _ _
   | exact ih3 _ _ _ _ _ _
   | exact ih4 _ _ _ _ _
   | exact ih5 _ _ _ _ _
   | exact ih6 _ _ _ _ _ _
   | exact ih7 _ _ _ _ _
   | exact field_Parse.mono _ _ _
   | exact field_Right.mono _ _ _
   | exact parallaxlaw9_known.mono _
   | exact LeO.none _
   | refine LeO.ite ?_ ?_
   | refine LeO.bind ?_ (fun _ => ?_)
  ·intro y0 y1 y2 y3 y4
   unfold parallaxlaw9_FieldPuts.j6
   repeat' first
   | (with_reducible exact ih0 _ _ _)
   | (with_reducible exact ih1 _ _ _ _)
   | (with_reducible exact ih2 _ _ _ _ _ _ _)
   | (with_reducible exact ih3 _ _ _ _ _ _)
   | (with_reducible exact ih4 _ _ _ _ _)
   | (with_reducible exact ih5 _ _ _ _ _)
   | (with_reducible exact ih6 _ _ _ _ _ _)
   | (with_reducible exact ih7 _ _ _ _ _)
   | (with_reducible exact field_Parse.mono _ _ _)
   | (with_reducible exact field_Right.mono _ _ _)
   | (with_reducible exact parallaxlaw9_known.mono _)
   | (with_reducible exact LeO.refl _)
   | (with_reducible exact LeO.none _)
   | (with_reducible refine LeO.ite ?_ ?_)
   | (with_reducible refine LeO.bind ?_ (fun _ => ?_))
   | exact ih0 _ _ _
   | exact ih1 _ _ _ _
   | exact ih2 _ _ _ _ _ _ _
   | exact ih3 _ _ _ _ _ _
   | exact ih4 _ _ _ _ _
   | exact ih5 _ _ _ _ _
   | exact ih6 _ _ _ _ _ _
   | exact ih7 _ _ _ _ _
   | exact field_Parse.mono _ _ _
   | exact field_Right.mono _ _ _
   | exact parallaxlaw9_known.mono _
   | exact LeO.none _
   | refine LeO.ite ?_ ?_
   | refine LeO.bind ?_ (fun _ => ?_)
theorem parallaxlaw9_FieldPuts.mono : ∀ a0 a1 k, LeO (parallaxlaw9_FieldPuts.f k a0 a1) (parallaxlaw9_FieldPuts.f (k + 1) a0 a1) := by
 intro a0 a1 k
 obtain ⟨ih0, ih1, ih2, ih3, ih4, ih5, ih6, ih7⟩ := parallaxlaw9_FieldPuts.mono_l k
 unfold parallaxlaw9_FieldPuts.f
 repeat' first
   | (with_reducible exact ih0 _ _ _)
   | (with_reducible exact ih1 _ _ _ _)
   | (with_reducible exact ih2 _ _ _ _ _ _ _)
   | (with_reducible exact ih3 _ _ _ _ _ _)
   | (with_reducible exact ih4 _ _ _ _ _)
   | (with_reducible exact ih5 _ _ _ _ _)
   | (with_reducible exact ih6 _ _ _ _ _ _)
   | (with_reducible exact ih7 _ _ _ _ _)
   | (with_reducible exact field_Parse.mono _ _ _)
   | (with_reducible exact field_Right.mono _ _ _)
   | (with_reducible exact parallaxlaw9_known.mono _)
   | (with_reducible exact LeO.refl _)
   | (with_reducible exact LeO.none _)
   | (with_reducible refine LeO.ite ?_ ?_)
   | (with_reducible refine LeO.bind ?_ (fun _ => ?_))
   | exact ih0 _ _ _
   | exact ih1 _ _ _ _
   | exact ih2 _ _ _ _ _ _ _
   | exact ih3 _ _ _ _ _ _
   | exact ih4 _ _ _ _ _
   | exact ih5 _ _ _ _ _
   | exact ih6 _ _ _ _ _ _
   | exact ih7 _ _ _ _ _
   | exact field_Parse.mono _ _ _
   | exact field_Right.mono _ _ _
   | exact parallaxlaw9_known.mono _
   | exact LeO.none _
   | refine LeO.ite ?_ ?_
   | refine LeO.bind ?_ (fun _ => ?_)
def parallaxlaw9_FieldPuts.T9 : Bool × List (List Nat × List Nat) := (true, [([], []), ([], []), ([], []), ([1, 2], [1, 2]), ([3], [3]), ([4], [4]), ([5], [5]), ([0, 6], [0, 6]), ([7], [7]), ([], []), ([], []), ([], []), ([10, 11], [10, 11]), ([12], [12]), ([13], [13]), ([14], [14]), ([9, 15], [9, 15]), ([16], [16]), ([8, 17], [8, 17]), ([], []), ([19, 18, 0, 1, 2, 3, 4, 5, 6, 7, 8, 9, 10, 11, 12, 13, 14, 15, 16, 17, 18, 19], [18, 19])])
def parallaxlaw9_FieldPuts.B9 : List Nat := [0, 0, 0, 6, 14, 30, 62, 127, 255, 0, 0, 0, 3072, 7168, 15360, 31744, 65024, 130560, 262143, 0, 1048575]
theorem parallaxlaw9_FieldPuts.tab9 : rtab .any (opsOf Tryd.f6 9) = parallaxlaw9_FieldPuts.T9 := by kernel_rfl
theorem parallaxlaw9_FieldPuts.bits9 : waitsOk parallaxlaw9_FieldPuts.T9.2 parallaxlaw9_FieldPuts.B9 = true := by kernel_rfl
def parallaxlaw9_FieldPuts.T20 : Bool × List (List Nat × List Nat) := (true, [([], []), ([0], [0]), ([1], [1]), ([2], [2]), ([3, 2], [2, 3]), ([2, 4], [2, 4]), ([5, 2], [5]), ([6], [6]), ([6], [6]), ([8, 6], [6, 8]), ([7, 9, 6], [6, 7, 9]), ([6, 10], [6, 10]), ([11, 6], [11]), ([12], [12]), ([12], [12]), ([12], [12]), ([14, 15, 12], [12, 14, 15]), ([16, 12], [12, 16]), ([13, 17, 12], [12, 13, 17]), ([12, 18], [12, 18])])
def parallaxlaw9_FieldPuts.B20 : List Nat := [0, 1, 3, 7, 15, 31, 63, 127, 127, 383, 1023, 2047, 4095, 8191, 8191, 8191, 57343, 122879, 262143, 524287]
theorem parallaxlaw9_FieldPuts.tab20 : rtab .any (opsOf Tryd.f6 20) = parallaxlaw9_FieldPuts.T20 := by kernel_rfl
theorem parallaxlaw9_FieldPuts.bits20 : waitsOk parallaxlaw9_FieldPuts.T20.2 parallaxlaw9_FieldPuts.B20 = true := by kernel_rfl
set_option maxHeartbeats 8000000 in
set_option maxRecDepth 100000 in
theorem parallaxlaw9_FieldPuts.calls (k : Nat) (A0 : Option Addr) (c0 : Nat) (l0 : List (S51)) (A1 : Option Addr) (c1 : Nat) (l1 : List ByteArray) (r : Bool) (w : World) (hr0 : Kd.C k51 w A0 l0.length l0) (hc0 : l0.length ≤ c0) (hr1 : Kd.C Kd.string w A1 l1.length l1) (hc1 : l1.length ≤ c1) (hT : r = true) (h : parallaxlaw9_FieldPuts.f k l0 l1 = some r) :
  Calls Tryd.prog 6 #[.slice A0 l0.length c0, .slice A1 l1.length c1] w fun e w' => e = .returned (.bool r) ∧ Below w.heap.size w w' := by
 have hu25 := Tryd.underlying25
 have HT := Aside0.mk hT
 clear hT
 have HR0 := Aside0.mk hr0
 have HC0 := Aside0.mk hc0
 clear hr0 hc0
 have HR1 := Aside0.mk hr1
 have HC1 := Aside0.mk hc1
 clear hr1 hc1
 have HB := Aside0.mk (Below.refl w.heap.size w)
 have H : ((parallaxlaw9_known.f k).bind fun t189 => (if t189 = true then (if (l0.length : Int) > 10 then (parallaxlaw9_FieldPuts.j0 k l0 l1 true) else (parallaxlaw9_FieldPuts.j0 k l0 l1 (decide ((l1.length : Int) > 10)))) else (some false))) = some r := h
 clear h
 replace H := Option.bind_eq_some_iff.mp H
 obtain ⟨t189, A30, H⟩ := H
 (try dsimp only at H)
 have A3 := Aside0.mk A30
 clear A30
 by_cases c4 : t189 = true
 ·subst c4
  rw [if_pos rfl] at H
  have HC5 := Aside0.mk H
  clear H
  go_enter Tryd.func6, Tryd.ntmps6
  go_upto_region 3 with (first | ((with_reducible refine gate_callee (f := 7) rfl ?_); refine goesL_ (some 15) rfl rfl Tryd.func7 (by kernel_rfl) rfl #[] rfl (by (try simp only [List.map_toArray, List.map_cons, List.map_nil]); first | done | rfl | (simp only [List.length_drop, List.length_take]; rfl)) ?_; (with_reducible refine (parallaxlaw9_known.calls k  true _ rfl A3.out).mono ?_); rintro e w6 ⟨rfl, hb⟩; refine ⟨_, rfl, ?_⟩; have n0_ := Aside0.mk (below_step (by repeat (first | (with_reducible first | exact HB.out | apply below_alloc | apply pw_below_drewN | apply below_drew1) | exact HB.out)) hb); clear HB; have HB := n0_; clear n0_; (try clear hb); (try clear hb2); (try clear hk); (try clear hi)))
  (try simp only [Act.put, List.setIfInBounds_toArray, List.set_cons_zero, List.set_cons_succ])
  go_cut [24] (fun v24 wc => ∃ (kq : Nat) (x24_4 : Bool), v24 = .bool x24_4 ∧ Aside0 (parallaxlaw9_FieldPuts.j0 kq l0 l1 x24_4 = some r) ∧ Aside0 (kq ≤ k) ∧ Aside0 (Below w.heap.size w wc))
  case first =>
   have H := HC5.out
   clear HC5
   by_cases c7 : (l0.length : Int) > 10
   ·rw [if_pos c7] at H
    have c7b0 : decide (10 < (l0.length : Int)) = true := decide_eq_true c7
    have c7b1 : decide (10 < l0.length) = true := decide_eq_true (by omega)
    clear c7
    (first | rw [c7b0] | (simp only [i64_w, i32_w]; rw [c7b0]) | skip)
    have H' := Aside0.mk H
    clear H
    go_wp2
    go_meet
    case rel => exact ⟨_, (true), (by first | rfl | (simp; done) | (simp [*]; done)), H', ⟨by first | omega | exact Nat.le_refl _⟩, ⟨by repeat (first | (with_reducible first | exact HB.out | apply below_alloc | apply pw_below_drewN | apply below_drew1) | exact HB.out)⟩⟩
   ·rw [if_neg c7] at H
    have c7b0 : decide (10 < (l0.length : Int)) = false := decide_eq_false c7
    have c7b1 : decide (10 < l0.length) = false := decide_eq_false (by omega)
    clear c7
    (first | rw [c7b0] | (simp only [i64_w, i32_w]; rw [c7b0]) | skip)
    have H' := Aside0.mk H
    clear H
    go_wp2
    go_meet
    case rel => exact ⟨_, (decide ((l1.length : Int) > 10)), (by first | rfl | (simp; done) | (simp [*]; done)), H', ⟨by first | omega | exact Nat.le_refl _⟩, ⟨by repeat (first | (with_reducible first | exact HB.out | apply below_alloc | apply pw_below_drewN | apply below_drew1) | exact HB.out)⟩⟩
  case rest =>
   clear HC5
   try clear c1
   try clear p2
   try clear c4
   try clear c6
   try clear c7
   try clear c7b0
   try clear c7b1
   obtain ⟨kq, x24_4, rfl, HA, HJ4, HB⟩ := hcut
   cases kq with
   | zero => exact absurd HA.out (by simp [parallaxlaw9_FieldPuts.j0])
   | succ kj4 =>
    have H := HA.out
    clear HA
    simp only [parallaxlaw9_FieldPuts.j0] at H
    by_cases c8 : x24_4 = true
    ·subst c8
     rw [if_pos rfl] at H
     obtain rfl := Option.some.inj H
     go_wp2
     go_ret
     exact ⟨by first | rfl | (simp [errW_none, errW_some] <;> rfl) | (simp [*, errW_none, errW_some] <;> rfl), by repeat (first | (with_reducible first | exact HB.out | apply below_alloc | apply pw_below_drewN | apply below_drew1) | exact HB.out)⟩
    ·replace c8 := Bool.eq_false_iff.mpr c8
     subst c8
     rw [if_neg (show ¬ (false = true) by decide)] at H
     have H' := Aside0.mk H
     clear H
     go_wp2
     go_loopg [5, 6] kj4 (fun kq v5 v6 w' => ∃ (x5_2 : List (S25)) (x6_2 : Int), v6 = .int .i64 x6_2 ∧ Aside0 (parallaxlaw9_FieldPuts.l0 kq l0 l1 x5_2 x6_2 = some r) ∧ Aside0 (kq ≤ kj4) ∧ Aside0 (Kd.R k25 25 w' w.heap.size (fun _ => True) v5 x5_2) ∧ Aside0 (Below w.heap.size w w'))
     case atStart => exact ⟨(([] : List (S25))), (0), (by first | rfl | (simp; done) | (simp [*]; done)), H', ⟨Nat.le_refl _⟩, ⟨by first | exact Kd.R_nil _ _ _ _ _ | exact Kd.N_nil _ _ _ _ _ | exact Kd.V_nil _ _ _ _ _ | exact Kd.Q_nil _ _ _ _ _ | exact Kd.S_nil _ _ _ _ _⟩, ⟨by repeat (first | (with_reducible first | exact HB.out | apply below_alloc | apply pw_below_drewN | apply below_drew1) | exact HB.out)⟩⟩
     case round =>
      clear H'
      try clear c1
      try clear p2
      try clear c4
      try clear c6
      try clear c7
      try clear c7b0
      try clear c7b1
      try clear c8
      try clear p2
      obtain ⟨x5_2, x6_2, rfl, HA, HK2, HO_5, HB⟩ := hrel
      cases gk with
      | zero => exact absurd HA.out (by simp [parallaxlaw9_FieldPuts.l0])
      | succ k2 =>
       have H := HA.out
       clear HA
       simp only [parallaxlaw9_FieldPuts.l0] at H
       by_cases c9 : x6_2 < (l0.length : Int)
       ·rw [if_pos c9] at H
        have c9b0 : decide (x6_2 < (l0.length : Int)) = true := decide_eq_true c9
        clear c9
        obtain ⟨y190, hy190⟩ : ∃ y_ : List ByteArray, y_ = (([(⟨#[65]⟩ : ByteArray), (⟨#[72, 111, 115, 116]⟩ : ByteArray), (⟨#[120, 45, 121]⟩ : ByteArray), (⟨#[33, 126]⟩ : ByteArray)] : List ByteArray)) := ⟨_, rfl⟩
        replace H : (if 0 ≤ x6_2 then (if 0 ≤ (Int.tmod ((rd_T51 l0 x6_2).f0) 4) then (if (Int.tmod ((rd_T51 l0 x6_2).f0) 4) < (y190.length : Int) then ((some (([(⟨#[]⟩ : ByteArray), (⟨#[98]⟩ : ByteArray), (⟨#[99, 32, 100]⟩ : ByteArray), (⟨#[195, 169, 58, 44]⟩ : ByteArray)] : List ByteArray) : List ByteArray)).bind fun y195 => (if 0 ≤ (Int.tmod ((rd_T51 l0 x6_2).f1) 4) then (if (Int.tmod ((rd_T51 l0 x6_2).f1) 4) < (y195.length : Int) then (if x6_2 < (l1.length : Int) then (if ((rdOf ByteArray.empty l1 x6_2).size : Int) < 40 then ((field_Right.f k2 (⟨#[65]⟩ : ByteArray) (rdOf ByteArray.empty l1 x6_2)).bind fun t203 => (parallaxlaw9_FieldPuts.j2 k2 l0 l1 x5_2 x6_2 t203 (rdOf ByteArray.empty y190 (Int.tmod ((rd_T51 l0 x6_2).f0) 4)) (rdOf ByteArray.empty y195 (Int.tmod ((rd_T51 l0 x6_2).f1) 4)))) else (parallaxlaw9_FieldPuts.j2 k2 l0 l1 x5_2 x6_2 false (rdOf ByteArray.empty y190 (Int.tmod ((rd_T51 l0 x6_2).f0) 4)) (rdOf ByteArray.empty y195 (Int.tmod ((rd_T51 l0 x6_2).f1) 4)))) else (parallaxlaw9_FieldPuts.j2 k2 l0 l1 x5_2 x6_2 false (rdOf ByteArray.empty y190 (Int.tmod ((rd_T51 l0 x6_2).f0) 4)) (rdOf ByteArray.empty y195 (Int.tmod ((rd_T51 l0 x6_2).f1) 4)))) else (none)) else (none))) else (none)) else (none)) else (none)) = some r := by first | (rw [hy190]; with_reducible exact H) | (have H2_ := (Option.bind_some _ _).symm.trans H; rw [hy190]; with_reducible exact H2_) | (have H2_ := (Option.bind_some _ _).symm.trans H; with_reducible exact H2_) | with_reducible exact H | (rw [hy190]; exact H) | exact H
        have Ny190 := Aside0.mk hy190
        clear hy190
        by_cases c10 : 0 ≤ x6_2
        ·rw [if_pos c10] at H
         have c10b0 : decide (0 ≤ x6_2) = true := decide_eq_true c10
         clear c10
         obtain ⟨ji11, hji11⟩ : ∃ j_ : Int, (Int.tmod ((rd_T51 l0 x6_2).f0) 4) = j_ := ⟨_, rfl⟩
         replace H : (if 0 ≤ (ji11) then (if (ji11) < (y190.length : Int) then ((some (([(⟨#[]⟩ : ByteArray), (⟨#[98]⟩ : ByteArray), (⟨#[99, 32, 100]⟩ : ByteArray), (⟨#[195, 169, 58, 44]⟩ : ByteArray)] : List ByteArray) : List ByteArray)).bind fun y195 => (if 0 ≤ (Int.tmod ((rd_T51 l0 x6_2).f1) 4) then (if (Int.tmod ((rd_T51 l0 x6_2).f1) 4) < (y195.length : Int) then (if x6_2 < (l1.length : Int) then (if ((rdOf ByteArray.empty l1 x6_2).size : Int) < 40 then ((field_Right.f k2 (⟨#[65]⟩ : ByteArray) (rdOf ByteArray.empty l1 x6_2)).bind fun t203 => (parallaxlaw9_FieldPuts.j2 k2 l0 l1 x5_2 x6_2 t203 (rdOf ByteArray.empty y190 (ji11)) (rdOf ByteArray.empty y195 (Int.tmod ((rd_T51 l0 x6_2).f1) 4)))) else (parallaxlaw9_FieldPuts.j2 k2 l0 l1 x5_2 x6_2 false (rdOf ByteArray.empty y190 (ji11)) (rdOf ByteArray.empty y195 (Int.tmod ((rd_T51 l0 x6_2).f1) 4)))) else (parallaxlaw9_FieldPuts.j2 k2 l0 l1 x5_2 x6_2 false (rdOf ByteArray.empty y190 (ji11)) (rdOf ByteArray.empty y195 (Int.tmod ((rd_T51 l0 x6_2).f1) 4)))) else (none)) else (none))) else (none)) else (none)) = some r := by first | (rw [hji11] at H; exact H) | (simp only [hji11] at H ⊢; exact H)
         by_cases c12 : 0 ≤ (ji11)
         ·rw [if_pos c12] at H
          have c12b0 : decide (0 ≤ (ji11)) = true := decide_eq_true c12
          clear c12
          by_cases c13 : (ji11) < (y190.length : Int)
          ·rw [if_pos c13] at H
           have c13b0 : decide ((ji11) < (y190.length : Int)) = true := decide_eq_true c13
           clear c13
           obtain ⟨y195, hy195⟩ : ∃ y_ : List ByteArray, y_ = (([(⟨#[]⟩ : ByteArray), (⟨#[98]⟩ : ByteArray), (⟨#[99, 32, 100]⟩ : ByteArray), (⟨#[195, 169, 58, 44]⟩ : ByteArray)] : List ByteArray)) := ⟨_, rfl⟩
           replace H : (if 0 ≤ (Int.tmod ((rd_T51 l0 x6_2).f1) 4) then (if (Int.tmod ((rd_T51 l0 x6_2).f1) 4) < (y195.length : Int) then (if x6_2 < (l1.length : Int) then (if ((rdOf ByteArray.empty l1 x6_2).size : Int) < 40 then ((field_Right.f k2 (⟨#[65]⟩ : ByteArray) (rdOf ByteArray.empty l1 x6_2)).bind fun t203 => (parallaxlaw9_FieldPuts.j2 k2 l0 l1 x5_2 x6_2 t203 (rdOf ByteArray.empty y190 (ji11)) (rdOf ByteArray.empty y195 (Int.tmod ((rd_T51 l0 x6_2).f1) 4)))) else (parallaxlaw9_FieldPuts.j2 k2 l0 l1 x5_2 x6_2 false (rdOf ByteArray.empty y190 (ji11)) (rdOf ByteArray.empty y195 (Int.tmod ((rd_T51 l0 x6_2).f1) 4)))) else (parallaxlaw9_FieldPuts.j2 k2 l0 l1 x5_2 x6_2 false (rdOf ByteArray.empty y190 (ji11)) (rdOf ByteArray.empty y195 (Int.tmod ((rd_T51 l0 x6_2).f1) 4)))) else (none)) else (none)) = some r := by first | (rw [hy195]; with_reducible exact H) | (have H2_ := (Option.bind_some _ _).symm.trans H; rw [hy195]; with_reducible exact H2_) | (have H2_ := (Option.bind_some _ _).symm.trans H; with_reducible exact H2_) | with_reducible exact H | (rw [hy195]; exact H) | exact H
           have Ny195 := Aside0.mk hy195
           clear hy195
           obtain ⟨ji14, hji14⟩ : ∃ j_ : Int, (Int.tmod ((rd_T51 l0 x6_2).f1) 4) = j_ := ⟨_, rfl⟩
           replace H : (if 0 ≤ (ji14) then (if (ji14) < (y195.length : Int) then (if x6_2 < (l1.length : Int) then (if ((rdOf ByteArray.empty l1 x6_2).size : Int) < 40 then ((field_Right.f k2 (⟨#[65]⟩ : ByteArray) (rdOf ByteArray.empty l1 x6_2)).bind fun t203 => (parallaxlaw9_FieldPuts.j2 k2 l0 l1 x5_2 x6_2 t203 (rdOf ByteArray.empty y190 (ji11)) (rdOf ByteArray.empty y195 (ji14)))) else (parallaxlaw9_FieldPuts.j2 k2 l0 l1 x5_2 x6_2 false (rdOf ByteArray.empty y190 (ji11)) (rdOf ByteArray.empty y195 (ji14)))) else (parallaxlaw9_FieldPuts.j2 k2 l0 l1 x5_2 x6_2 false (rdOf ByteArray.empty y190 (ji11)) (rdOf ByteArray.empty y195 (ji14)))) else (none)) else (none)) = some r := by first | (rw [hji14] at H; exact H) | (simp only [hji14] at H ⊢; exact H)
           by_cases c15 : 0 ≤ (ji14)
           ·rw [if_pos c15] at H
            have c15b0 : decide (0 ≤ (ji14)) = true := decide_eq_true c15
            clear c15
            by_cases c16 : (ji14) < (y195.length : Int)
            ·rw [if_pos c16] at H
             have c16b0 : decide ((ji14) < (y195.length : Int)) = true := decide_eq_true c16
             clear c16
             have HC17 := Aside0.mk H
             clear H
             try go_wp2
             have pi194 : (0 ≤ ((ji11) : Int)) = True := eq_true (of_decide_eq_true (by first | (with_reducible assumption) | assumption))
             have qi194 : ((ji11) < (y190.length : Int)) = True := eq_true (of_decide_eq_true (by first | (with_reducible assumption) | assumption))
             have pi199 : (0 ≤ ((ji14) : Int)) = True := eq_true (of_decide_eq_true (by first | (with_reducible assumption) | assumption))
             have qi199 : ((ji14) < (y195.length : Int)) = True := eq_true (of_decide_eq_true (by first | (with_reducible assumption) | assumption))
             have n0_ := Aside0.mk (Kd.R_drew HO_5.out)
             have n1_ := Aside0.mk (below_drew1 HB.out)
             clear HO_5
             clear HB
             have HO_5 := n0_
             have HB := n1_
             clear n0_ n1_
             have p193 : 0 ≤ (x6_2 : Int) := of_decide_eq_true (by first | (with_reducible assumption) | assumption)
             have q193 : x6_2 < (l0.length : Int) := of_decide_eq_true (by first | (with_reducible assumption) | assumption)
             obtain ⟨ad193, e193, hx193_0, hx193_1⟩ := at_T51 HR0.out x6_2 p193 q193
             have hw193_1 := hx193_1
             have hw193_0 := hx193_0
             cases e193
             replace hx193_0 := (HB.out.cell (World.block_lt_of_cell? w _ hx193_0)).trans hx193_0
             replace hx193_1 := (HB.out.cell (World.block_lt_of_cell? w _ hx193_1)).trans hx193_1
             replace p193 := eq_true p193
             replace q193 := eq_true q193
             have p198 : 0 ≤ (x6_2 : Int) := of_decide_eq_true (by first | (with_reducible assumption) | assumption)
             have q198 : x6_2 < (l0.length : Int) := of_decide_eq_true (by first | (with_reducible assumption) | assumption)
             obtain ⟨ad198, e198, hx198_0, hx198_1⟩ := at_T51 HR0.out x6_2 p198 q198
             have hw198_1 := hx198_1
             have hw198_0 := hx198_0
             obtain rfl : ad193 = ad198 := (by injection e198)
             replace hx198_0 := (HB.out.cell (World.block_lt_of_cell? w _ hx198_0)).trans hx198_0
             replace hx198_1 := (HB.out.cell (World.block_lt_of_cell? w _ hx198_1)).trans hx198_1
             replace p198 := eq_true p198
             replace q198 := eq_true q198
             refine start_ (n := 21) (S := fun w' => True) (ds := []) #[false, false, false, false, false, false, false, false, false, false, false, false, false, false, false, false, false, false, false, false, false] (by kernel_rfl) rfl rfl trivial (fun hHeld => ?_); refine with_tabW parallaxlaw9_FieldPuts.tab9 parallaxlaw9_FieldPuts.bits9 (fun HT_ HW_ => ?_)
             generalize wr.drew = w18 at HO_5 HB hx193_0 hx193_1 hx198_0 hx198_1 hHeld ⊢
             refine pure_ (i := 1) (N := some 32) (v := ?_) (a' := ?_) #[false, true, false, false, false, false, false, false, false, false, false, false, false, false, false, false, false, false, false, false, false] rfl rfl (any_of HT_.out (by kernel_rfl)) (fun _ _ _ h => h) (Or.inl ⟨by rfl, ?_⟩) ?_ ?_
             rotate_left
             ·intro w'
              go_simp
              with_reducible rfl
             rotate_left
             ·simp only [Act.put, List.setIfInBounds_toArray, List.set_cons_zero, List.set_cons_succ, i64_w, i32_w]
              rfl
             refine pure_ (i := 2) (N := some 33) (v := ?_) (a' := ?_) #[false, true, true, false, false, false, false, false, false, false, false, false, false, false, false, false, false, false, false, false, false] rfl rfl (any_of HT_.out (by kernel_rfl)) (fun _ _ _ h => h) (Or.inl ⟨by rfl, ?_⟩) ?_ ?_
             rotate_left
             ·intro w'
              go_simp
              with_reducible rfl
             rotate_left
             ·simp only [Act.put, List.setIfInBounds_toArray, List.set_cons_zero, List.set_cons_succ, i64_w, i32_w]
              rfl
             refine pure_ (i := 10) (N := some 41) (v := ?_) (a' := ?_) #[false, true, true, false, false, false, false, false, false, false, true, false, false, false, false, false, false, false, false, false, false] rfl rfl (any_of HT_.out (by kernel_rfl)) (fun _ _ _ h => h) (Or.inl ⟨by rfl, ?_⟩) ?_ ?_
             rotate_left
             ·intro w'
              go_simp
              with_reducible rfl
             rotate_left
             ·simp only [Act.put, List.setIfInBounds_toArray, List.set_cons_zero, List.set_cons_succ, i64_w, i32_w]
              rfl
             refine pure_ (i := 11) (N := some 42) (v := ?_) (a' := ?_) #[false, true, true, false, false, false, false, false, false, false, true, true, false, false, false, false, false, false, false, false, false] rfl rfl (any_of HT_.out (by kernel_rfl)) (fun _ _ _ h => h) (Or.inl ⟨by rfl, ?_⟩) ?_ ?_
             rotate_left
             ·intro w'
              go_simp
              with_reducible rfl
             rotate_left
             ·simp only [Act.put, List.setIfInBounds_toArray, List.set_cons_zero, List.set_cons_succ, i64_w, i32_w]
              rfl
             refine inv_at [0, 3, 4, 5, 6, 7, 8, 9, 12, 13, 14, 15, 16, 17, 18, 19, 20] (fun a0_ b a w' => ∃ (v191 : Value) (adz_v191 : Addr) (v196 : Value) (adz_v196 : Addr) (gb200 : Nat) (m7_ : Value) (m16_ : Value) (m19_ : Value), a = putSel a0_ b [(0, 31, v191), (3, 34, .pointer (some (ad193.add ((x6_2).toNat * 2)))), (4, 35, .pointer (some (ad193.add ((x6_2).toNat * 2)))), (5, 36, .int .u8 ((rd_T51 l0 x6_2).f0)), (6, 37, .int .u8 ji11), (7, 38, m7_), (8, 39, .string (rdOf ByteArray.empty y190 (ji11))), (9, 40, v196), (12, 43, .pointer (some (ad193.add ((x6_2).toNat * 2)))), (13, 44, .pointer (some ⟨(ad193.add ((x6_2).toNat * 2)).block, (ad193.add ((x6_2).toNat * 2)).off + 1, none⟩)), (14, 45, .int .u8 ((rd_T51 l0 x6_2).f1)), (15, 46, .int .u8 ji14), (16, 47, m16_), (17, 48, .string (rdOf ByteArray.empty y195 (ji14))), (18, 49, .agg #[.string (rdOf ByteArray.empty y190 (ji11)), .string (rdOf ByteArray.empty y195 (ji14))]), (19, 7, m19_)] ∧ (b 19 = false → Kd.R k25 25 w' w.heap.size (fun _ => True) u5 x5_2) ∧ (Below w.heap.size w w') ∧ (b 0 = true → Kd.R Kd.string 9 w' w.heap.size (fun _ => True) v191 y190) ∧ (b 0 = true → ∃ c_, (v191 : Value) = .slice (some adz_v191) y190.length c_) ∧ (b 9 = true → Kd.R Kd.string 9 w' w.heap.size (fun _ => True) v196 y195) ∧ (b 9 = true → ∃ c_, (v196 : Value) = .slice (some adz_v196) y195.length c_) ∧ (b 19 = true → Kd.R k25 25 w' w.heap.size (fun k_ => k_ ≠ gb200) u5 x5_2) ∧ (b 19 = true → b 20 = false → w'.heap[gb200]? = some (.cells #[.string (⟨#[]⟩ : ByteArray), .string (⟨#[]⟩ : ByteArray)] 25 (0, 0))) ∧ (b 19 = true → w.heap.size ≤ gb200) ∧ (b 19 = true → w.heap.size ≤ gb200) ∧ (b 20 = true → w'.heap[gb200]? = some (.cells #[.string (rdOf ByteArray.empty y190 (ji11)), .string (rdOf ByteArray.empty y195 (ji14))] 25 (0, 0))) ∧ (b 7 = true → (m7_ : Value) = .pointer (some (adz_v191.add ((ji11)).toNat))) ∧ (b 16 = true → (m16_ : Value) = .pointer (some (adz_v196.add ((ji14)).toNat))) ∧ (b 19 = true → (m19_ : Value) = .pointer (some ⟨gb200, 0, none⟩))) HT_.out HW_.out (by kernel_rfl) (by kernel_rfl) ?_ ?_ ?_
             ·exact ⟨.bool false, ⟨0, 0, none⟩, .bool false, ⟨0, 0, none⟩, 0, .bool false, .bool false, .bool false, by simp only [putSel, Bool.false_eq_true, if_false], fun _ => HO_5.out, HB.out, fun h_ => absurd h_ (by decide), fun h_ => absurd h_ (by decide), fun h_ => absurd h_ (by decide), fun h_ => absurd h_ (by decide), fun h_ => absurd h_ (by decide), fun h_ => absurd h_ (by decide), fun h_ => absurd h_ (by decide), fun h_ => absurd h_ (by decide), fun h_ => absurd h_ (by decide), fun h_ => absurd h_ (by decide), fun h_ => absurd h_ (by decide), fun h_ => absurd h_ (by decide)⟩
             ·skip
              clear HB HO_5
              refine steps_cons ?_ ?_
              ·rintro b a w' ⟨v191, adz_v191, v196, adz_v196, gb200, m7_, m16_, m19_, ha, Q_HO_5, Q_HB, Q_HO192, Q_HA_HO192, Q_HO197, Q_HA_HO197, Q_HO_5_e19, Q_BK200, Q_GW200, Q_GE200, Q_BK200_e20, Q_X7_, Q_X16_, Q_X19_⟩ hb_ hon hoff
               refine ⟨_, rfl, fun K hK => ?_⟩
               replace ha := Aside0.mk ha
               have HB := Aside0.mk Q_HB
               refine Kd.R_lit_step Kd.string _ 9 ?hg (N := 31) ?hd (xs := ([(⟨#[65]⟩ : ByteArray), (⟨#[72, 111, 115, 116]⟩ : ByteArray), (⟨#[120, 45, 121]⟩ : ByteArray), (⟨#[33, 126]⟩ : ByteArray)] : List ByteArray)) (inner := [.string (⟨#[65]⟩ : ByteArray), .string (⟨#[72, 111, 115, 116]⟩ : ByteArray), .string (⟨#[120, 45, 121]⟩ : ByteArray), .string (⟨#[33, 126]⟩ : ByteArray)]) (ok := fun _ => True) (okp := fun _ => True) ?hr ?hp (fun _ hk => hk) trivial (Below.refl _ _) (Nat.le_refl _) (by simp) ?_; (case hd => rfl); (case hg => rfl); (case hr => first | (go_simp; done) | (go_simp; rfl)); (case hp => exact (Reps.one (show Kd.M Kd.string _ _ _ (⟨#[65]⟩ : ByteArray) [.string (⟨#[65]⟩ : ByteArray)] from rfl) (Reps.one (show Kd.M Kd.string _ _ _ (⟨#[72, 111, 115, 116]⟩ : ByteArray) [.string (⟨#[72, 111, 115, 116]⟩ : ByteArray)] from rfl) (Reps.one (show Kd.M Kd.string _ _ _ (⟨#[120, 45, 121]⟩ : ByteArray) [.string (⟨#[120, 45, 121]⟩ : ByteArray)] from rfl) (Reps.one (show Kd.M Kd.string _ _ _ (⟨#[33, 126]⟩ : ByteArray) [.string (⟨#[33, 126]⟩ : ByteArray)] from rfl) (Reps.none _ _))))))
               intro v191 w19 ho20 hb hg_ hnew_
               clear hg_ hnew_
               (first | rw [← Ny190.out] at ho20 | (simp only [Int.reduceToNat] at ho20; rw [← Ny190.out] at ho20))
               have n1_ := Aside0.mk (Kd.R_lower ho20 (below_size (by repeat (first | (with_reducible first | exact HB.out | apply below_alloc | apply pw_below_drewN | apply below_drew1) | exact HB.out))))
               have n2_ := Aside0.mk (below_step (by repeat (first | (with_reducible first | exact HB.out | apply below_alloc | apply pw_below_drewN | apply below_drew1) | exact HB.out)) hb)
               have z_HO_5 := fun (h0_ : b 19 = false) => (show Kd.R k25 25 w19 w.heap.size (fun _ => True) u5 x5_2 from by first | exact (Kd.R_below (by (with_reducible repeat (first | apply Kd.R_alloc | apply Kd.R_drewN | apply Kd.R_drew)); exact (Q_HO_5 h0_)) hb) | exact Kd.R_mono (Kd.R_below (by (with_reducible repeat (first | apply Kd.R_alloc | apply Kd.R_drewN | apply Kd.R_drew)); exact (Q_HO_5 h0_)) hb) (fun _ h_ => by first | trivial | exact h_ | exact h_.1))
               have z_HO197 := fun (h0_ : b 9 = true) => (show Kd.R Kd.string 9 w19 w.heap.size (fun _ => True) v196 y195 from by first | exact (Kd.R_elder' (by (with_reducible repeat (first | apply Kd.R_alloc | apply Kd.R_drewN | apply Kd.R_drew)); exact (Q_HO197 h0_)) (Kd.R_base ho20) hb) | exact Kd.R_mono (Kd.R_elder' (by (with_reducible repeat (first | apply Kd.R_alloc | apply Kd.R_drewN | apply Kd.R_drew)); exact (Q_HO197 h0_)) (Kd.R_base ho20) hb) (fun _ h_ => by first | trivial | exact h_ | exact h_.1))
               have z_HO_5_e19 := fun (h0_ : b 19 = true) => (show Kd.R k25 25 w19 w.heap.size (fun k_ => k_ ≠ gb200) u5 x5_2 from by first | exact (Kd.R_below (by (with_reducible repeat (first | apply Kd.R_alloc | apply Kd.R_drewN | apply Kd.R_drew)); exact (Q_HO_5_e19 h0_)) hb) | exact Kd.R_mono (Kd.R_below (by (with_reducible repeat (first | apply Kd.R_alloc | apply Kd.R_drewN | apply Kd.R_drew)); exact (Q_HO_5_e19 h0_)) hb) (fun _ h_ => by first | trivial | exact h_ | exact h_.1))
               have z_BK200 := fun (h0_ : b 19 = true) (h1_ : b 20 = false) => (show w19.heap[gb200]? = some (.cells #[.string (⟨#[]⟩ : ByteArray), .string (⟨#[]⟩ : ByteArray)] 25 (0, 0)) from by first | exact (blk_below (g := gb200) (o := .cells #[.string (⟨#[]⟩ : ByteArray), .string (⟨#[]⟩ : ByteArray)] 25 (0, 0)) (by (with_reducible repeat (first | refine blk_drewN ?_ _ | refine blk_drew ?_ | refine blk_alloc ?_ _)); exact (Q_BK200 h0_ h1_)) hb))
               clear HB
               have HO192 := n1_
               have HB := n2_
               clear n1_ n2_
               clear hb ho20
               obtain ⟨Ao21, co21, eo21⟩ := Kd.R_slice HO192.out
               subst eo21
               obtain ⟨ado21, fo21, _⟩ := Kd.at_string (Kd.R_reads' HO192.out).2.2 0 (by decide) (by rw [Ny190.out]; simp)
               cases fo21
               refine hK.out _ _ ⟨.slice (some ado21) y190.length co21, ado21, v196, adz_v196, gb200, m7_, m16_, m19_, (by rw [ha.out]; exact putSel_upk 0 hb_ rfl rfl rfl), z_HO_5, (by repeat (first | (with_reducible first | exact HB.out | apply below_alloc | apply pw_below_drewN | apply below_drew1) | exact HB.out)), fun _ => (by (with_reducible repeat (first | apply Kd.R_alloc | apply Kd.R_drewN | apply Kd.R_drew)); exact HO192.out), fun _ => ⟨_, rfl⟩, z_HO197, Q_HA_HO197, z_HO_5_e19, z_BK200, Q_GW200, Q_GE200, fun h0_ => absurd ((hoff 20 (by kernel_rfl)).symm.trans h0_) (by decide), fun h0_ => absurd ((hoff 7 (by kernel_rfl)).symm.trans h0_) (by decide), Q_X16_, Q_X19_⟩
              refine steps_cons ?_ ?_
              ·rintro b a w' ⟨v191, adz_v191, v196, adz_v196, gb200, m7_, m16_, m19_, ha, Q_HO_5, Q_HB, Q_HO192, Q_HA_HO192, Q_HO197, Q_HA_HO197, Q_HO_5_e19, Q_BK200, Q_GW200, Q_GE200, Q_BK200_e20, Q_X7_, Q_X16_, Q_X19_⟩ hb_ hon hoff
               refine ⟨_, rfl, fun K hK => ?_⟩
               have e32 : a.tmps[32]? = some (.slice (some ad193) l0.length c0) := by rw [ha]; exact (putSel_off rfl).trans rfl
               have e33 : a.tmps[33]? = some (.int .i64 x6_2) := by rw [ha]; exact (putSel_off rfl).trans rfl
               replace ha := Aside0.mk ha
               have HB := Aside0.mk Q_HB
               have hs0_ : w'.cell? (ad193.add ((x6_2).toNat * 2)) = some (.int .u8 ((rd_T51 l0 x6_2).f0)) := ((HB.out.cell (World.block_lt_of_cell? w _ hw193_0)).trans hw193_0)
               have hs1_ : w'.cell? ⟨(ad193.add ((x6_2).toNat * 2)).block, (ad193.add ((x6_2).toNat * 2)).off + 1, none⟩ = some (.int .u8 ((rd_T51 l0 x6_2).f1)) := ((HB.out.cell (World.block_lt_of_cell? w _ hw193_1)).trans hw193_1)
               refine value_ (w1 := w') (v := .pointer (some (ad193.add ((x6_2).toNat * 2)))) (by rfl) rfl ?_ ?_
               ·go_simp
                (try simp only [i64_w])
                try rfl
               refine hK.out _ _ ⟨v191, adz_v191, v196, adz_v196, gb200, m7_, m16_, m19_, (by rw [ha.out]; exact putSel_upk 1 hb_ rfl rfl rfl), Q_HO_5, Q_HB, Q_HO192, Q_HA_HO192, Q_HO197, Q_HA_HO197, Q_HO_5_e19, Q_BK200, Q_GW200, Q_GE200, fun h0_ => absurd ((hoff 20 (by kernel_rfl)).symm.trans h0_) (by decide), fun h0_ => absurd ((hoff 7 (by kernel_rfl)).symm.trans h0_) (by decide), Q_X16_, Q_X19_⟩
              refine steps_cons ?_ ?_
              ·rintro b a w' ⟨v191, adz_v191, v196, adz_v196, gb200, m7_, m16_, m19_, ha, Q_HO_5, Q_HB, Q_HO192, Q_HA_HO192, Q_HO197, Q_HA_HO197, Q_HO_5_e19, Q_BK200, Q_GW200, Q_GE200, Q_BK200_e20, Q_X7_, Q_X16_, Q_X19_⟩ hb_ hon hoff
               refine ⟨_, rfl, fun K hK => ?_⟩
               have e34 : a.tmps[34]? = some (.pointer (some (ad193.add ((x6_2).toNat * 2)))) := by rw [ha]; exact putSel_on (e := (3, 34, .pointer (some (ad193.add ((x6_2).toNat * 2))))) 1 rfl rfl (hon 3 (by kernel_rfl)) rfl
               replace ha := Aside0.mk ha
               have HB := Aside0.mk Q_HB
               refine value_ (w1 := w') (v := .pointer (some (ad193.add ((x6_2).toNat * 2)))) (by rfl) rfl ?_ ?_
               ·go_simp
                (try simp only [i64_w])
                try rfl
               refine hK.out _ _ ⟨v191, adz_v191, v196, adz_v196, gb200, m7_, m16_, m19_, (by rw [ha.out]; exact putSel_upk 2 hb_ rfl rfl rfl), Q_HO_5, Q_HB, Q_HO192, Q_HA_HO192, Q_HO197, Q_HA_HO197, Q_HO_5_e19, Q_BK200, Q_GW200, Q_GE200, fun h0_ => absurd ((hoff 20 (by kernel_rfl)).symm.trans h0_) (by decide), fun h0_ => absurd ((hoff 7 (by kernel_rfl)).symm.trans h0_) (by decide), Q_X16_, Q_X19_⟩
              refine steps_cons ?_ ?_
              ·rintro b a w' ⟨v191, adz_v191, v196, adz_v196, gb200, m7_, m16_, m19_, ha, Q_HO_5, Q_HB, Q_HO192, Q_HA_HO192, Q_HO197, Q_HA_HO197, Q_HO_5_e19, Q_BK200, Q_GW200, Q_GE200, Q_BK200_e20, Q_X7_, Q_X16_, Q_X19_⟩ hb_ hon hoff
               refine ⟨_, rfl, fun K hK => ?_⟩
               have e35 : a.tmps[35]? = some (.pointer (some (ad193.add ((x6_2).toNat * 2)))) := by rw [ha]; exact putSel_on (e := (4, 35, .pointer (some (ad193.add ((x6_2).toNat * 2))))) 2 rfl rfl (hon 4 (by kernel_rfl)) rfl
               replace ha := Aside0.mk ha
               have HB := Aside0.mk Q_HB
               have hs0_ : w'.cell? (ad193.add ((x6_2).toNat * 2)) = some (.int .u8 ((rd_T51 l0 x6_2).f0)) := ((HB.out.cell (World.block_lt_of_cell? w _ hw193_0)).trans hw193_0)
               have hs1_ : w'.cell? ⟨(ad193.add ((x6_2).toNat * 2)).block, (ad193.add ((x6_2).toNat * 2)).off + 1, none⟩ = some (.int .u8 ((rd_T51 l0 x6_2).f1)) := ((HB.out.cell (World.block_lt_of_cell? w _ hw193_1)).trans hw193_1)
               refine value_ (w1 := w') (v := .int .u8 ((rd_T51 l0 x6_2).f0)) (by rfl) rfl ?_ ?_
               ·go_simp
                (try simp only [i64_w])
                try rfl
               refine hK.out _ _ ⟨v191, adz_v191, v196, adz_v196, gb200, m7_, m16_, m19_, (by rw [ha.out]; exact putSel_upk 3 hb_ rfl rfl rfl), Q_HO_5, Q_HB, Q_HO192, Q_HA_HO192, Q_HO197, Q_HA_HO197, Q_HO_5_e19, Q_BK200, Q_GW200, Q_GE200, fun h0_ => absurd ((hoff 20 (by kernel_rfl)).symm.trans h0_) (by decide), fun h0_ => absurd ((hoff 7 (by kernel_rfl)).symm.trans h0_) (by decide), Q_X16_, Q_X19_⟩
              refine steps_cons ?_ ?_
              ·rintro b a w' ⟨v191, adz_v191, v196, adz_v196, gb200, m7_, m16_, m19_, ha, Q_HO_5, Q_HB, Q_HO192, Q_HA_HO192, Q_HO197, Q_HA_HO197, Q_HO_5_e19, Q_BK200, Q_GW200, Q_GE200, Q_BK200_e20, Q_X7_, Q_X16_, Q_X19_⟩ hb_ hon hoff
               refine ⟨_, rfl, fun K hK => ?_⟩
               have e36 : a.tmps[36]? = some (.int .u8 ((rd_T51 l0 x6_2).f0)) := by rw [ha]; exact putSel_on (e := (5, 36, .int .u8 ((rd_T51 l0 x6_2).f0))) 3 rfl rfl (hon 5 (by kernel_rfl)) rfl
               replace ha := Aside0.mk ha
               have HB := Aside0.mk Q_HB
               refine value_ (w1 := w') (v := .int .u8 ji11) (by rfl) rfl ?_ ?_
               ·go_simp
                (try simp only [i64_w])
                try rfl
               refine hK.out _ _ ⟨v191, adz_v191, v196, adz_v196, gb200, m7_, m16_, m19_, (by rw [ha.out]; exact putSel_upk 4 hb_ rfl rfl rfl), Q_HO_5, Q_HB, Q_HO192, Q_HA_HO192, Q_HO197, Q_HA_HO197, Q_HO_5_e19, Q_BK200, Q_GW200, Q_GE200, fun h0_ => absurd ((hoff 20 (by kernel_rfl)).symm.trans h0_) (by decide), fun h0_ => absurd ((hoff 7 (by kernel_rfl)).symm.trans h0_) (by decide), Q_X16_, Q_X19_⟩
              refine steps_cons ?_ ?_
              ·rintro b a w' ⟨v191, adz_v191, v196, adz_v196, gb200, m7_, m16_, m19_, ha, Q_HO_5, Q_HB, Q_HO192, Q_HA_HO192, Q_HO197, Q_HA_HO197, Q_HO_5_e19, Q_BK200, Q_GW200, Q_GE200, Q_BK200_e20, Q_X7_, Q_X16_, Q_X19_⟩ hb_ hon hoff
               refine ⟨_, rfl, fun K hK => ?_⟩
               have e31 : a.tmps[31]? = some (v191) := by rw [ha]; exact putSel_on (e := (0, 31, v191)) 0 rfl rfl (hon 0 (by kernel_rfl)) rfl
               have e37 : a.tmps[37]? = some (.int .u8 ji11) := by rw [ha]; exact putSel_on (e := (6, 37, .int .u8 ji11)) 4 rfl rfl (hon 6 (by kernel_rfl)) rfl
               replace ha := Aside0.mk ha
               have HB := Aside0.mk Q_HB
               have HO192 := Aside0.mk (Q_HO192 (hon 0 (by kernel_rfl)))
               have HA_HO192 := Aside0.mk (Q_HA_HO192 (hon 0 (by kernel_rfl)))
               obtain ⟨c_, hv_⟩ := HA_HO192.out
               rw [hv_] at e31
               refine value_ (w1 := w') (v := .pointer (some (adz_v191.add ((ji11)).toNat))) (by rfl) rfl ?_ ?_
               ·go_simp
                (try simp only [i64_w])
                try rfl
               refine hK.out _ _ ⟨v191, adz_v191, v196, adz_v196, gb200, (.pointer (some (adz_v191.add ((ji11)).toNat))), m16_, m19_, (by rw [ha.out]; exact putSel_upk 5 hb_ rfl rfl rfl), Q_HO_5, Q_HB, Q_HO192, Q_HA_HO192, Q_HO197, Q_HA_HO197, Q_HO_5_e19, Q_BK200, Q_GW200, Q_GE200, fun h0_ => absurd ((hoff 20 (by kernel_rfl)).symm.trans h0_) (by decide), fun _ => rfl, Q_X16_, Q_X19_⟩
              refine steps_cons ?_ ?_
              ·rintro b a w' ⟨v191, adz_v191, v196, adz_v196, gb200, m7_, m16_, m19_, ha, Q_HO_5, Q_HB, Q_HO192, Q_HA_HO192, Q_HO197, Q_HA_HO197, Q_HO_5_e19, Q_BK200, Q_GW200, Q_GE200, Q_BK200_e20, Q_X7_, Q_X16_, Q_X19_⟩ hb_ hon hoff
               refine ⟨_, rfl, fun K hK => ?_⟩
               have e38 : a.tmps[38]? = some (m7_) := by rw [ha]; exact putSel_on (e := (7, 38, m7_)) 5 rfl rfl (hon 7 (by kernel_rfl)) rfl
               rw [Q_X7_ (hon 7 (by kernel_rfl))] at e38
               replace ha := Aside0.mk ha
               have HB := Aside0.mk Q_HB
               have HO192 := Aside0.mk (Q_HO192 (hon 0 (by kernel_rfl)))
               have HA_HO192 := Aside0.mk (Q_HA_HO192 (hon 0 (by kernel_rfl)))
               obtain ⟨c_, hv_⟩ := HA_HO192.out
               have hF_ := HO192.out
               rw [hv_] at hF_
               obtain ⟨ad_, ea_, hx_⟩ := Kd.at_string (Kd.R_reads' hF_).2.2 (ji11) (of_eq_true pi194) (of_eq_true qi194)
               cases ea_
               refine value_ (w1 := w') (v := .string (rdOf ByteArray.empty y190 (ji11))) (by rfl) rfl ?_ ?_
               ·go_simp
                (try simp only [i64_w])
                try rfl
               refine hK.out _ _ ⟨v191, adz_v191, v196, adz_v196, gb200, m7_, m16_, m19_, (by rw [ha.out]; exact putSel_upk 6 hb_ rfl rfl rfl), Q_HO_5, Q_HB, Q_HO192, Q_HA_HO192, Q_HO197, Q_HA_HO197, Q_HO_5_e19, Q_BK200, Q_GW200, Q_GE200, fun h0_ => absurd ((hoff 20 (by kernel_rfl)).symm.trans h0_) (by decide), Q_X7_, Q_X16_, Q_X19_⟩
              refine steps_cons ?_ ?_
              ·rintro b a w' ⟨v191, adz_v191, v196, adz_v196, gb200, m7_, m16_, m19_, ha, Q_HO_5, Q_HB, Q_HO192, Q_HA_HO192, Q_HO197, Q_HA_HO197, Q_HO_5_e19, Q_BK200, Q_GW200, Q_GE200, Q_BK200_e20, Q_X7_, Q_X16_, Q_X19_⟩ hb_ hon hoff
               refine ⟨_, rfl, fun K hK => ?_⟩
               replace ha := Aside0.mk ha
               have HB := Aside0.mk Q_HB
               refine Kd.R_lit_step Kd.string _ 9 ?hg (N := 40) ?hd (xs := ([(⟨#[]⟩ : ByteArray), (⟨#[98]⟩ : ByteArray), (⟨#[99, 32, 100]⟩ : ByteArray), (⟨#[195, 169, 58, 44]⟩ : ByteArray)] : List ByteArray)) (inner := [.string (⟨#[]⟩ : ByteArray), .string (⟨#[98]⟩ : ByteArray), .string (⟨#[99, 32, 100]⟩ : ByteArray), .string (⟨#[195, 169, 58, 44]⟩ : ByteArray)]) (ok := fun _ => True) (okp := fun _ => True) ?hr ?hp (fun _ hk => hk) trivial (Below.refl _ _) (Nat.le_refl _) (by simp) ?_; (case hd => rfl); (case hg => rfl); (case hr => first | (go_simp; done) | (go_simp; rfl)); (case hp => exact (Reps.one (show Kd.M Kd.string _ _ _ (⟨#[]⟩ : ByteArray) [.string (⟨#[]⟩ : ByteArray)] from rfl) (Reps.one (show Kd.M Kd.string _ _ _ (⟨#[98]⟩ : ByteArray) [.string (⟨#[98]⟩ : ByteArray)] from rfl) (Reps.one (show Kd.M Kd.string _ _ _ (⟨#[99, 32, 100]⟩ : ByteArray) [.string (⟨#[99, 32, 100]⟩ : ByteArray)] from rfl) (Reps.one (show Kd.M Kd.string _ _ _ (⟨#[195, 169, 58, 44]⟩ : ByteArray) [.string (⟨#[195, 169, 58, 44]⟩ : ByteArray)] from rfl) (Reps.none _ _))))))
               intro v196 w19 ho20 hb hg_ hnew_
               clear hg_ hnew_
               (first | rw [← Ny195.out] at ho20 | (simp only [Int.reduceToNat] at ho20; rw [← Ny195.out] at ho20))
               have n1_ := Aside0.mk (Kd.R_lower ho20 (below_size (by repeat (first | (with_reducible first | exact HB.out | apply below_alloc | apply pw_below_drewN | apply below_drew1) | exact HB.out))))
               have n2_ := Aside0.mk (below_step (by repeat (first | (with_reducible first | exact HB.out | apply below_alloc | apply pw_below_drewN | apply below_drew1) | exact HB.out)) hb)
               have z_HO_5 := fun (h0_ : b 19 = false) => (show Kd.R k25 25 w19 w.heap.size (fun _ => True) u5 x5_2 from by first | exact (Kd.R_below (by (with_reducible repeat (first | apply Kd.R_alloc | apply Kd.R_drewN | apply Kd.R_drew)); exact (Q_HO_5 h0_)) hb) | exact Kd.R_mono (Kd.R_below (by (with_reducible repeat (first | apply Kd.R_alloc | apply Kd.R_drewN | apply Kd.R_drew)); exact (Q_HO_5 h0_)) hb) (fun _ h_ => by first | trivial | exact h_ | exact h_.1))
               have z_HO192 := fun (h0_ : b 0 = true) => (show Kd.R Kd.string 9 w19 w.heap.size (fun _ => True) v191 y190 from by first | exact (Kd.R_elder' (by (with_reducible repeat (first | apply Kd.R_alloc | apply Kd.R_drewN | apply Kd.R_drew)); exact (Q_HO192 h0_)) (Kd.R_base ho20) hb) | exact Kd.R_mono (Kd.R_elder' (by (with_reducible repeat (first | apply Kd.R_alloc | apply Kd.R_drewN | apply Kd.R_drew)); exact (Q_HO192 h0_)) (Kd.R_base ho20) hb) (fun _ h_ => by first | trivial | exact h_ | exact h_.1))
               have z_HO_5_e19 := fun (h0_ : b 19 = true) => (show Kd.R k25 25 w19 w.heap.size (fun k_ => k_ ≠ gb200) u5 x5_2 from by first | exact (Kd.R_below (by (with_reducible repeat (first | apply Kd.R_alloc | apply Kd.R_drewN | apply Kd.R_drew)); exact (Q_HO_5_e19 h0_)) hb) | exact Kd.R_mono (Kd.R_below (by (with_reducible repeat (first | apply Kd.R_alloc | apply Kd.R_drewN | apply Kd.R_drew)); exact (Q_HO_5_e19 h0_)) hb) (fun _ h_ => by first | trivial | exact h_ | exact h_.1))
               have z_BK200 := fun (h0_ : b 19 = true) (h1_ : b 20 = false) => (show w19.heap[gb200]? = some (.cells #[.string (⟨#[]⟩ : ByteArray), .string (⟨#[]⟩ : ByteArray)] 25 (0, 0)) from by first | exact (blk_below (g := gb200) (o := .cells #[.string (⟨#[]⟩ : ByteArray), .string (⟨#[]⟩ : ByteArray)] 25 (0, 0)) (by (with_reducible repeat (first | refine blk_drewN ?_ _ | refine blk_drew ?_ | refine blk_alloc ?_ _)); exact (Q_BK200 h0_ h1_)) hb))
               clear HB
               have HO197 := n1_
               have HB := n2_
               clear n1_ n2_
               clear hb ho20
               obtain ⟨Ao21, co21, eo21⟩ := Kd.R_slice HO197.out
               subst eo21
               obtain ⟨ado21, fo21, _⟩ := Kd.at_string (Kd.R_reads' HO197.out).2.2 0 (by decide) (by rw [Ny195.out]; simp)
               cases fo21
               refine hK.out _ _ ⟨v191, adz_v191, .slice (some ado21) y195.length co21, ado21, gb200, m7_, m16_, m19_, (by rw [ha.out]; exact putSel_upk 7 hb_ rfl rfl rfl), z_HO_5, (by repeat (first | (with_reducible first | exact HB.out | apply below_alloc | apply pw_below_drewN | apply below_drew1) | exact HB.out)), z_HO192, Q_HA_HO192, fun _ => (by (with_reducible repeat (first | apply Kd.R_alloc | apply Kd.R_drewN | apply Kd.R_drew)); exact HO197.out), fun _ => ⟨_, rfl⟩, z_HO_5_e19, z_BK200, Q_GW200, Q_GE200, fun h0_ => absurd ((hoff 20 (by kernel_rfl)).symm.trans h0_) (by decide), Q_X7_, fun h0_ => absurd ((hoff 16 (by kernel_rfl)).symm.trans h0_) (by decide), Q_X19_⟩
              refine steps_cons ?_ ?_
              ·rintro b a w' ⟨v191, adz_v191, v196, adz_v196, gb200, m7_, m16_, m19_, ha, Q_HO_5, Q_HB, Q_HO192, Q_HA_HO192, Q_HO197, Q_HA_HO197, Q_HO_5_e19, Q_BK200, Q_GW200, Q_GE200, Q_BK200_e20, Q_X7_, Q_X16_, Q_X19_⟩ hb_ hon hoff
               refine ⟨_, rfl, fun K hK => ?_⟩
               have e41 : a.tmps[41]? = some (.slice (some ad193) l0.length c0) := by rw [ha]; exact (putSel_off rfl).trans rfl
               have e42 : a.tmps[42]? = some (.int .i64 x6_2) := by rw [ha]; exact (putSel_off rfl).trans rfl
               replace ha := Aside0.mk ha
               have HB := Aside0.mk Q_HB
               have hs2_ : w'.cell? (ad193.add ((x6_2).toNat * 2)) = some (.int .u8 ((rd_T51 l0 x6_2).f0)) := ((HB.out.cell (World.block_lt_of_cell? w _ hw198_0)).trans hw198_0)
               have hs3_ : w'.cell? ⟨(ad193.add ((x6_2).toNat * 2)).block, (ad193.add ((x6_2).toNat * 2)).off + 1, none⟩ = some (.int .u8 ((rd_T51 l0 x6_2).f1)) := ((HB.out.cell (World.block_lt_of_cell? w _ hw198_1)).trans hw198_1)
               refine value_ (w1 := w') (v := .pointer (some (ad193.add ((x6_2).toNat * 2)))) (by rfl) rfl ?_ ?_
               ·go_simp
                (try simp only [i64_w])
                try rfl
               refine hK.out _ _ ⟨v191, adz_v191, v196, adz_v196, gb200, m7_, m16_, m19_, (by rw [ha.out]; exact putSel_upk 8 hb_ rfl rfl rfl), Q_HO_5, Q_HB, Q_HO192, Q_HA_HO192, Q_HO197, Q_HA_HO197, Q_HO_5_e19, Q_BK200, Q_GW200, Q_GE200, fun h0_ => absurd ((hoff 20 (by kernel_rfl)).symm.trans h0_) (by decide), Q_X7_, fun h0_ => absurd ((hoff 16 (by kernel_rfl)).symm.trans h0_) (by decide), Q_X19_⟩
              refine steps_cons ?_ ?_
              ·rintro b a w' ⟨v191, adz_v191, v196, adz_v196, gb200, m7_, m16_, m19_, ha, Q_HO_5, Q_HB, Q_HO192, Q_HA_HO192, Q_HO197, Q_HA_HO197, Q_HO_5_e19, Q_BK200, Q_GW200, Q_GE200, Q_BK200_e20, Q_X7_, Q_X16_, Q_X19_⟩ hb_ hon hoff
               refine ⟨_, rfl, fun K hK => ?_⟩
               have e43 : a.tmps[43]? = some (.pointer (some (ad193.add ((x6_2).toNat * 2)))) := by rw [ha]; exact putSel_on (e := (12, 43, .pointer (some (ad193.add ((x6_2).toNat * 2))))) 8 rfl rfl (hon 12 (by kernel_rfl)) rfl
               replace ha := Aside0.mk ha
               have HB := Aside0.mk Q_HB
               refine value_ (w1 := w') (v := .pointer (some ⟨(ad193.add ((x6_2).toNat * 2)).block, (ad193.add ((x6_2).toNat * 2)).off + 1, none⟩)) (by rfl) rfl ?_ ?_
               ·go_simp
                (try simp only [i64_w])
                try rfl
               refine hK.out _ _ ⟨v191, adz_v191, v196, adz_v196, gb200, m7_, m16_, m19_, (by rw [ha.out]; exact putSel_upk 9 hb_ rfl rfl rfl), Q_HO_5, Q_HB, Q_HO192, Q_HA_HO192, Q_HO197, Q_HA_HO197, Q_HO_5_e19, Q_BK200, Q_GW200, Q_GE200, fun h0_ => absurd ((hoff 20 (by kernel_rfl)).symm.trans h0_) (by decide), Q_X7_, fun h0_ => absurd ((hoff 16 (by kernel_rfl)).symm.trans h0_) (by decide), Q_X19_⟩
              refine steps_cons ?_ ?_
              ·rintro b a w' ⟨v191, adz_v191, v196, adz_v196, gb200, m7_, m16_, m19_, ha, Q_HO_5, Q_HB, Q_HO192, Q_HA_HO192, Q_HO197, Q_HA_HO197, Q_HO_5_e19, Q_BK200, Q_GW200, Q_GE200, Q_BK200_e20, Q_X7_, Q_X16_, Q_X19_⟩ hb_ hon hoff
               refine ⟨_, rfl, fun K hK => ?_⟩
               have e44 : a.tmps[44]? = some (.pointer (some ⟨(ad193.add ((x6_2).toNat * 2)).block, (ad193.add ((x6_2).toNat * 2)).off + 1, none⟩)) := by rw [ha]; exact putSel_on (e := (13, 44, .pointer (some ⟨(ad193.add ((x6_2).toNat * 2)).block, (ad193.add ((x6_2).toNat * 2)).off + 1, none⟩))) 9 rfl rfl (hon 13 (by kernel_rfl)) rfl
               replace ha := Aside0.mk ha
               have HB := Aside0.mk Q_HB
               have hs2_ : w'.cell? (ad193.add ((x6_2).toNat * 2)) = some (.int .u8 ((rd_T51 l0 x6_2).f0)) := ((HB.out.cell (World.block_lt_of_cell? w _ hw198_0)).trans hw198_0)
               have hs3_ : w'.cell? ⟨(ad193.add ((x6_2).toNat * 2)).block, (ad193.add ((x6_2).toNat * 2)).off + 1, none⟩ = some (.int .u8 ((rd_T51 l0 x6_2).f1)) := ((HB.out.cell (World.block_lt_of_cell? w _ hw198_1)).trans hw198_1)
               refine value_ (w1 := w') (v := .int .u8 ((rd_T51 l0 x6_2).f1)) (by rfl) rfl ?_ ?_
               ·go_simp
                (try simp only [i64_w])
                try rfl
               refine hK.out _ _ ⟨v191, adz_v191, v196, adz_v196, gb200, m7_, m16_, m19_, (by rw [ha.out]; exact putSel_upk 10 hb_ rfl rfl rfl), Q_HO_5, Q_HB, Q_HO192, Q_HA_HO192, Q_HO197, Q_HA_HO197, Q_HO_5_e19, Q_BK200, Q_GW200, Q_GE200, fun h0_ => absurd ((hoff 20 (by kernel_rfl)).symm.trans h0_) (by decide), Q_X7_, fun h0_ => absurd ((hoff 16 (by kernel_rfl)).symm.trans h0_) (by decide), Q_X19_⟩
              refine steps_cons ?_ ?_
              ·rintro b a w' ⟨v191, adz_v191, v196, adz_v196, gb200, m7_, m16_, m19_, ha, Q_HO_5, Q_HB, Q_HO192, Q_HA_HO192, Q_HO197, Q_HA_HO197, Q_HO_5_e19, Q_BK200, Q_GW200, Q_GE200, Q_BK200_e20, Q_X7_, Q_X16_, Q_X19_⟩ hb_ hon hoff
               refine ⟨_, rfl, fun K hK => ?_⟩
               have e45 : a.tmps[45]? = some (.int .u8 ((rd_T51 l0 x6_2).f1)) := by rw [ha]; exact putSel_on (e := (14, 45, .int .u8 ((rd_T51 l0 x6_2).f1))) 10 rfl rfl (hon 14 (by kernel_rfl)) rfl
               replace ha := Aside0.mk ha
               have HB := Aside0.mk Q_HB
               refine value_ (w1 := w') (v := .int .u8 ji14) (by rfl) rfl ?_ ?_
               ·go_simp
                (try simp only [i64_w])
                try rfl
               refine hK.out _ _ ⟨v191, adz_v191, v196, adz_v196, gb200, m7_, m16_, m19_, (by rw [ha.out]; exact putSel_upk 11 hb_ rfl rfl rfl), Q_HO_5, Q_HB, Q_HO192, Q_HA_HO192, Q_HO197, Q_HA_HO197, Q_HO_5_e19, Q_BK200, Q_GW200, Q_GE200, fun h0_ => absurd ((hoff 20 (by kernel_rfl)).symm.trans h0_) (by decide), Q_X7_, fun h0_ => absurd ((hoff 16 (by kernel_rfl)).symm.trans h0_) (by decide), Q_X19_⟩
              refine steps_cons ?_ ?_
              ·rintro b a w' ⟨v191, adz_v191, v196, adz_v196, gb200, m7_, m16_, m19_, ha, Q_HO_5, Q_HB, Q_HO192, Q_HA_HO192, Q_HO197, Q_HA_HO197, Q_HO_5_e19, Q_BK200, Q_GW200, Q_GE200, Q_BK200_e20, Q_X7_, Q_X16_, Q_X19_⟩ hb_ hon hoff
               refine ⟨_, rfl, fun K hK => ?_⟩
               have e40 : a.tmps[40]? = some (v196) := by rw [ha]; exact putSel_on (e := (9, 40, v196)) 7 rfl rfl (hon 9 (by kernel_rfl)) rfl
               have e46 : a.tmps[46]? = some (.int .u8 ji14) := by rw [ha]; exact putSel_on (e := (15, 46, .int .u8 ji14)) 11 rfl rfl (hon 15 (by kernel_rfl)) rfl
               replace ha := Aside0.mk ha
               have HB := Aside0.mk Q_HB
               have HO197 := Aside0.mk (Q_HO197 (hon 9 (by kernel_rfl)))
               have HA_HO197 := Aside0.mk (Q_HA_HO197 (hon 9 (by kernel_rfl)))
               obtain ⟨c_, hv_⟩ := HA_HO197.out
               rw [hv_] at e40
               refine value_ (w1 := w') (v := .pointer (some (adz_v196.add ((ji14)).toNat))) (by rfl) rfl ?_ ?_
               ·go_simp
                (try simp only [i64_w])
                try rfl
               refine hK.out _ _ ⟨v191, adz_v191, v196, adz_v196, gb200, m7_, (.pointer (some (adz_v196.add ((ji14)).toNat))), m19_, (by rw [ha.out]; exact putSel_upk 12 hb_ rfl rfl rfl), Q_HO_5, Q_HB, Q_HO192, Q_HA_HO192, Q_HO197, Q_HA_HO197, Q_HO_5_e19, Q_BK200, Q_GW200, Q_GE200, fun h0_ => absurd ((hoff 20 (by kernel_rfl)).symm.trans h0_) (by decide), Q_X7_, fun _ => rfl, Q_X19_⟩
              refine steps_cons ?_ ?_
              ·rintro b a w' ⟨v191, adz_v191, v196, adz_v196, gb200, m7_, m16_, m19_, ha, Q_HO_5, Q_HB, Q_HO192, Q_HA_HO192, Q_HO197, Q_HA_HO197, Q_HO_5_e19, Q_BK200, Q_GW200, Q_GE200, Q_BK200_e20, Q_X7_, Q_X16_, Q_X19_⟩ hb_ hon hoff
               refine ⟨_, rfl, fun K hK => ?_⟩
               have e47 : a.tmps[47]? = some (m16_) := by rw [ha]; exact putSel_on (e := (16, 47, m16_)) 12 rfl rfl (hon 16 (by kernel_rfl)) rfl
               rw [Q_X16_ (hon 16 (by kernel_rfl))] at e47
               replace ha := Aside0.mk ha
               have HB := Aside0.mk Q_HB
               have HO197 := Aside0.mk (Q_HO197 (hon 9 (by kernel_rfl)))
               have HA_HO197 := Aside0.mk (Q_HA_HO197 (hon 9 (by kernel_rfl)))
               obtain ⟨c_, hv_⟩ := HA_HO197.out
               have hF_ := HO197.out
               rw [hv_] at hF_
               obtain ⟨ad_, ea_, hx_⟩ := Kd.at_string (Kd.R_reads' hF_).2.2 (ji14) (of_eq_true pi199) (of_eq_true qi199)
               cases ea_
               refine value_ (w1 := w') (v := .string (rdOf ByteArray.empty y195 (ji14))) (by rfl) rfl ?_ ?_
               ·go_simp
                (try simp only [i64_w])
                try rfl
               refine hK.out _ _ ⟨v191, adz_v191, v196, adz_v196, gb200, m7_, m16_, m19_, (by rw [ha.out]; exact putSel_upk 13 hb_ rfl rfl rfl), Q_HO_5, Q_HB, Q_HO192, Q_HA_HO192, Q_HO197, Q_HA_HO197, Q_HO_5_e19, Q_BK200, Q_GW200, Q_GE200, fun h0_ => absurd ((hoff 20 (by kernel_rfl)).symm.trans h0_) (by decide), Q_X7_, Q_X16_, Q_X19_⟩
              refine steps_cons ?_ ?_
              ·rintro b a w' ⟨v191, adz_v191, v196, adz_v196, gb200, m7_, m16_, m19_, ha, Q_HO_5, Q_HB, Q_HO192, Q_HA_HO192, Q_HO197, Q_HA_HO197, Q_HO_5_e19, Q_BK200, Q_GW200, Q_GE200, Q_BK200_e20, Q_X7_, Q_X16_, Q_X19_⟩ hb_ hon hoff
               refine ⟨_, rfl, fun K hK => ?_⟩
               have e39 : a.tmps[39]? = some (.string (rdOf ByteArray.empty y190 (ji11))) := by rw [ha]; exact putSel_on (e := (8, 39, .string (rdOf ByteArray.empty y190 (ji11)))) 6 rfl rfl (hon 8 (by kernel_rfl)) rfl
               have e48 : a.tmps[48]? = some (.string (rdOf ByteArray.empty y195 (ji14))) := by rw [ha]; exact putSel_on (e := (17, 48, .string (rdOf ByteArray.empty y195 (ji14)))) 13 rfl rfl (hon 17 (by kernel_rfl)) rfl
               replace ha := Aside0.mk ha
               have HB := Aside0.mk Q_HB
               have HO192 := Aside0.mk (Q_HO192 (hon 0 (by kernel_rfl)))
               have HA_HO192 := Aside0.mk (Q_HA_HO192 (hon 0 (by kernel_rfl)))
               have HO197 := Aside0.mk (Q_HO197 (hon 9 (by kernel_rfl)))
               have HA_HO197 := Aside0.mk (Q_HA_HO197 (hon 9 (by kernel_rfl)))
               refine value_ (w1 := w') (v := .agg #[.string (rdOf ByteArray.empty y190 (ji11)), .string (rdOf ByteArray.empty y195 (ji14))]) (by rfl) rfl ?_ ?_
               ·go_simp
                (try simp only [i64_w])
                try rfl
               refine hK.out _ _ ⟨v191, adz_v191, v196, adz_v196, gb200, m7_, m16_, m19_, (by rw [ha.out]; exact putSel_upk 14 hb_ rfl rfl rfl), Q_HO_5, Q_HB, Q_HO192, Q_HA_HO192, Q_HO197, Q_HA_HO197, Q_HO_5_e19, Q_BK200, Q_GW200, Q_GE200, fun h0_ => absurd ((hoff 20 (by kernel_rfl)).symm.trans h0_) (by decide), Q_X7_, Q_X16_, Q_X19_⟩
              refine steps_cons ?_ ?_
              ·rintro b a w' ⟨v191, adz_v191, v196, adz_v196, gb200, m7_, m16_, m19_, ha, Q_HO_5, Q_HB, Q_HO192, Q_HA_HO192, Q_HO197, Q_HA_HO197, Q_HO_5_e19, Q_BK200, Q_GW200, Q_GE200, Q_BK200_e20, Q_X7_, Q_X16_, Q_X19_⟩ hb_ hon hoff
               refine ⟨_, rfl, fun K hK => ?_⟩
               replace ha := Aside0.mk ha
               have HO_5 := Aside0.mk (Q_HO_5 hb_)
               have HB := Aside0.mk Q_HB
               refine box_step ?hg (N := 7) ?hd (cs := #[.string (⟨#[]⟩ : ByteArray), .string (⟨#[]⟩ : ByteArray)]) (t := 25) ?hr ?_; (case hd => rfl); (case hg => rfl); (case hr => first | (go_simp; done) | (go_simp; rfl))
               intro gb200 hg w19 hbox hb
               have n0_ := Aside0.mk (Kd.R_below (Kd.R_elderB (by (with_reducible repeat (first | apply Kd.R_alloc | apply Kd.R_drewN | apply Kd.R_drew)); exact HO_5.out) gb200 (Nat.le_of_eq hg.symm)) hb)
               have n1_ := Aside0.mk (below_step (by repeat (first | (with_reducible first | exact HB.out | apply below_alloc | apply pw_below_drewN | apply below_drew1) | exact HB.out)) hb)
               have n2_ := Aside0.mk (hbox)
               have n3_ := Aside0.mk ((by rw [hg]; exact (below_size (by repeat (first | (with_reducible first | exact HB.out | apply below_alloc | apply pw_below_drewN | apply below_drew1) | exact HB.out))) : w.heap.size ≤ gb200))
               have n4_ := Aside0.mk ((by rw [hg]; exact (below_size (by repeat (first | (with_reducible first | exact HB.out | apply below_alloc | apply pw_below_drewN | apply below_drew1) | exact HB.out))) : w.heap.size ≤ gb200))
               have z_HO192 := fun (h0_ : b 0 = true) => (show Kd.R Kd.string 9 w19 w.heap.size (fun _ => True) v191 y190 from by first | exact (Kd.R_below (by (with_reducible repeat (first | apply Kd.R_alloc | apply Kd.R_drewN | apply Kd.R_drew)); exact (Q_HO192 h0_)) hb) | exact Kd.R_mono (Kd.R_below (by (with_reducible repeat (first | apply Kd.R_alloc | apply Kd.R_drewN | apply Kd.R_drew)); exact (Q_HO192 h0_)) hb) (fun _ h_ => by first | trivial | exact h_ | exact h_.1))
               have z_HO197 := fun (h0_ : b 9 = true) => (show Kd.R Kd.string 9 w19 w.heap.size (fun _ => True) v196 y195 from by first | exact (Kd.R_below (by (with_reducible repeat (first | apply Kd.R_alloc | apply Kd.R_drewN | apply Kd.R_drew)); exact (Q_HO197 h0_)) hb) | exact Kd.R_mono (Kd.R_below (by (with_reducible repeat (first | apply Kd.R_alloc | apply Kd.R_drewN | apply Kd.R_drew)); exact (Q_HO197 h0_)) hb) (fun _ h_ => by first | trivial | exact h_ | exact h_.1))
               clear HO_5
               clear HB
               have HO_5 := n0_
               have HB := n1_
               have BK200 := n2_
               have GW200 := n3_
               have GE200 := n4_
               clear n0_ n1_ n2_ n3_ n4_
               clear hb hbox hg
               refine hK.out _ _ ⟨v191, adz_v191, v196, adz_v196, gb200, m7_, m16_, (.pointer (some ⟨gb200, 0, none⟩)), (by rw [ha.out]; exact putSel_upk 15 hb_ rfl rfl rfl), fun h0_ => absurd ((up_self b 19).symm.trans h0_) (by decide), (by repeat (first | (with_reducible first | exact HB.out | apply below_alloc | apply pw_below_drewN | apply below_drew1 | refine below_set ?_ GE200.out) | exact HB.out)), z_HO192, Q_HA_HO192, z_HO197, Q_HA_HO197, fun _ => (by (with_reducible repeat (first | apply Kd.R_alloc | apply Kd.R_drewN | apply Kd.R_drew)); exact Kd.R_mono HO_5.out (fun _ hk => (by first | exact hk.2 | exact True.intro))), fun _ _ => (by (with_reducible repeat (first | refine blk_drewN ?_ _ | refine blk_drew ?_ | refine blk_alloc ?_ _)); exact BK200.out), fun _ => GW200.out, fun _ => GE200.out, fun h0_ => absurd ((hoff 20 (by kernel_rfl)).symm.trans h0_) (by decide), Q_X7_, Q_X16_, fun _ => rfl⟩
              refine steps_cons ?_ ?_
              ·rintro b a w' ⟨v191, adz_v191, v196, adz_v196, gb200, m7_, m16_, m19_, ha, Q_HO_5, Q_HB, Q_HO192, Q_HA_HO192, Q_HO197, Q_HA_HO197, Q_HO_5_e19, Q_BK200, Q_GW200, Q_GE200, Q_BK200_e20, Q_X7_, Q_X16_, Q_X19_⟩ hb_ hon hoff
               refine ⟨_, rfl, fun K hK => ?_⟩
               have e7 : a.tmps[7]? = some (m19_) := by rw [ha]; exact putSel_on (e := (19, 7, m19_)) 15 rfl rfl (hon 19 (by kernel_rfl)) rfl
               rw [Q_X19_ (hon 19 (by kernel_rfl))] at e7
               have e49 : a.tmps[49]? = some (.agg #[.string (rdOf ByteArray.empty y190 (ji11)), .string (rdOf ByteArray.empty y195 (ji14))]) := by rw [ha]; exact putSel_on (e := (18, 49, .agg #[.string (rdOf ByteArray.empty y190 (ji11)), .string (rdOf ByteArray.empty y195 (ji14))])) 14 rfl rfl (hon 18 (by kernel_rfl)) rfl
               replace ha := Aside0.mk ha
               have HB := Aside0.mk Q_HB
               have HO192 := Aside0.mk (Q_HO192 (hon 0 (by kernel_rfl)))
               have HA_HO192 := Aside0.mk (Q_HA_HO192 (hon 0 (by kernel_rfl)))
               have HO197 := Aside0.mk (Q_HO197 (hon 9 (by kernel_rfl)))
               have HA_HO197 := Aside0.mk (Q_HA_HO197 (hon 9 (by kernel_rfl)))
               have HO_5 := Aside0.mk (Q_HO_5_e19 (hon 19 (by kernel_rfl)))
               have BK200 := Aside0.mk (Q_BK200 (hon 19 (by kernel_rfl)) hb_)
               have GW200 := Aside0.mk (Q_GW200 (hon 19 (by kernel_rfl)))
               have GE200 := Aside0.mk (Q_GE200 (hon 19 (by kernel_rfl)))
               obtain ⟨co27, eo27⟩ := HA_HO192.out
               clear HA_HO192
               subst eo27
               obtain ⟨co28, eo28⟩ := HA_HO197.out
               clear HA_HO197
               subst eo28
               have hs29 : w'.cell? ⟨gb200, 0, none⟩ = some (.string (⟨#[]⟩ : ByteArray)) := (blk_cell BK200.out 0).trans rfl
               have hfs29 := blk_frozen BK200.out 0
               have hs30 : w'.cell? ⟨gb200, 1, none⟩ = some (.string (⟨#[]⟩ : ByteArray)) := (blk_cell BK200.out 1).trans rfl
               have hfs30 := blk_frozen BK200.out 1
               refine skip_ (w1 := ?_) (by rfl) rfl ?_ ?_
               rotate_left
               ·go_simp
                rfl
               refine hK.out _ _ ⟨.slice (some adz_v191) y190.length co27, adz_v191, .slice (some adz_v196) y195.length co28, adz_v196, gb200, m7_, m16_, m19_, (by rw [ha.out]; exact putSel_none (v := undef) rfl), fun h0_ => absurd ((hon 19 (by kernel_rfl)).symm.trans h0_) (by decide), (by repeat (first | (with_reducible first | exact HB.out | apply below_alloc | apply pw_below_drewN | apply below_drew1 | refine below_set ?_ GE200.out) | exact HB.out)), fun _ => (by (with_reducible repeat (first | apply Kd.R_alloc | apply Kd.R_drewN | apply Kd.R_drew)); exact Kd.R_mono (Kd.R_far (p := ⟨gb200, 1, none⟩) (Kd.R_far (p := ⟨gb200, 0, none⟩) (Kd.R_types HO192.out BK200.out (by decide)) (fun _ hk => (by first | exact hk.2 | exact True.intro)) (.string (rdOf ByteArray.empty y190 (ji11)))) (fun _ hk => (by first | exact hk.2 | exact True.intro)) (.string (rdOf ByteArray.empty y195 (ji14)))) (fun _ hk => hk.1)), fun _ => ⟨_, rfl⟩, fun _ => (by (with_reducible repeat (first | apply Kd.R_alloc | apply Kd.R_drewN | apply Kd.R_drew)); exact Kd.R_mono (Kd.R_far (p := ⟨gb200, 1, none⟩) (Kd.R_far (p := ⟨gb200, 0, none⟩) (Kd.R_types HO197.out BK200.out (by decide)) (fun _ hk => (by first | exact hk.2 | exact True.intro)) (.string (rdOf ByteArray.empty y190 (ji11)))) (fun _ hk => (by first | exact hk.2 | exact True.intro)) (.string (rdOf ByteArray.empty y195 (ji14)))) (fun _ hk => hk.1)), fun _ => ⟨_, rfl⟩, fun _ => (by (with_reducible repeat (first | apply Kd.R_alloc | apply Kd.R_drewN | apply Kd.R_drew)); exact Kd.R_mono (Kd.R_far (p := ⟨gb200, 1, none⟩) (Kd.R_far (p := ⟨gb200, 0, none⟩) (Kd.R_mono HO_5.out (fun k_ hk => (⟨hk, hk⟩ : _ ∧ k_ ≠ gb200))) (fun _ hk => (by first | exact hk.2 | exact True.intro)) (.string (rdOf ByteArray.empty y190 (ji11)))) (fun _ hk => (by first | exact hk.2 | exact True.intro)) (.string (rdOf ByteArray.empty y195 (ji14)))) (fun _ hk => hk.1)), fun _ h1_ => absurd ((up_self b 20).symm.trans h1_) (by decide), fun _ => GW200.out, fun _ => GE200.out, fun _ => (by (with_reducible repeat (first | refine blk_drewN ?_ _ | refine blk_drew ?_ | refine blk_alloc ?_ _)); refine blk_put (cs := #[.string (rdOf ByteArray.empty y190 (ji11)), .string (⟨#[]⟩ : ByteArray)]) ?_ 1 _ rfl; (with_reducible repeat (first | refine blk_drewN ?_ _ | refine blk_drew ?_ | refine blk_alloc ?_ _)); refine blk_put (cs := #[.string (⟨#[]⟩ : ByteArray), .string (⟨#[]⟩ : ByteArray)]) ?_ 0 _ rfl; (with_reducible repeat (first | refine blk_drewN ?_ _ | refine blk_drew ?_ | refine blk_alloc ?_ _)); exact BK200.out), Q_X7_, Q_X16_, Q_X19_⟩
              exact steps_nil
             rintro b a w28 hall ⟨v191, adz_v191, v196, adz_v196, gb200, m7_, m16_, m19_, ha, Q_HO_5, Q_HB, Q_HO192, Q_HA_HO192, Q_HO197, Q_HA_HO197, Q_HO_5_e19, Q_BK200, Q_GW200, Q_GE200, Q_BK200_e20, Q_X7_, Q_X16_, Q_X19_⟩
             clear HB HO_5
             have hb0_ := hall 0 (by kernel_rfl)
             have hb3_ := hall 3 (by kernel_rfl)
             have hb4_ := hall 4 (by kernel_rfl)
             have hb5_ := hall 5 (by kernel_rfl)
             have hb6_ := hall 6 (by kernel_rfl)
             have hb7_ := hall 7 (by kernel_rfl)
             have hb8_ := hall 8 (by kernel_rfl)
             have hb9_ := hall 9 (by kernel_rfl)
             have hb12_ := hall 12 (by kernel_rfl)
             have hb13_ := hall 13 (by kernel_rfl)
             have hb14_ := hall 14 (by kernel_rfl)
             have hb15_ := hall 15 (by kernel_rfl)
             have hb16_ := hall 16 (by kernel_rfl)
             have hb17_ := hall 17 (by kernel_rfl)
             have hb18_ := hall 18 (by kernel_rfl)
             have hb19_ := hall 19 (by kernel_rfl)
             have hb20_ := hall 20 (by kernel_rfl)
             subst ha
             obtain rfl := Q_X7_ hb7_
             obtain rfl := Q_X16_ hb16_
             obtain rfl := Q_X19_ hb19_
             simp only [putSel, hb0_, hb3_, hb4_, hb5_, hb6_, hb7_, hb8_, hb9_, hb12_, hb13_, hb14_, hb15_, hb16_, hb17_, hb18_, hb19_, hb20_, if_true, Act.put, List.setIfInBounds_toArray, List.set_cons_zero, List.set_cons_succ]
             clear Q_HO_5
             have HB := Aside0.mk Q_HB
             clear Q_HB
             have HO192 := Aside0.mk (Q_HO192 hb0_)
             clear Q_HO192
             have HA_HO192 := Aside0.mk (Q_HA_HO192 hb0_)
             clear Q_HA_HO192
             have HO197 := Aside0.mk (Q_HO197 hb9_)
             clear Q_HO197
             have HA_HO197 := Aside0.mk (Q_HA_HO197 hb9_)
             clear Q_HA_HO197
             have HO_5 := Aside0.mk (Q_HO_5_e19 hb19_)
             clear Q_HO_5_e19
             clear Q_BK200
             have GW200 := Aside0.mk (Q_GW200 hb19_)
             clear Q_GW200
             have GE200 := Aside0.mk (Q_GE200 hb19_)
             clear Q_GE200
             have BK200 := Aside0.mk (Q_BK200_e20 hb20_)
             clear Q_BK200_e20
             clear hall hb0_ hb3_ hb4_ hb5_ hb6_ hb7_ hb8_ hb9_ hb12_ hb13_ hb14_ hb15_ hb16_ hb17_ hb18_ hb19_ hb20_
             obtain ⟨co29, eo29⟩ := HA_HO192.out
             clear HA_HO192
             subst eo29
             obtain ⟨co30, eo30⟩ := HA_HO197.out
             clear HA_HO197
             subst eo30
             go_upto_region 10 with (fail)
             go_cut [69] (fun v69 wc => ∃ (kq : Nat) (x69_16 : Bool), v69 = .bool x69_16 ∧ Aside0 (parallaxlaw9_FieldPuts.j2 kq l0 l1 x5_2 x6_2 x69_16 (rdOf ByteArray.empty y190 (ji11)) (rdOf ByteArray.empty y195 (ji14)) = some r) ∧ Aside0 (kq ≤ k2) ∧ Aside0 (Kd.R k25 25 wc w.heap.size (fun k_ => k_ ≠ gb200) u5 x5_2) ∧ Aside0 (wc.heap[gb200]? = some (.cells #[.string (rdOf ByteArray.empty y190 (ji11)), .string (rdOf ByteArray.empty y195 (ji14))] 25 (0, 0))) ∧ Aside0 (Below w.heap.size w wc))
             case first =>
              have H := HC17.out
              clear HC17
              by_cases c31 : x6_2 < (l1.length : Int)
              ·rw [if_pos c31] at H
               have c31b0 : decide (x6_2 < (l1.length : Int)) = true := decide_eq_true c31
               clear c31
               (first | rw [c31b0] | (simp only [i64_w, i32_w]; rw [c31b0]) | skip)
               by_cases c32 : ((rdOf ByteArray.empty l1 x6_2).size : Int) < 40
               ·rw [if_pos c32] at H
                have c32b0 : decide (((rdOf ByteArray.empty l1 x6_2).size : Int) < 40) = true := decide_eq_true c32
                have c32b1 : decide ((rdOf ByteArray.empty l1 x6_2).size < 40) = true := decide_eq_true (by omega)
                clear c32
                replace H := Option.bind_eq_some_iff.mp H
                obtain ⟨t203, A330, H⟩ := H
                (try dsimp only at H)
                have A33 := Aside0.mk A330
                clear A330
                have H' := Aside0.mk H
                clear H
                have p201 : 0 ≤ (x6_2 : Int) := of_decide_eq_true (by first | (with_reducible assumption) | assumption)
                have q201 : x6_2 < (l1.length : Int) := of_decide_eq_true (by first | (with_reducible assumption) | assumption)
                obtain ⟨ad201, e201, hx201_0⟩ := Kd.at_string HR1.out x6_2 p201 q201
                cases e201
                replace hx201_0 := (HB.out.cell (World.block_lt_of_cell? w _ hx201_0)).trans hx201_0
                replace p201 := eq_true p201
                replace q201 := eq_true q201
                have p202 : 0 ≤ (x6_2 : Int) := of_decide_eq_true (by first | (with_reducible assumption) | assumption)
                have q202 : x6_2 < (l1.length : Int) := of_decide_eq_true (by first | (with_reducible assumption) | assumption)
                obtain ⟨ad202, e202, hx202_0⟩ := Kd.at_string HR1.out x6_2 p202 q202
                obtain rfl : ad201 = ad202 := (by injection e202)
                replace hx202_0 := (HB.out.cell (World.block_lt_of_cell? w _ hx202_0)).trans hx202_0
                replace p202 := eq_true p202
                replace q202 := eq_true q202
                go_wp2_with (first | (go_at_call 19; (with_reducible refine (field_Right.calls k2 (⟨#[65]⟩ : ByteArray) (rdOf ByteArray.empty l1 x6_2) t203 _ A33.out).mono ?_); rintro e w34 ⟨rfl, hb⟩; have n0_ := Aside0.mk (Kd.R_below (by (with_reducible repeat (first | apply Kd.R_alloc | apply Kd.R_drewN | apply Kd.R_drew)); exact HO_5.out) hb); have n1_ := Aside0.mk (Kd.R_below (by (with_reducible repeat (first | apply Kd.R_alloc | apply Kd.R_drewN | apply Kd.R_drew)); exact HO192.out) hb); have n2_ := Aside0.mk (Kd.R_below (by (with_reducible repeat (first | apply Kd.R_alloc | apply Kd.R_drewN | apply Kd.R_drew)); exact HO197.out) hb); have n3_ := Aside0.mk (blk_below (g := gb200) (o := .cells #[.string (rdOf ByteArray.empty y190 (ji11)), .string (rdOf ByteArray.empty y195 (ji14))] 25 (0, 0)) (by (with_reducible repeat (first | refine blk_drewN ?_ _ | refine blk_drew ?_ | refine blk_alloc ?_ _)); exact BK200.out) hb); have n4_ := Aside0.mk (below_step (by repeat (first | (with_reducible first | exact HB.out | apply below_alloc | apply pw_below_drewN | apply below_drew1 | refine below_set ?_ GE200.out) | exact HB.out)) hb); clear HO_5; clear HO192; clear HO197; clear BK200; clear HB; have HO_5 := n0_; have HO192 := n1_; have HO197 := n2_; have BK200 := n3_; have HB := n4_; clear n0_ n1_ n2_ n3_ n4_; (try clear hb); (try clear hb2); (try clear hk); (try clear hi)))
                go_meet
                case rel => exact ⟨_, (t203), (by first | rfl | (simp; done) | (simp [*]; done)), H', ⟨by have := HJ4.out; have := HK2.out; first | omega | exact Nat.le_refl _⟩, ⟨by (with_reducible repeat (first | apply Kd.R_alloc | apply Kd.R_drewN | apply Kd.R_drew)); exact HO_5.out⟩, ⟨by (with_reducible repeat (first | refine blk_drewN ?_ _ | refine blk_drew ?_ | refine blk_alloc ?_ _)); exact BK200.out⟩, ⟨by repeat (first | (with_reducible first | exact HB.out | apply below_alloc | apply pw_below_drewN | apply below_drew1 | refine below_set ?_ GE200.out) | exact HB.out)⟩⟩
               ·rw [if_neg c32] at H
                have c32b0 : decide (((rdOf ByteArray.empty l1 x6_2).size : Int) < 40) = false := decide_eq_false c32
                have c32b1 : decide ((rdOf ByteArray.empty l1 x6_2).size < 40) = false := decide_eq_false (by omega)
                clear c32
                have H' := Aside0.mk H
                clear H
                have p201 : 0 ≤ (x6_2 : Int) := of_decide_eq_true (by first | (with_reducible assumption) | assumption)
                have q201 : x6_2 < (l1.length : Int) := of_decide_eq_true (by first | (with_reducible assumption) | assumption)
                obtain ⟨ad201, e201, hx201_0⟩ := Kd.at_string HR1.out x6_2 p201 q201
                cases e201
                replace hx201_0 := (HB.out.cell (World.block_lt_of_cell? w _ hx201_0)).trans hx201_0
                replace p201 := eq_true p201
                replace q201 := eq_true q201
                go_wp2
                go_meet
                case rel => exact ⟨_, (false), (by first | rfl | (simp; done) | (simp [*]; done)), H', ⟨by have := HJ4.out; have := HK2.out; first | omega | exact Nat.le_refl _⟩, ⟨by (with_reducible repeat (first | apply Kd.R_alloc | apply Kd.R_drewN | apply Kd.R_drew)); exact HO_5.out⟩, ⟨by (with_reducible repeat (first | refine blk_drewN ?_ _ | refine blk_drew ?_ | refine blk_alloc ?_ _)); exact BK200.out⟩, ⟨by repeat (first | (with_reducible first | exact HB.out | apply below_alloc | apply pw_below_drewN | apply below_drew1 | refine below_set ?_ GE200.out) | exact HB.out)⟩⟩
              ·rw [if_neg c31] at H
               have c31b0 : decide (x6_2 < (l1.length : Int)) = false := decide_eq_false c31
               clear c31
               (first | rw [c31b0] | (simp only [i64_w, i32_w]; rw [c31b0]) | skip)
               have H' := Aside0.mk H
               clear H
               go_wp2
               go_meet
               case rel => exact ⟨_, (false), (by first | rfl | (simp; done) | (simp [*]; done)), H', ⟨by have := HJ4.out; have := HK2.out; first | omega | exact Nat.le_refl _⟩, ⟨by (with_reducible repeat (first | apply Kd.R_alloc | apply Kd.R_drewN | apply Kd.R_drew)); exact HO_5.out⟩, ⟨by (with_reducible repeat (first | refine blk_drewN ?_ _ | refine blk_drew ?_ | refine blk_alloc ?_ _)); exact BK200.out⟩, ⟨by repeat (first | (with_reducible first | exact HB.out | apply below_alloc | apply pw_below_drewN | apply below_drew1 | refine below_set ?_ GE200.out) | exact HB.out)⟩⟩
             case rest =>
              clear HC17
              try clear c1
              try clear p1
              try clear q1
              try clear hx1
              try clear qi1
              try clear p2
              try clear q2
              try clear hx2
              try clear c3
              try clear c4
              try clear c6
              try clear c7
              try clear c7b0
              try clear c7b1
              try clear c8
              try clear c9
              try clear c9b0
              try clear c10
              try clear c10b0
              try clear c12
              try clear c12b0
              try clear c13
              try clear c13b0
              try clear c15
              try clear c15b0
              try clear c16
              try clear c16b0
              try clear p19
              try clear q19
              try clear hx19
              try clear qi19
              try clear p20
              try clear q20
              try clear hx20
              try clear c31
              try clear c31b0
              try clear c32
              try clear c32b0
              try clear c32b1
              try clear hx193_0
              try clear hx193_1
              try clear hx198_0
              try clear hx198_1
              try clear hx201_0
              try clear hx202_0
              try clear p193
              try clear p198
              try clear p2
              try clear p201
              try clear p202
              try clear q193
              try clear q198
              try clear q201
              try clear q202
              obtain ⟨kq, x69_16, rfl, HA, HJ16, HO_5, BK200, HB⟩ := hcut
              cases kq with
              | zero => exact absurd HA.out (by simp [parallaxlaw9_FieldPuts.j2])
              | succ kj16 =>
               have H := HA.out
               clear HA
               simp only [parallaxlaw9_FieldPuts.j2] at H
               have HC35 := Aside0.mk H
               clear H
               go_upto_if 69 with (fail)
               go_cut [] (fun wc => ∃ (kq : Nat) (x201001_34 : ByteArray), Aside0 (parallaxlaw9_FieldPuts.j3 kq l0 l1 x5_2 x6_2 (rdOf ByteArray.empty y190 (ji11)) x201001_34 = some r) ∧ Aside0 (kq ≤ kj16) ∧ Aside0 (Kd.R k25 25 wc w.heap.size (fun k_ => k_ ≠ gb200) u5 x5_2) ∧ Aside0 (wc.heap[gb200]? = some (.cells #[.string (rdOf ByteArray.empty y190 (ji11)), .string x201001_34] 25 (0, 0))) ∧ Aside0 (Below w.heap.size w wc))
               case first =>
                have H := HC35.out
                clear HC35
                by_cases c36 : x69_16 = true
                ·subst c36
                 rw [if_pos rfl] at H
                 by_cases c37 : 0 ≤ x6_2
                 ·rw [if_pos c37] at H
                  have c37b0 : decide (0 ≤ x6_2) = true := decide_eq_true c37
                  clear c37
                  (first | rw [c37b0] | (simp only [i64_w, i32_w]; rw [c37b0]) | skip)
                  by_cases c38 : x6_2 < (l1.length : Int)
                  ·rw [if_pos c38] at H
                   have c38b0 : decide (x6_2 < (l1.length : Int)) = true := decide_eq_true c38
                   clear c38
                   have H' := Aside0.mk H
                   clear H
                   have p204 : 0 ≤ (x6_2 : Int) := of_decide_eq_true (by first | (with_reducible assumption) | assumption)
                   have q204 : x6_2 < (l1.length : Int) := of_decide_eq_true (by first | (with_reducible assumption) | assumption)
                   obtain ⟨ad204, e204, hx204_0⟩ := Kd.at_string HR1.out x6_2 p204 q204
                   cases e204
                   replace hx204_0 := (HB.out.cell (World.block_lt_of_cell? w _ hx204_0)).trans hx204_0
                   replace p204 := eq_true p204
                   replace q204 := eq_true q204
                   have hcz39_0 : wc.cell? ⟨gb200, 0, none⟩ = some (.string (rdOf ByteArray.empty y190 (ji11))) := (blk_cell BK200.out 0).trans rfl
                   have hcz39_1 : wc.cell? ⟨gb200, 1, none⟩ = some (.string (rdOf ByteArray.empty y195 (ji14))) := (blk_cell BK200.out 1).trans rfl
                   have hfz39_0 := blk_frozen BK200.out 0
                   have hfz39_1 := blk_frozen BK200.out 1
                   go_wp2
                   go_meet
                   case rel => exact ⟨_, (rdOf ByteArray.empty l1 x6_2), H', ⟨by have := HJ4.out; have := HK2.out; have := HJ16.out; first | omega | exact Nat.le_refl _⟩, ⟨by (with_reducible repeat (first | apply Kd.R_alloc | apply Kd.R_drewN | apply Kd.R_drew)); exact Kd.R_mono (Kd.R_far (p := ⟨gb200, 1, none⟩) (Kd.R_mono HO_5.out (fun k_ hk => (⟨hk, hk⟩ : _ ∧ k_ ≠ gb200))) (fun _ hk => (by first | exact hk.2 | exact True.intro)) (.string (rdOf ByteArray.empty l1 x6_2))) (fun _ hk => hk.1)⟩, ⟨by (with_reducible repeat (first | refine blk_drewN ?_ _ | refine blk_drew ?_ | refine blk_alloc ?_ _)); refine blk_put (cs := #[.string (rdOf ByteArray.empty y190 (ji11)), .string (rdOf ByteArray.empty y195 (ji14))]) ?_ 1 _ rfl; (with_reducible repeat (first | refine blk_drewN ?_ _ | refine blk_drew ?_ | refine blk_alloc ?_ _)); exact BK200.out⟩, ⟨by repeat (first | (with_reducible first | exact HB.out | apply below_alloc | apply pw_below_drewN | apply below_drew1 | refine below_set ?_ GE200.out) | exact HB.out)⟩⟩
                  ·rw [if_neg c38] at H
                   exact absurd H (by simp)
                 ·rw [if_neg c37] at H
                  exact absurd H (by simp)
                ·replace c36 := Bool.eq_false_iff.mpr c36
                 subst c36
                 rw [if_neg (show ¬ (false = true) by decide)] at H
                 have H' := Aside0.mk H
                 clear H
                 go_wp2
                 go_meet
                 case rel => exact ⟨_, ((rdOf ByteArray.empty y195 (ji14))), H', ⟨by have := HJ4.out; have := HK2.out; have := HJ16.out; first | omega | exact Nat.le_refl _⟩, ⟨by (with_reducible repeat (first | apply Kd.R_alloc | apply Kd.R_drewN | apply Kd.R_drew)); exact HO_5.out⟩, ⟨by (with_reducible repeat (first | refine blk_drewN ?_ _ | refine blk_drew ?_ | refine blk_alloc ?_ _)); exact BK200.out⟩, ⟨by repeat (first | (with_reducible first | exact HB.out | apply below_alloc | apply pw_below_drewN | apply below_drew1 | refine below_set ?_ GE200.out) | exact HB.out)⟩⟩
               case rest =>
                clear HC35
                try clear c1
                try clear p1
                try clear q1
                try clear hx1
                try clear qi1
                try clear p2
                try clear q2
                try clear hx2
                try clear c3
                try clear c4
                try clear c6
                try clear c7
                try clear c7b0
                try clear c7b1
                try clear c8
                try clear c9
                try clear c9b0
                try clear c10
                try clear c10b0
                try clear c12
                try clear c12b0
                try clear c13
                try clear c13b0
                try clear c15
                try clear c15b0
                try clear c16
                try clear c16b0
                try clear p19
                try clear q19
                try clear hx19
                try clear qi19
                try clear p20
                try clear q20
                try clear hx20
                try clear c31
                try clear c31b0
                try clear c32
                try clear c32b0
                try clear c32b1
                try clear c36
                try clear c37
                try clear c37b0
                try clear c38
                try clear c38b0
                try clear hcz39_0
                try clear hcz39_1
                try clear hfz39_0
                try clear hfz39_1
                try clear hx193_0
                try clear hx193_1
                try clear hx198_0
                try clear hx198_1
                try clear hx201_0
                try clear hx202_0
                try clear hx204_0
                try clear p1
                try clear p19
                try clear p193
                try clear p198
                try clear p2
                try clear p20
                try clear p201
                try clear p202
                try clear p204
                try clear q1
                try clear q19
                try clear q193
                try clear q198
                try clear q2
                try clear q20
                try clear q201
                try clear q202
                try clear q204
                obtain ⟨kq, x201001_34, HA, HJ34, HO_5, BK200, HB⟩ := hcut
                cases kq with
                | zero => exact absurd HA.out (by simp [parallaxlaw9_FieldPuts.j3])
                | succ kj34 =>
                 have H := HA.out
                 clear HA
                 simp only [parallaxlaw9_FieldPuts.j3] at H
                 by_cases c40 : x5_2.length < 4398046511104
                 ·rw [if_pos c40] at H
                  have LMc40 := Aside0.mk c40
                  clear c40
                  obtain ⟨y205, hy205⟩ : ∃ y_ : List (S25), y_ = (x5_2 ++ [(⟨(rdOf ByteArray.empty y190 (ji11)), x201001_34⟩ : S25)]) := ⟨_, rfl⟩
                  replace H : (parallaxlaw9_FieldPuts.l0 kj34 l0 l1 y205 (wrap64 (x6_2 + 1))) = some r := by first | (rw [hy205]; with_reducible exact H) | (have H2_ := (Option.bind_some _ _).symm.trans H; rw [hy205]; with_reducible exact H2_) | (have H2_ := (Option.bind_some _ _).symm.trans H; with_reducible exact H2_) | with_reducible exact H | (rw [hy205]; exact H) | exact H
                  have Ny205 := Aside0.mk hy205
                  clear hy205
                  have H' := Aside0.mk H
                  clear H
                  have hcz41_0 : wc.cell? ⟨gb200, 0, none⟩ = some (.string (rdOf ByteArray.empty y190 (ji11))) := (blk_cell BK200.out 0).trans rfl
                  have hcz41_1 : wc.cell? ⟨gb200, 1, none⟩ = some (.string x201001_34) := (blk_cell BK200.out 1).trans rfl
                  have hfz41_0 := blk_frozen BK200.out 0
                  have hfz41_1 := blk_frozen BK200.out 1
                  go_wp2_with (first | ((with_reducible refine gate_builtin (b := .append) (xs := #[.tmp 75, .tmp 77]) rfl ?_); (try (refine gate_guard (by rfl) ?_; dsimp only)); at_builtin; refine Kd.R_append k25 (w0 := w) w.heap.size rfl (.tmp 75) (.tmp 77) 28 25 (.agg #[(.string ⟨#[]⟩), (.string ⟨#[]⟩)]) 32 rfl Tryd.underlying28 info25 rfl (by decide) (by omega) u5 x5_2 (⟨(rdOf ByteArray.empty y190 (ji11)), x201001_34⟩ : S25) [.string (rdOf ByteArray.empty y190 (ji11)), .string x201001_34] (fun k_ => k_ ≠ gb200) (fun _ => False) rfl rfl ?aP (fun _ hk => hk.elim) ?aF ?aO ?aB ?aS ?aL ?_; (case aP => exact k25_mkM _ _ _ (⟨(rdOf ByteArray.empty y190 (ji11)), x201001_34⟩ : S25)); (case aB => exact (by repeat (first | (with_reducible first | exact HB.out | apply below_alloc | apply pw_below_drewN | apply below_drew1 | refine below_set ?_ GE200.out) | exact HB.out))); (case aF => exact (fun k_ hk => Kd.freshB (g := gb200) (o := .cells #[.string (rdOf ByteArray.empty y190 (ji11)), .string x201001_34] 25 (0, 0)) (by (with_reducible repeat (first | refine blk_drewN ?_ _ | refine blk_drew ?_ | refine blk_alloc ?_ _)); exact BK200.out) k_ hk)); (case aO => exact (by (with_reducible repeat (first | apply Kd.R_alloc | apply Kd.R_drewN | apply Kd.R_drew)); exact HO_5.out)); (case aS => exact (below_size (by repeat (first | (with_reducible first | exact HB.out | apply below_alloc | apply pw_below_drewN | apply below_drew1 | refine below_set ?_ GE200.out) | exact HB.out)))); (case aL => have := LMc40.out; omega); intro v206 w42 ho hb hg hat; rw [← Ny205.out] at ho; have n0_ := Aside0.mk (blk_grown (g := gb200) (o := .cells #[.string (rdOf ByteArray.empty y190 (ji11)), .string x201001_34] 25 (0, 0)) (by (with_reducible repeat (first | refine blk_drewN ?_ _ | refine blk_drew ?_ | refine blk_alloc ?_ _)); exact BK200.out) hg (Kd.R_away HO_5.out (fun _ hk => hk))); have n1_ := Aside0.mk (hb); have n2_ := Aside0.mk (ho); clear BK200; clear HB; clear HO_5; have BK200 := n0_; have HB := n1_; have HO207 := n2_; clear n0_ n1_ n2_; clear ho hb hg hat))
                  go_roundg kj34
                  case measure => have := HJ4.out; have := HK2.out; have := HJ16.out; have := HJ34.out; omega
                  case rel => exact ⟨(y205), (wrap64 (x6_2 + 1)), (by first | rfl | (simp; done) | (simp [*]; done)), H', ⟨by have := HJ4.out; have := HK2.out; have := HJ16.out; have := HJ34.out; omega⟩, ⟨by (with_reducible repeat (first | apply Kd.R_alloc | apply Kd.R_drewN | apply Kd.R_drew)); exact Kd.R_mono HO207.out (fun _ hk => trivial)⟩, ⟨by repeat (first | (with_reducible first | exact HB.out | apply below_alloc | apply pw_below_drewN | apply below_drew1 | refine below_set ?_ GE200.out) | exact HB.out)⟩⟩
                 ·rw [if_neg c40] at H
                  exact absurd H (by simp)
            ·rw [if_neg c16] at H
             exact absurd H (by simp)
           ·rw [if_neg c15] at H
            exact absurd H (by simp)
          ·rw [if_neg c13] at H
           exact absurd H (by simp)
         ·rw [if_neg c12] at H
          exact absurd H (by simp)
        ·rw [if_neg c10] at H
         exact absurd H (by simp)
       ·rw [if_neg c9] at H
        have c9b0 : decide (x6_2 < (l0.length : Int)) = false := decide_eq_false c9
        clear c9
        replace H := Option.bind_eq_some_iff.mp H
        obtain ⟨t208, A430, H⟩ := H
        (try dsimp only at H)
        have A43 := Aside0.mk A430
        clear A430
        have H' := Aside0.mk H
        clear H
        obtain ⟨Ao44, co44, eo44⟩ := Kd.R_slice HO_5.out
        subst eo44
        go_wp2_with (first | ((with_reducible refine gate_callee (f := 21) rfl ?_); refine goesL_ (some 80) rfl rfl Tryd.func21 (by kernel_rfl) rfl #[.slice Ao44 x5_2.length co44] rfl (by (try simp only [List.map_toArray, List.map_cons, List.map_nil]); first | done | rfl | (simp only [List.length_drop, List.length_take]; rfl)) ?_; (with_reducible refine (field_Put.calls _ _ x5_2 t208 _ ?side1 ?side2 A43.out).mono ?_); (case side1 => repeat (first | exact (Kd.R_reads' HO_5.out).2.2 | (with_reducible refine Kd.C_alloc ?_ _) | (with_reducible refine Kd.C_drewN ?_ _) | (with_reducible refine Kd.C_drew ?_))); (case side2 => exact (Kd.R_reads' HO_5.out).2.1); rintro e w45 ⟨rfl, hb⟩; refine ⟨_, rfl, ?_⟩; have n0_ := Aside0.mk (Kd.R_below (by (with_reducible repeat (first | apply Kd.R_alloc | apply Kd.R_drewN | apply Kd.R_drew)); exact HO_5.out) hb); have n1_ := Aside0.mk (below_step (by repeat (first | (with_reducible first | exact HB.out | apply below_alloc | apply pw_below_drewN | apply below_drew1) | exact HB.out)) hb); clear HO_5; clear HB; have HO_5 := n0_; have HB := n1_; clear n0_ n1_; (try clear hb); (try clear hb2); (try clear hk); (try clear hi)) | (go_at_call 21; (with_reducible refine (field_Put.calls _ _ x5_2 t208 _ ?side1 ?side2 A43.out).mono ?_); (case side1 => repeat (first | exact (Kd.R_reads' HO_5.out).2.2 | (with_reducible refine Kd.C_alloc ?_ _) | (with_reducible refine Kd.C_drewN ?_ _) | (with_reducible refine Kd.C_drew ?_))); (case side2 => exact (Kd.R_reads' HO_5.out).2.1); rintro e w45 ⟨rfl, hb⟩; have n0_ := Aside0.mk (Kd.R_below (by (with_reducible repeat (first | apply Kd.R_alloc | apply Kd.R_drewN | apply Kd.R_drew)); exact HO_5.out) hb); have n1_ := Aside0.mk (below_step (by repeat (first | (with_reducible first | exact HB.out | apply below_alloc | apply pw_below_drewN | apply below_drew1) | exact HB.out)) hb); clear HO_5; clear HB; have HO_5 := n0_; have HB := n1_; clear n0_ n1_; (try clear hb); (try clear hb2); (try clear hk); (try clear hi)))
        go_loopg [9, 10, 11] k2 (fun kq v9 v10 v11 w' => ∃ (x9_3 : Int) (x10_3 : Int) (x11_3 : Int), v9 = .int .i64 x9_3 ∧ v10 = .int .i64 x10_3 ∧ v11 = .int .i64 x11_3 ∧ Aside0 (parallaxlaw9_FieldPuts.l1 kq x5_2 t208 x9_3 x10_3 x11_3 = some r) ∧ Aside0 (kq ≤ k2) ∧ Aside0 (Kd.R k25 25 w' w.heap.size (fun _ => True) (.slice Ao44 x5_2.length co44) x5_2) ∧ Aside0 (Below w.heap.size w w'))
        case atStart => exact ⟨(0), (0), (1), (by first | rfl | (simp; done) | (simp [*]; done)), (by first | rfl | (simp; done) | (simp [*]; done)), (by first | rfl | (simp; done) | (simp [*]; done)), H', ⟨Nat.le_refl _⟩, ⟨by (with_reducible repeat (first | apply Kd.R_alloc | apply Kd.R_drewN | apply Kd.R_drew)); exact HO_5.out⟩, ⟨by repeat (first | (with_reducible first | exact HB.out | apply below_alloc | apply pw_below_drewN | apply below_drew1) | exact HB.out)⟩⟩
        case round =>
         clear H'
         try clear c1
         try clear p1
         try clear q1
         try clear hx1
         try clear qi1
         try clear c2
         try clear p2
         try clear q2
         try clear hx2
         try clear c3
         try clear c4
         try clear c6
         try clear p6
         try clear c7
         try clear c7b0
         try clear c7b1
         try clear c8
         try clear c9
         try clear c9b0
         try clear c10
         try clear c10b0
         try clear c12
         try clear c12b0
         try clear c13
         try clear c13b0
         try clear c15
         try clear c15b0
         try clear c16
         try clear c16b0
         try clear p19
         try clear q19
         try clear hx19
         try clear qi19
         try clear p20
         try clear q20
         try clear hx20
         try clear c21
         try clear c31
         try clear c31b0
         try clear c32
         try clear c32b0
         try clear c32b1
         try clear c36
         try clear c37
         try clear c37b0
         try clear c38
         try clear c38b0
         try clear c40
         try clear hcz39_0
         try clear hcz39_1
         try clear hcz41_0
         try clear hcz41_1
         try clear hfz39_0
         try clear hfz39_1
         try clear hfz41_0
         try clear hfz41_1
         try clear hx193_0
         try clear hx193_1
         try clear hx198_0
         try clear hx198_1
         try clear hx201_0
         try clear hx202_0
         try clear hx204_0
         try clear p1
         try clear p19
         try clear p193
         try clear p198
         try clear p2
         try clear p20
         try clear p201
         try clear p202
         try clear p204
         try clear q1
         try clear q19
         try clear q193
         try clear q198
         try clear q2
         try clear q20
         try clear q201
         try clear q202
         try clear q204
         obtain ⟨x9_3, x10_3, x11_3, rfl, rfl, rfl, HA, HK3, HO_5, HB⟩ := hrel
         cases gk with
         | zero => exact absurd HA.out (by simp [parallaxlaw9_FieldPuts.l1])
         | succ k3 =>
          have H := HA.out
          clear HA
          simp only [parallaxlaw9_FieldPuts.l1] at H
          by_cases c46 : x11_3 < (t208.size : Int)
          ·rw [if_pos c46] at H
           have c46b0 : decide (x11_3 < (t208.size : Int)) = true := decide_eq_true c46
           clear c46
           have HC47 := Aside0.mk H
           clear H
           go_upto_block 3 with (fail)
           go_cut [9, 10] (fun v9 v10 wc => ∃ (kq : Nat) (x9_46 : Int) (x10_46 : Int), v9 = .int .i64 x9_46 ∧ v10 = .int .i64 x10_46 ∧ Aside0 (parallaxlaw9_FieldPuts.j7 kq x5_2 t208 x9_46 x10_46 x11_3 = some r) ∧ Aside0 (kq ≤ k3) ∧ Aside0 (Kd.R k25 25 wc w.heap.size (fun _ => True) (.slice Ao44 x5_2.length co44) x5_2) ∧ Aside0 (Below w.heap.size w wc))
           case first =>
            have H := HC47.out
            clear HC47
            have HC48 := Aside0.mk H
            clear H
            go_upto_region 18 with (fail)
            go_cut [97] (fun v97 wc => ∃ (kq : Nat) (x97_47 : Bool), v97 = .bool x97_47 ∧ Aside0 (parallaxlaw9_FieldPuts.j5 kq x5_2 t208 x9_3 x10_3 x11_3 x97_47 = some r) ∧ Aside0 (kq ≤ k3) ∧ Aside0 (Kd.R k25 25 wc w.heap.size (fun _ => True) (.slice Ao44 x5_2.length co44) x5_2) ∧ Aside0 (Below w.heap.size w wc))
            case first =>
             have H := HC48.out
             clear HC48
             obtain ⟨ji49, hji49⟩ : ∃ j_ : Int, (wrap64 (x11_3 - 1)) = j_ := ⟨_, rfl⟩
             replace H : (if 0 ≤ (ji49) then (if (ji49) < (t208.size : Int) then (if (bt t208 (ji49)) = 13 then (if 0 ≤ x11_3 then (parallaxlaw9_FieldPuts.j5 k3 x5_2 t208 x9_3 x10_3 x11_3 ((bt t208 x11_3) != 10)) else (none)) else (parallaxlaw9_FieldPuts.j5 k3 x5_2 t208 x9_3 x10_3 x11_3 true)) else (none)) else (none)) = some r := by first | (rw [hji49] at H; exact H) | (simp only [hji49] at H ⊢; exact H)
             have hji49w : (IntKind.i64.wrap (x11_3 - 1)) = ji49 := (i64_w _).trans hji49
             by_cases c50 : 0 ≤ (ji49)
             ·rw [if_pos c50] at H
              have c50b0 : decide (0 ≤ (ji49)) = true := decide_eq_true c50
              clear c50
              (first | rw [c50b0] | (simp only [i64_w, i32_w]; rw [c50b0]) | skip)
              by_cases c51 : (ji49) < (t208.size : Int)
              ·rw [if_pos c51] at H
               have c51b0 : decide ((ji49) < (t208.size : Int)) = true := decide_eq_true c51
               clear c51
               by_cases c53 : (bt t208 (ji49)) = 13
               ·rw [if_pos c53] at H
                have c53b0 : ((bt t208 (ji49)) == 13) = true := beq_iff_eq.mpr c53
                have c53b1 : ((bt t208 (ji49)) != 13) = false := bne_eq_false_iff_eq.mpr c53
                clear c53
                by_cases c54 : 0 ≤ x11_3
                ·rw [if_pos c54] at H
                 have c54b0 : decide (0 ≤ x11_3) = true := decide_eq_true c54
                 clear c54
                 have H' := Aside0.mk H
                 clear H
                 have p52 : 0 ≤ ((ji49) : Int) := of_decide_eq_true (by first | (with_reducible assumption) | assumption)
                 have q52 : (ji49) < (t208.size : Int) := of_decide_eq_true (by first | (with_reducible assumption) | assumption)
                 have hx52 := bt_at t208 (ji49)
                 replace p52 := eq_true p52
                 replace q52 := eq_true q52
                 have p55 : 0 ≤ (x11_3 : Int) := of_decide_eq_true (by first | (with_reducible assumption) | assumption)
                 have q55 : x11_3 < (t208.size : Int) := of_decide_eq_true (by first | (with_reducible assumption) | assumption)
                 have hx55 := bt_at t208 x11_3
                 replace p55 := eq_true p55
                 replace q55 := eq_true q55
                 go_wp2
                 go_meet
                 case rel => exact ⟨_, (((bt t208 x11_3) != 10)), (by first | rfl | (simp; done) | (simp [*]; done)), H', ⟨by have := HJ4.out; have := HK2.out; have := HK3.out; first | omega | exact Nat.le_refl _⟩, ⟨by (with_reducible repeat (first | apply Kd.R_alloc | apply Kd.R_drewN | apply Kd.R_drew)); exact HO_5.out⟩, ⟨by repeat (first | (with_reducible first | exact HB.out | apply below_alloc | apply pw_below_drewN | apply below_drew1) | exact HB.out)⟩⟩
                ·rw [if_neg c54] at H
                 exact absurd H (by simp)
               ·rw [if_neg c53] at H
                have c53b0 : ((bt t208 (ji49)) == 13) = false := beq_eq_false_iff_ne.mpr c53
                have c53b1 : ((bt t208 (ji49)) != 13) = true := bne_iff_ne.mpr c53
                have H' := Aside0.mk H
                clear H
                have p52 : 0 ≤ ((ji49) : Int) := of_decide_eq_true (by first | (with_reducible assumption) | assumption)
                have q52 : (ji49) < (t208.size : Int) := of_decide_eq_true (by first | (with_reducible assumption) | assumption)
                have hx52 := bt_at t208 (ji49)
                replace p52 := eq_true p52
                replace q52 := eq_true q52
                go_wp2
                go_meet
                case rel => exact ⟨_, (true), (by first | rfl | (simp; done) | (simp [*]; done)), H', ⟨by have := HJ4.out; have := HK2.out; have := HK3.out; first | omega | exact Nat.le_refl _⟩, ⟨by (with_reducible repeat (first | apply Kd.R_alloc | apply Kd.R_drewN | apply Kd.R_drew)); exact HO_5.out⟩, ⟨by repeat (first | (with_reducible first | exact HB.out | apply below_alloc | apply pw_below_drewN | apply below_drew1) | exact HB.out)⟩⟩
              ·rw [if_neg c51] at H
               exact absurd H (by simp)
             ·rw [if_neg c50] at H
              exact absurd H (by simp)
            case rest =>
             clear HC48
             try clear c1
             try clear p1
             try clear q1
             try clear hx1
             try clear qi1
             try clear c2
             try clear p2
             try clear q2
             try clear hx2
             try clear c3
             try clear c4
             try clear c5
             try clear p5
             try clear q5
             try clear hx5
             try clear c6
             try clear p6
             try clear c7
             try clear c7b0
             try clear c7b1
             try clear c8
             try clear c9
             try clear c9b0
             try clear c10
             try clear c10b0
             try clear c12
             try clear c12b0
             try clear c13
             try clear c13b0
             try clear c15
             try clear c15b0
             try clear c16
             try clear c16b0
             try clear p19
             try clear q19
             try clear hx19
             try clear qi19
             try clear p20
             try clear q20
             try clear hx20
             try clear c21
             try clear c31
             try clear c31b0
             try clear c32
             try clear c32b0
             try clear c32b1
             try clear c36
             try clear c37
             try clear c37b0
             try clear c38
             try clear c38b0
             try clear c40
             try clear c46
             try clear c46b0
             try clear c50
             try clear c50b0
             try clear c51
             try clear c51b0
             try clear p52
             try clear q52
             try clear hx52
             try clear c53
             try clear c53b0
             try clear c53b1
             try clear c54
             try clear c54b0
             try clear p55
             try clear q55
             try clear hx55
             try clear hcz39_0
             try clear hcz39_1
             try clear hcz41_0
             try clear hcz41_1
             try clear hfz39_0
             try clear hfz39_1
             try clear hfz41_0
             try clear hfz41_1
             try clear hx193_0
             try clear hx193_1
             try clear hx198_0
             try clear hx198_1
             try clear hx201_0
             try clear hx202_0
             try clear hx204_0
             try clear p1
             try clear p19
             try clear p193
             try clear p198
             try clear p2
             try clear p20
             try clear p201
             try clear p202
             try clear p204
             try clear p52
             try clear p55
             try clear p6
             try clear q1
             try clear q19
             try clear q193
             try clear q198
             try clear q2
             try clear q20
             try clear q201
             try clear q202
             try clear q204
             try clear q52
             try clear q55
             obtain ⟨kq, x97_47, rfl, HA, HJ47, HO_5, HB⟩ := hcut
             cases kq with
             | zero => exact absurd HA.out (by simp [parallaxlaw9_FieldPuts.j5])
             | succ kj47 =>
              have H := HA.out
              clear HA
              simp only [parallaxlaw9_FieldPuts.j5] at H
              by_cases c56 : x97_47 = true
              ·subst c56
               rw [if_pos rfl] at H
               have H' := Aside0.mk H
               clear H
               go_wp2
               go_meet
               case rel => exact ⟨_, (x9_3), (x10_3), (by first | rfl | (simp; done) | (simp [*]; done)), (by first | rfl | (simp; done) | (simp [*]; done)), H', ⟨by have := HJ4.out; have := HK2.out; have := HK3.out; have := HJ47.out; first | omega | exact Nat.le_refl _⟩, ⟨by (with_reducible repeat (first | apply Kd.R_alloc | apply Kd.R_drewN | apply Kd.R_drew)); exact HO_5.out⟩, ⟨by repeat (first | (with_reducible first | exact HB.out | apply below_alloc | apply pw_below_drewN | apply below_drew1) | exact HB.out)⟩⟩
              ·replace c56 := Bool.eq_false_iff.mpr c56
               subst c56
               rw [if_neg (show ¬ (false = true) by decide)] at H
               by_cases c57 : 0 ≤ x10_3
               ·rw [if_pos c57] at H
                have c57b0 := eq_true c57
                have c57b1 : decide (0 ≤ x10_3) = true := decide_eq_true c57
                clear c57
                by_cases c58 : x10_3 ≤ (wrap64 (x11_3 - 1))
                ·rw [if_pos c58] at H
                 have c58b0 := eq_true c58
                 have c58b1 : decide (x10_3 ≤ (wrap64 (x11_3 - 1))) = true := decide_eq_true c58
                 clear c58
                 by_cases c59 : (wrap64 (x11_3 - 1)) ≤ (t208.size : Int)
                 ·rw [if_pos c59] at H
                  have c59b0 := eq_true c59
                  have c59b1 : decide ((wrap64 (x11_3 - 1)) ≤ (t208.size : Int)) = true := decide_eq_true c59
                  clear c59
                  replace H := Option.bind_eq_some_iff.mp H
                  obtain ⟨⟨t209, t210, t211, t212⟩, A600, H⟩ := H
                  (try dsimp only at H)
                  have A60 := Aside0.mk A600
                  clear A600
                  have HC61 := Aside0.mk H
                  clear H
                  go_upto_region 20 with (first | ((with_reducible refine gate_callee (f := 13) rfl ?_); refine goesL_ (some 104) rfl rfl Tryd.func13 (by kernel_rfl) rfl #[.string (t208.extract (x10_3 : Int).toNat ((wrap64 (x11_3 - 1)) : Int).toNat), .int .u32 0] rfl (by (try simp only [List.map_toArray, List.map_cons, List.map_nil]); first | done | rfl | (simp only [List.length_drop, List.length_take]; rfl) | (simp only [ByteArray.size_extract, Nat.min_self]; rfl)) ?_; (with_reducible refine (field_Parse.calls kj47 (t208.extract (x10_3 : Int).toNat ((wrap64 (x11_3 - 1)) : Int).toNat) 0 t209 t210 t211 t212 _ A60.out).mono ?_); rintro e w62 ⟨rfl, hb⟩; refine ⟨_, rfl, ?_⟩; have n0_ := Aside0.mk (Kd.R_below (by (with_reducible repeat (first | apply Kd.R_alloc | apply Kd.R_drewN | apply Kd.R_drew)); exact HO_5.out) hb); have n1_ := Aside0.mk (below_step (by repeat (first | (with_reducible first | exact HB.out | apply below_alloc | apply pw_below_drewN | apply below_drew1) | exact HB.out)) hb); clear HO_5; clear HB; have HO_5 := n0_; have HB := n1_; clear n0_ n1_; (try clear hb); (try clear hb2); (try clear hk); (try clear hi)) | ((with_reducible refine gate_dst (N := 12) rfl ?_); (try (refine gate_guard (by rfl) ?_; dsimp only)); refine box_event ?hg (N := 12) ?hd (cs := #[.string (⟨#[]⟩ : ByteArray), .string (⟨#[]⟩ : ByteArray)]) (t := 25) ?hr ?_; (case hd => rfl); (case hg => rfl); (case hr => first | (go_simp; done) | (go_simp; rfl)); intro gb213 hg w63 hbox hb; have n0_ := Aside0.mk (Kd.R_below (Kd.R_elderB (by (with_reducible repeat (first | apply Kd.R_alloc | apply Kd.R_drewN | apply Kd.R_drew)); exact HO_5.out) gb213 (Nat.le_of_eq hg.symm)) hb); have n1_ := Aside0.mk (below_step (by repeat (first | (with_reducible first | exact HB.out | apply below_alloc | apply pw_below_drewN | apply below_drew1) | exact HB.out)) hb); have n2_ := Aside0.mk (hbox); have n3_ := Aside0.mk ((by rw [hg]; exact (below_size (by repeat (first | (with_reducible first | exact HB.out | apply below_alloc | apply pw_below_drewN | apply below_drew1) | exact HB.out))) : w.heap.size ≤ gb213)); have n4_ := Aside0.mk ((by rw [hg]; exact (below_size (by repeat (first | (with_reducible first | exact HB.out | apply below_alloc | apply pw_below_drewN | apply below_drew1) | exact HB.out))) : w.heap.size ≤ gb213)); clear HO_5; clear HB; have HO_5 := n0_; have HB := n1_; have BK213 := n2_; have GW213 := n3_; have GE213 := n4_; clear n0_ n1_ n2_ n3_ n4_; clear hb hbox hg; have hcz64_0 : w63.cell? ⟨gb213, 0, none⟩ = some (.string (⟨#[]⟩ : ByteArray)) := (blk_cell BK213.out 0).trans rfl; have hcz64_1 : w63.cell? ⟨gb213, 1, none⟩ = some (.string (⟨#[]⟩ : ByteArray)) := (blk_cell BK213.out 1).trans rfl; have hfz64_0 := blk_frozen BK213.out 0; have hfz64_1 := blk_frozen BK213.out 1))
                  (try simp only [Act.put, List.setIfInBounds_toArray, List.set_cons_zero, List.set_cons_succ])
                  go_cut [127] (fun v127 wc => ∃ (kq : Nat) (x127_60 : Bool), v127 = .bool x127_60 ∧ Aside0 (parallaxlaw9_FieldPuts.j6 kq x5_2 t208 x9_3 x11_3 x127_60 = some r) ∧ Aside0 (kq ≤ kj47) ∧ Aside0 (Kd.R k25 25 wc w.heap.size (fun k_ => k_ ≠ gb213) (.slice Ao44 x5_2.length co44) x5_2) ∧ Aside0 (wc.heap[gb213]? = some (.cells #[.string t209, .string t210] 25 (0, 0))) ∧ Aside0 (Below w.heap.size w wc))
                  case first =>
                   have H := HC61.out
                   clear HC61
                   by_cases c65 : t211 = true
                   ·subst c65
                    rw [if_pos rfl] at H
                    by_cases c66 : t212 = 0
                    ·rw [if_pos c66] at H
                     have c66b0 : (t212 == 0) = true := beq_iff_eq.mpr c66
                     have c66b1 : (t212 != 0) = false := bne_eq_false_iff_eq.mpr c66
                     clear c66
                     (first | rw [c66b0] | (simp only [i64_w, i32_w]; rw [c66b0]) | skip)
                     by_cases c67 : x9_3 ≥ (x5_2.length : Int)
                     ·rw [if_pos c67] at H
                      have c67b0 : decide ((x5_2.length : Int) ≤ x9_3) = true := decide_eq_true c67
                      clear c67
                      have H' := Aside0.mk H
                      clear H
                      try go_wp2
                      have n0_ : Aside0 (Kd.R k25 25 ((w63.setCell ⟨gb213, 0, none⟩ (.string t209)).setCell ⟨gb213, 1, none⟩ (.string t210)) w.heap.size (fun k_ => k_ ≠ gb213) (.slice Ao44 x5_2.length co44) x5_2) := ⟨by (with_reducible repeat (first | apply Kd.R_alloc | apply Kd.R_drewN | apply Kd.R_drew)); exact Kd.R_mono (Kd.R_far (p := ⟨gb213, 1, none⟩) (Kd.R_far (p := ⟨gb213, 0, none⟩) (Kd.R_mono HO_5.out (fun k_ hk => (⟨hk, hk.2⟩ : _ ∧ k_ ≠ gb213))) (fun _ hk => (by first | exact hk.2 | exact True.intro)) (.string t209)) (fun _ hk => (by first | exact hk.2 | exact True.intro)) (.string t210)) (fun _ hk => hk.1.2)⟩
                      have n1_ : Aside0 (((w63.setCell ⟨gb213, 0, none⟩ (.string t209)).setCell ⟨gb213, 1, none⟩ (.string t210)).heap[gb213]? = some (.cells #[.string t209, .string t210] 25 (0, 0))) := ⟨by (with_reducible repeat (first | refine blk_drewN ?_ _ | refine blk_drew ?_ | refine blk_alloc ?_ _)); refine blk_put (cs := #[.string t209, .string (⟨#[]⟩ : ByteArray)]) ?_ 1 _ rfl; (with_reducible repeat (first | refine blk_drewN ?_ _ | refine blk_drew ?_ | refine blk_alloc ?_ _)); refine blk_put (cs := #[.string (⟨#[]⟩ : ByteArray), .string (⟨#[]⟩ : ByteArray)]) ?_ 0 _ rfl; (with_reducible repeat (first | refine blk_drewN ?_ _ | refine blk_drew ?_ | refine blk_alloc ?_ _)); exact BK213.out⟩
                      have n2_ : Aside0 (Below w.heap.size w ((w63.setCell ⟨gb213, 0, none⟩ (.string t209)).setCell ⟨gb213, 1, none⟩ (.string t210))) := ⟨by repeat (first | (with_reducible first | exact HB.out | apply below_alloc | apply pw_below_drewN | apply below_drew1 | refine below_set ?_ GE213.out) | exact HB.out)⟩
                      (try clear HO_5)
                      (try clear BK213)
                      (try clear HB)
                      generalize ((w63.setCell ⟨gb213, 0, none⟩ (.string t209)).setCell ⟨gb213, 1, none⟩ (.string t210)) = w68 at n0_ n1_ n2_ ⊢
                      have HO_5 := n0_
                      have BK213 := n1_
                      have HB := n2_
                      clear n0_ n1_ n2_
                      have n0_ := Aside0.mk (Kd.R_drew HO_5.out)
                      have n1_ := Aside0.mk (blk_drew BK213.out)
                      have n2_ := Aside0.mk (below_drew1 HB.out)
                      clear HO_5
                      clear BK213
                      clear HB
                      have HO_5 := n0_
                      have BK213 := n1_
                      have HB := n2_
                      clear n0_ n1_ n2_
                      refine start_ (n := 20) (S := fun w' => True) (ds := []) #[false, false, false, false, false, false, false, false, false, false, false, false, false, false, false, false, false, false, false, false] (by kernel_rfl) rfl rfl trivial (fun hHeld => ?_); refine with_tabW parallaxlaw9_FieldPuts.tab20 parallaxlaw9_FieldPuts.bits20 (fun HT_ HW_ => ?_)
                      generalize w68.drew = w69 at HO_5 BK213 HB hHeld ⊢
                      refine pure_ (i := 0) (N := some 108) (v := ?_) (a' := ?_) #[true, false, false, false, false, false, false, false, false, false, false, false, false, false, false, false, false, false, false, false] rfl rfl (any_of HT_.out (by kernel_rfl)) (fun _ _ _ h => h) (Or.inl ⟨by rfl, ?_⟩) ?_ ?_
                      rotate_left
                      ·intro w'
                       go_simp
                       with_reducible rfl
                      rotate_left
                      ·simp only [Act.put, List.setIfInBounds_toArray, List.set_cons_zero, List.set_cons_succ, i64_w, i32_w]
                       rfl
                      refine pure_ (i := 1) (N := some 109) (v := ?_) (a' := ?_) #[true, true, false, false, false, false, false, false, false, false, false, false, false, false, false, false, false, false, false, false] rfl rfl (any_of HT_.out (by kernel_rfl)) (fun _ _ _ h => h) (Or.inl ⟨by rfl, ?_⟩) ?_ ?_
                      rotate_left
                      ·intro w'
                       go_simp
                       with_reducible rfl
                      rotate_left
                      ·simp only [Act.put, List.setIfInBounds_toArray, List.set_cons_zero, List.set_cons_succ, i64_w, i32_w]
                       rfl
                      refine pure_ (i := 2) (N := some 110) (v := ?_) (a' := ?_) #[true, true, true, false, false, false, false, false, false, false, false, false, false, false, false, false, false, false, false, false] rfl rfl (any_of HT_.out (by kernel_rfl)) (fun _ _ _ h => h) (Or.inl ⟨by rfl, ?_⟩) ?_ ?_
                      rotate_left
                      ·intro w'
                       go_simp
                       with_reducible rfl
                      rotate_left
                      ·simp only [Act.put, List.setIfInBounds_toArray, List.set_cons_zero, List.set_cons_succ, i64_w, i32_w]
                       rfl
                      refine pure_ (i := 3) (N := some 111) (v := ?_) (a' := ?_) #[true, true, true, true, false, false, false, false, false, false, false, false, false, false, false, false, false, false, false, false] rfl rfl (any_of HT_.out (by kernel_rfl)) (fun _ _ _ h => h) (Or.inl ⟨by rfl, ?_⟩) ?_ ?_
                      rotate_left
                      ·intro w'
                       go_simp
                       with_reducible rfl
                      rotate_left
                      ·simp only [Act.put, List.setIfInBounds_toArray, List.set_cons_zero, List.set_cons_succ, i64_w, i32_w]
                       rfl
                      refine pure_ (i := 4) (N := some 112) (v := ?_) (a' := ?_) #[true, true, true, true, true, false, false, false, false, false, false, false, false, false, false, false, false, false, false, false] rfl rfl (any_of HT_.out (by kernel_rfl)) (fun _ _ _ h => h) (Or.inl ⟨by rfl, ?_⟩) ?_ ?_
                      rotate_left
                      ·intro w'
                       go_simp
                       with_reducible rfl
                      rotate_left
                      ·simp only [Act.put, List.setIfInBounds_toArray, List.set_cons_zero, List.set_cons_succ, i64_w, i32_w]
                       rfl
                      refine pure_ (i := 5) (N := some 113) (v := ?_) (a' := ?_) #[true, true, true, true, true, true, false, false, false, false, false, false, false, false, false, false, false, false, false, false] rfl rfl (any_of HT_.out (by kernel_rfl)) (fun _ _ _ h => h) (Or.inl ⟨by rfl, ?_⟩) ?_ ?_
                      rotate_left
                      ·intro w'
                       go_simp
                       with_reducible rfl
                      rotate_left
                      ·simp only [Act.put, List.setIfInBounds_toArray, List.set_cons_zero, List.set_cons_succ, i64_w, i32_w]
                       rfl
                      refine pure_ (i := 6) (N := some 114) (v := ?_) (a' := ?_) #[true, true, true, true, true, true, true, false, false, false, false, false, false, false, false, false, false, false, false, false] rfl rfl (any_of HT_.out (by kernel_rfl)) (fun _ _ _ h => h) (Or.inl ⟨by rfl, ?_⟩) ?_ ?_
                      rotate_left
                      ·intro w'
                       go_simp
                       with_reducible rfl
                      rotate_left
                      ·simp only [Act.put, List.setIfInBounds_toArray, List.set_cons_zero, List.set_cons_succ, i64_w, i32_w]
                       rfl
                      refine pure_ (i := 7) (N := some 115) (v := ?_) (a' := ?_) #[true, true, true, true, true, true, true, true, false, false, false, false, false, false, false, false, false, false, false, false] rfl rfl (any_of HT_.out (by kernel_rfl)) (fun _ _ _ h => h) (Or.inl ⟨by rfl, ?_⟩) ?_ ?_
                      rotate_left
                      ·intro w'
                       go_simp
                       with_reducible rfl
                      rotate_left
                      ·simp only [Act.put, List.setIfInBounds_toArray, List.set_cons_zero, List.set_cons_succ, i64_w, i32_w]
                       rfl
                      refine pure_ (i := 8) (N := some 116) (v := ?_) (a' := ?_) #[true, true, true, true, true, true, true, true, true, false, false, false, false, false, false, false, false, false, false, false] rfl rfl (any_of HT_.out (by kernel_rfl)) (fun _ _ _ h => h) (Or.inl ⟨by rfl, ?_⟩) ?_ ?_
                      rotate_left
                      ·intro w'
                       go_simp
                       with_reducible rfl
                      rotate_left
                      ·simp only [Act.put, List.setIfInBounds_toArray, List.set_cons_zero, List.set_cons_succ, i64_w, i32_w]
                       rfl
                      refine pure_ (i := 9) (N := some 117) (v := ?_) (a' := ?_) #[true, true, true, true, true, true, true, true, true, true, false, false, false, false, false, false, false, false, false, false] rfl rfl (any_of HT_.out (by kernel_rfl)) (fun _ _ _ h => h) (Or.inl ⟨by rfl, ?_⟩) ?_ ?_
                      rotate_left
                      ·intro w'
                       go_simp
                       with_reducible rfl
                      rotate_left
                      ·simp only [Act.put, List.setIfInBounds_toArray, List.set_cons_zero, List.set_cons_succ, i64_w, i32_w]
                       rfl
                      refine pure_ (i := 10) (N := some 118) (v := ?_) (a' := ?_) #[true, true, true, true, true, true, true, true, true, true, true, false, false, false, false, false, false, false, false, false] rfl rfl (any_of HT_.out (by kernel_rfl)) (fun _ _ _ h => h) (Or.inl ⟨by rfl, ?_⟩) ?_ ?_
                      rotate_left
                      ·intro w'
                       go_simp
                       with_reducible rfl
                      rotate_left
                      ·simp only [Act.put, List.setIfInBounds_toArray, List.set_cons_zero, List.set_cons_succ, i64_w, i32_w]
                       rfl
                      refine pure_ (i := 11) (N := some 119) (v := ?_) (a' := ?_) #[true, true, true, true, true, true, true, true, true, true, true, true, false, false, false, false, false, false, false, false] rfl rfl (any_of HT_.out (by kernel_rfl)) (fun _ _ _ h => h) (Or.inl ⟨by rfl, ?_⟩) ?_ ?_
                      rotate_left
                      ·intro w'
                       go_simp
                       with_reducible rfl
                      rotate_left
                      ·simp only [Act.put, List.setIfInBounds_toArray, List.set_cons_zero, List.set_cons_succ, i64_w, i32_w]
                       rfl
                      refine pure_ (i := 12) (N := some 120) (v := ?_) (a' := ?_) #[true, true, true, true, true, true, true, true, true, true, true, true, true, false, false, false, false, false, false, false] rfl rfl (any_of HT_.out (by kernel_rfl)) (fun _ _ _ h => h) (Or.inl ⟨by rfl, ?_⟩) ?_ ?_
                      rotate_left
                      ·intro w'
                       go_simp
                       with_reducible rfl
                      rotate_left
                      ·simp only [Act.put, List.setIfInBounds_toArray, List.set_cons_zero, List.set_cons_succ, i64_w, i32_w]
                       rfl
                      refine pure_ (i := 13) (N := some 121) (v := undef) (a' := ?_) #[true, true, true, true, true, true, true, true, true, true, true, true, true, true, false, false, false, false, false, false] rfl rfl (any_of HT_.out (by kernel_rfl)) (fun _ _ _ h => h) (Or.inr ⟨by rfl, rfl⟩) ?_ ?_
                      rotate_left
                      ·simp only [Act.put, List.setIfInBounds_toArray, List.set_cons_zero, List.set_cons_succ, i64_w, i32_w]
                       rfl
                      refine pure_ (i := 14) (N := some 122) (v := undef) (a' := ?_) #[true, true, true, true, true, true, true, true, true, true, true, true, true, true, true, false, false, false, false, false] rfl rfl (any_of HT_.out (by kernel_rfl)) (fun _ _ _ h => h) (Or.inr ⟨by rfl, rfl⟩) ?_ ?_
                      rotate_left
                      ·simp only [Act.put, List.setIfInBounds_toArray, List.set_cons_zero, List.set_cons_succ, i64_w, i32_w]
                       rfl
                      refine pure_ (i := 15) (N := some 123) (v := undef) (a' := ?_) #[true, true, true, true, true, true, true, true, true, true, true, true, true, true, true, true, false, false, false, false] rfl rfl (any_of HT_.out (by kernel_rfl)) (fun _ _ _ h => h) (Or.inr ⟨by rfl, rfl⟩) ?_ ?_
                      rotate_left
                      ·simp only [Act.put, List.setIfInBounds_toArray, List.set_cons_zero, List.set_cons_succ, i64_w, i32_w]
                       rfl
                      refine pure_ (i := 16) (N := some 124) (v := undef) (a' := ?_) #[true, true, true, true, true, true, true, true, true, true, true, true, true, true, true, true, true, false, false, false] rfl rfl (any_of HT_.out (by kernel_rfl)) (fun _ _ _ h => h) (Or.inr ⟨by rfl, rfl⟩) ?_ ?_
                      rotate_left
                      ·simp only [Act.put, List.setIfInBounds_toArray, List.set_cons_zero, List.set_cons_succ, i64_w, i32_w]
                       rfl
                      refine pure_ (i := 17) (N := some 125) (v := undef) (a' := ?_) #[true, true, true, true, true, true, true, true, true, true, true, true, true, true, true, true, true, true, false, false] rfl rfl (any_of HT_.out (by kernel_rfl)) (fun _ _ _ h => h) (Or.inr ⟨by rfl, rfl⟩) ?_ ?_
                      rotate_left
                      ·simp only [Act.put, List.setIfInBounds_toArray, List.set_cons_zero, List.set_cons_succ, i64_w, i32_w]
                       rfl
                      refine pure_ (i := 18) (N := some 126) (v := undef) (a' := ?_) #[true, true, true, true, true, true, true, true, true, true, true, true, true, true, true, true, true, true, true, false] rfl rfl (any_of HT_.out (by kernel_rfl)) (fun _ _ _ h => h) (Or.inr ⟨by rfl, rfl⟩) ?_ ?_
                      rotate_left
                      ·simp only [Act.put, List.setIfInBounds_toArray, List.set_cons_zero, List.set_cons_succ, i64_w, i32_w]
                       rfl
                      refine pure_ (i := 19) (N := some 127) (v := ?_) (a' := ?_) #[true, true, true, true, true, true, true, true, true, true, true, true, true, true, true, true, true, true, true, true] rfl rfl (any_of HT_.out (by kernel_rfl)) (fun _ _ _ h => h) (Or.inl ⟨by rfl, ?_⟩) ?_ ?_
                      rotate_left
                      ·intro w'
                       go_simp
                       with_reducible rfl
                      rotate_left
                      ·simp only [Act.put, List.setIfInBounds_toArray, List.set_cons_zero, List.set_cons_succ, i64_w, i32_w]
                       rfl
                      refine done_ (done_of HT_.out (by kernel_rfl)) ?_
                      try go_wp2
                      go_meet
                      case rel => exact ⟨_, (true), (by first | rfl | (simp; done) | (simp [*]; done)), H', ⟨by have := HJ4.out; have := HK2.out; have := HK3.out; have := HJ47.out; first | omega | exact Nat.le_refl _⟩, ⟨by (with_reducible repeat (first | apply Kd.R_alloc | apply Kd.R_drewN | apply Kd.R_drew)); exact HO_5.out⟩, ⟨by (with_reducible repeat (first | refine blk_drewN ?_ _ | refine blk_drew ?_ | refine blk_alloc ?_ _)); exact BK213.out⟩, ⟨by repeat (first | (with_reducible first | exact HB.out | apply below_alloc | apply pw_below_drewN | apply below_drew1 | refine below_set ?_ GE213.out) | exact HB.out)⟩⟩
                     ·rw [if_neg c67] at H
                      have c67b0 : decide ((x5_2.length : Int) ≤ x9_3) = false := decide_eq_false c67
                      clear c67
                      by_cases c70 : 0 ≤ x9_3
                      ·rw [if_pos c70] at H
                       have c70b0 : decide (0 ≤ x9_3) = true := decide_eq_true c70
                       clear c70
                       by_cases c71 : x9_3 < (x5_2.length : Int)
                       ·rw [if_pos c71] at H
                        have c71b0 : decide (x9_3 < (x5_2.length : Int)) = true := decide_eq_true c71
                        clear c71
                        have H' := Aside0.mk H
                        clear H
                        try go_wp2
                        have n0_ : Aside0 (Kd.R k25 25 ((w63.setCell ⟨gb213, 0, none⟩ (.string t209)).setCell ⟨gb213, 1, none⟩ (.string t210)) w.heap.size (fun k_ => k_ ≠ gb213) (.slice Ao44 x5_2.length co44) x5_2) := ⟨by (with_reducible repeat (first | apply Kd.R_alloc | apply Kd.R_drewN | apply Kd.R_drew)); exact Kd.R_mono (Kd.R_far (p := ⟨gb213, 1, none⟩) (Kd.R_far (p := ⟨gb213, 0, none⟩) (Kd.R_mono HO_5.out (fun k_ hk => (⟨hk, hk.2⟩ : _ ∧ k_ ≠ gb213))) (fun _ hk => (by first | exact hk.2 | exact True.intro)) (.string t209)) (fun _ hk => (by first | exact hk.2 | exact True.intro)) (.string t210)) (fun _ hk => hk.1.2)⟩
                        have n1_ : Aside0 (((w63.setCell ⟨gb213, 0, none⟩ (.string t209)).setCell ⟨gb213, 1, none⟩ (.string t210)).heap[gb213]? = some (.cells #[.string t209, .string t210] 25 (0, 0))) := ⟨by (with_reducible repeat (first | refine blk_drewN ?_ _ | refine blk_drew ?_ | refine blk_alloc ?_ _)); refine blk_put (cs := #[.string t209, .string (⟨#[]⟩ : ByteArray)]) ?_ 1 _ rfl; (with_reducible repeat (first | refine blk_drewN ?_ _ | refine blk_drew ?_ | refine blk_alloc ?_ _)); refine blk_put (cs := #[.string (⟨#[]⟩ : ByteArray), .string (⟨#[]⟩ : ByteArray)]) ?_ 0 _ rfl; (with_reducible repeat (first | refine blk_drewN ?_ _ | refine blk_drew ?_ | refine blk_alloc ?_ _)); exact BK213.out⟩
                        have n2_ : Aside0 (Below w.heap.size w ((w63.setCell ⟨gb213, 0, none⟩ (.string t209)).setCell ⟨gb213, 1, none⟩ (.string t210))) := ⟨by repeat (first | (with_reducible first | exact HB.out | apply below_alloc | apply pw_below_drewN | apply below_drew1 | refine below_set ?_ GE213.out) | exact HB.out)⟩
                        (try clear HO_5)
                        (try clear BK213)
                        (try clear HB)
                        generalize ((w63.setCell ⟨gb213, 0, none⟩ (.string t209)).setCell ⟨gb213, 1, none⟩ (.string t210)) = w72 at n0_ n1_ n2_ ⊢
                        have HO_5 := n0_
                        have BK213 := n1_
                        have HB := n2_
                        clear n0_ n1_ n2_
                        have n0_ := Aside0.mk (Kd.R_drew HO_5.out)
                        have n1_ := Aside0.mk (blk_drew BK213.out)
                        have n2_ := Aside0.mk (below_drew1 HB.out)
                        clear HO_5
                        clear BK213
                        clear HB
                        have HO_5 := n0_
                        have BK213 := n1_
                        have HB := n2_
                        clear n0_ n1_ n2_
                        have p214 : 0 ≤ (x9_3 : Int) := of_decide_eq_true (by first | (with_reducible assumption) | assumption)
                        have q214 : x9_3 < (x5_2.length : Int) := of_decide_eq_true (by first | (with_reducible assumption) | assumption)
                        obtain ⟨ad214, e214, hx214_0, hx214_1⟩ := at_T25 (Kd.R_reads' HO_5.out).2.2 x9_3 p214 q214
                        cases e214
                        replace p214 := eq_true p214
                        replace q214 := eq_true q214
                        refine start_ (n := 20) (S := fun w' => w'.cell? ⟨gb213, 0, none⟩ = some (.string t209) ∧ w'.cell? ⟨gb213, 1, none⟩ = some (.string t210) ∧ w'.cell? (ad214.add ((x9_3).toNat * 2)) = some (.string ((rd_T25 x5_2 x9_3).f0)) ∧ w'.cell? ⟨(ad214.add ((x9_3).toNat * 2)).block, (ad214.add ((x9_3).toNat * 2)).off + 1, none⟩ = some (.string ((rd_T25 x5_2 x9_3).f1))) (ds := []) #[false, false, false, false, false, false, false, false, false, false, false, false, false, false, false, false, false, false, false, false] (by kernel_rfl) rfl rfl ⟨(blk_cell BK213.out 0).trans rfl, (blk_cell BK213.out 1).trans rfl, hx214_0, hx214_1⟩ (fun hHeld => ?_); refine with_tabW parallaxlaw9_FieldPuts.tab20 parallaxlaw9_FieldPuts.bits20 (fun HT_ HW_ => ?_)
                        generalize w72.drew = w73 at HO_5 BK213 HB hx214_0 hx214_1 hHeld ⊢
                        refine pure_ (i := 0) (N := some 108) (v := ?_) (a' := ?_) #[true, false, false, false, false, false, false, false, false, false, false, false, false, false, false, false, false, false, false, false] rfl rfl (any_of HT_.out (by kernel_rfl)) (fun _ _ _ h => h) (Or.inl ⟨by rfl, ?_⟩) ?_ ?_
                        rotate_left
                        ·intro w'
                         go_simp
                         with_reducible rfl
                        rotate_left
                        ·simp only [Act.put, List.setIfInBounds_toArray, List.set_cons_zero, List.set_cons_succ, i64_w, i32_w]
                         rfl
                        refine pure_ (i := 1) (N := some 109) (v := ?_) (a' := ?_) #[true, true, false, false, false, false, false, false, false, false, false, false, false, false, false, false, false, false, false, false] rfl rfl (any_of HT_.out (by kernel_rfl)) (fun _ _ _ h => h) (Or.inl ⟨by rfl, ?_⟩) ?_ ?_
                        rotate_left
                        ·intro w'
                         go_simp
                         with_reducible rfl
                        rotate_left
                        ·simp only [Act.put, List.setIfInBounds_toArray, List.set_cons_zero, List.set_cons_succ, i64_w, i32_w]
                         rfl
                        refine pure_ (i := 2) (N := some 110) (v := ?_) (a' := ?_) #[true, true, true, false, false, false, false, false, false, false, false, false, false, false, false, false, false, false, false, false] rfl rfl (any_of HT_.out (by kernel_rfl)) (fun _ _ _ h => h) (Or.inl ⟨by rfl, ?_⟩) ?_ ?_
                        rotate_left
                        ·intro w'
                         go_simp
                         with_reducible rfl
                        rotate_left
                        ·simp only [Act.put, List.setIfInBounds_toArray, List.set_cons_zero, List.set_cons_succ, i64_w, i32_w]
                         rfl
                        refine pure_ (i := 3) (N := some 111) (v := ?_) (a' := ?_) #[true, true, true, true, false, false, false, false, false, false, false, false, false, false, false, false, false, false, false, false] rfl rfl (any_of HT_.out (by kernel_rfl)) (fun _ _ _ h => h) (Or.inl ⟨by rfl, ?_⟩) ?_ ?_
                        rotate_left
                        ·intro w'
                         go_simp
                         with_reducible rfl
                        rotate_left
                        ·simp only [Act.put, List.setIfInBounds_toArray, List.set_cons_zero, List.set_cons_succ, i64_w, i32_w]
                         rfl
                        refine pure_ (i := 4) (N := some 112) (v := ?_) (a' := ?_) #[true, true, true, true, true, false, false, false, false, false, false, false, false, false, false, false, false, false, false, false] rfl rfl (any_of HT_.out (by kernel_rfl)) (fun _ _ _ h => h) (Or.inl ⟨by rfl, ?_⟩) ?_ ?_
                        rotate_left
                        ·intro w'
                         go_simp
                         with_reducible rfl
                        rotate_left
                        ·simp only [Act.put, List.setIfInBounds_toArray, List.set_cons_zero, List.set_cons_succ, i64_w, i32_w]
                         rfl
                        refine pure_ (i := 5) (N := some 113) (v := ?_) (a' := ?_) #[true, true, true, true, true, true, false, false, false, false, false, false, false, false, false, false, false, false, false, false] rfl rfl (any_of HT_.out (by kernel_rfl)) (fun _ _ _ h => h) (Or.inl ⟨by rfl, ?_⟩) ?_ ?_
                        rotate_left
                        ·intro w'
                         go_simp
                         with_reducible rfl
                        rotate_left
                        ·simp only [Act.put, List.setIfInBounds_toArray, List.set_cons_zero, List.set_cons_succ, i64_w, i32_w]
                         rfl
                        refine pure_ (i := 6) (N := some 114) (v := ?_) (a' := ?_) #[true, true, true, true, true, true, true, false, false, false, false, false, false, false, false, false, false, false, false, false] rfl rfl (any_of HT_.out (by kernel_rfl)) (fun _ _ _ h => h) (Or.inl ⟨by rfl, ?_⟩) ?_ ?_
                        rotate_left
                        ·intro w'
                         go_simp
                         with_reducible rfl
                        rotate_left
                        ·simp only [Act.put, List.setIfInBounds_toArray, List.set_cons_zero, List.set_cons_succ, i64_w, i32_w]
                         rfl
                        refine pure_ (i := 7) (N := some 115) (v := ?_) (a' := ?_) #[true, true, true, true, true, true, true, true, false, false, false, false, false, false, false, false, false, false, false, false] rfl rfl (any_of HT_.out (by kernel_rfl)) (fun _ _ _ h => h) (Or.inl ⟨by rfl, ?_⟩) ?_ ?_
                        rotate_left
                        ·intro w'
                         go_simp
                         with_reducible rfl
                        rotate_left
                        ·simp only [Act.put, List.setIfInBounds_toArray, List.set_cons_zero, List.set_cons_succ, i64_w, i32_w]
                         rfl
                        refine pure_ (i := 8) (N := some 116) (v := ?_) (a' := ?_) #[true, true, true, true, true, true, true, true, true, false, false, false, false, false, false, false, false, false, false, false] rfl rfl (any_of HT_.out (by kernel_rfl)) (fun _ _ _ h => h) (Or.inl ⟨by rfl, ?_⟩) ?_ ?_
                        rotate_left
                        ·intro w'
                         go_simp
                         with_reducible rfl
                        rotate_left
                        ·simp only [Act.put, List.setIfInBounds_toArray, List.set_cons_zero, List.set_cons_succ, i64_w, i32_w]
                         rfl
                        refine pure_ (i := 9) (N := some 117) (v := ?_) (a' := ?_) #[true, true, true, true, true, true, true, true, true, true, false, false, false, false, false, false, false, false, false, false] rfl rfl (any_of HT_.out (by kernel_rfl)) (fun _ _ _ h => h) (Or.inl ⟨by rfl, ?_⟩) ?_ ?_
                        rotate_left
                        ·intro w'
                         go_simp
                         with_reducible rfl
                        rotate_left
                        ·simp only [Act.put, List.setIfInBounds_toArray, List.set_cons_zero, List.set_cons_succ, i64_w, i32_w]
                         rfl
                        refine pure_ (i := 10) (N := some 118) (v := ?_) (a' := ?_) #[true, true, true, true, true, true, true, true, true, true, true, false, false, false, false, false, false, false, false, false] rfl rfl (any_of HT_.out (by kernel_rfl)) (fun _ _ _ h => h) (Or.inl ⟨by rfl, ?_⟩) ?_ ?_
                        rotate_left
                        ·intro w'
                         go_simp
                         with_reducible rfl
                        rotate_left
                        ·simp only [Act.put, List.setIfInBounds_toArray, List.set_cons_zero, List.set_cons_succ, i64_w, i32_w]
                         rfl
                        refine pure_ (i := 11) (N := some 119) (v := ?_) (a' := ?_) #[true, true, true, true, true, true, true, true, true, true, true, true, false, false, false, false, false, false, false, false] rfl rfl (any_of HT_.out (by kernel_rfl)) (fun _ _ _ h => h) (Or.inl ⟨by rfl, ?_⟩) ?_ ?_
                        rotate_left
                        ·intro w'
                         go_simp
                         with_reducible rfl
                        rotate_left
                        ·simp only [Act.put, List.setIfInBounds_toArray, List.set_cons_zero, List.set_cons_succ, i64_w, i32_w]
                         rfl
                        refine pure_ (i := 12) (N := some 120) (v := ?_) (a' := ?_) #[true, true, true, true, true, true, true, true, true, true, true, true, true, false, false, false, false, false, false, false] rfl rfl (any_of HT_.out (by kernel_rfl)) (fun _ _ _ h => h) (Or.inl ⟨by rfl, ?_⟩) ?_ ?_
                        rotate_left
                        ·intro w'
                         go_simp
                         with_reducible rfl
                        rotate_left
                        ·simp only [Act.put, List.setIfInBounds_toArray, List.set_cons_zero, List.set_cons_succ, i64_w, i32_w]
                         rfl
                        refine pure_ (i := 14) (N := some 122) (v := ?_) (a' := ?_) #[true, true, true, true, true, true, true, true, true, true, true, true, true, false, true, false, false, false, false, false] rfl rfl (any_of HT_.out (by kernel_rfl)) (fun _ _ _ h => h) (Or.inl ⟨by rfl, ?_⟩) ?_ ?_
                        rotate_left
                        ·intro w'
                         go_simp
                         with_reducible rfl
                        rotate_left
                        ·simp only [Act.put, List.setIfInBounds_toArray, List.set_cons_zero, List.set_cons_succ, i64_w, i32_w]
                         rfl
                        refine pure_ (i := 15) (N := some 123) (v := ?_) (a' := ?_) #[true, true, true, true, true, true, true, true, true, true, true, true, true, false, true, true, false, false, false, false] rfl rfl (any_of HT_.out (by kernel_rfl)) (fun _ _ _ h => h) (Or.inl ⟨by rfl, ?_⟩) ?_ ?_
                        rotate_left
                        ·intro w'
                         go_simp
                         with_reducible rfl
                        rotate_left
                        ·simp only [Act.put, List.setIfInBounds_toArray, List.set_cons_zero, List.set_cons_succ, i64_w, i32_w]
                         rfl
                        refine pure_ (i := 16) (N := some 124) (v := ?_) (a' := ?_) #[true, true, true, true, true, true, true, true, true, true, true, true, true, false, true, true, true, false, false, false] rfl rfl (any_of HT_.out (by kernel_rfl)) (fun _ _ _ h => h) (Or.inl ⟨by rfl, ?_⟩) ?_ ?_
                        rotate_left
                        ·intro w'
                         go_simp
                         with_reducible rfl
                        rotate_left
                        ·simp only [Act.put, List.setIfInBounds_toArray, List.set_cons_zero, List.set_cons_succ, i64_w, i32_w]
                         rfl
                        refine take_ (i := 13) (N := some 121) (v := ?_) (a' := ?_) #[true, true, true, true, true, true, true, true, true, true, true, true, true, true, true, true, true, false, false, false] rfl rfl (take_ofW HT_.out HW_.out (by kernel_rfl)) (fun _ _ _ h => h) (Or.inl ⟨by rfl, ?_⟩) hHeld ?_ ?_
                        rotate_left
                        ·rintro w' ⟨s0, s1, s2, s3⟩
                         go_simp
                         with_reducible rfl
                        rotate_left
                        ·simp only [Act.put, List.setIfInBounds_toArray, List.set_cons_zero, List.set_cons_succ, i64_w, i32_w]
                         rfl
                        refine take_ (i := 17) (N := some 125) (v := ?_) (a' := ?_) #[true, true, true, true, true, true, true, true, true, true, true, true, true, true, true, true, true, true, false, false] rfl rfl (take_ofW HT_.out HW_.out (by kernel_rfl)) (fun _ _ _ h => h) (Or.inl ⟨by rfl, ?_⟩) hHeld ?_ ?_
                        rotate_left
                        ·rintro w' ⟨s0, s1, s2, s3⟩
                         go_simp
                         with_reducible rfl
                        rotate_left
                        ·simp only [Act.put, List.setIfInBounds_toArray, List.set_cons_zero, List.set_cons_succ, i64_w, i32_w]
                         rfl
                        refine pure_ (i := 18) (N := some 126) (v := ?_) (a' := ?_) #[true, true, true, true, true, true, true, true, true, true, true, true, true, true, true, true, true, true, true, false] rfl rfl (any_of HT_.out (by kernel_rfl)) (fun _ _ _ h => h) (Or.inl ⟨by rfl, ?_⟩) ?_ ?_
                        rotate_left
                        ·intro w'
                         go_simp
                         with_reducible rfl
                        rotate_left
                        ·simp only [Act.put, List.setIfInBounds_toArray, List.set_cons_zero, List.set_cons_succ, i64_w, i32_w]
                         rfl
                        refine pure_ (i := 19) (N := some 127) (v := ?_) (a' := ?_) #[true, true, true, true, true, true, true, true, true, true, true, true, true, true, true, true, true, true, true, true] rfl rfl (any_of HT_.out (by kernel_rfl)) (fun _ _ _ h => h) (Or.inl ⟨by rfl, ?_⟩) ?_ ?_
                        rotate_left
                        ·intro w'
                         go_simp
                         with_reducible rfl
                        rotate_left
                        ·simp only [Act.put, List.setIfInBounds_toArray, List.set_cons_zero, List.set_cons_succ, i64_w, i32_w]
                         rfl
                        refine done_ (done_of HT_.out (by kernel_rfl)) ?_
                        try go_wp2
                        go_meet
                        case rel => exact ⟨_, ((!(t209.toList == (((rd_T25 x5_2 x9_3).f0).toList)) || (!(t210.toList == (((rd_T25 x5_2 x9_3).f1).toList))))), (by first | rfl | (simp; done) | (simp [*]; done)), H', ⟨by have := HJ4.out; have := HK2.out; have := HK3.out; have := HJ47.out; first | omega | exact Nat.le_refl _⟩, ⟨by (with_reducible repeat (first | apply Kd.R_alloc | apply Kd.R_drewN | apply Kd.R_drew)); exact HO_5.out⟩, ⟨by (with_reducible repeat (first | refine blk_drewN ?_ _ | refine blk_drew ?_ | refine blk_alloc ?_ _)); exact BK213.out⟩, ⟨by repeat (first | (with_reducible first | exact HB.out | apply below_alloc | apply pw_below_drewN | apply below_drew1 | refine below_set ?_ GE213.out) | exact HB.out)⟩⟩
                       ·rw [if_neg c71] at H
                        exact absurd H (by simp)
                      ·rw [if_neg c70] at H
                       exact absurd H (by simp)
                    ·rw [if_neg c66] at H
                     have c66b0 : (t212 == 0) = false := beq_eq_false_iff_ne.mpr c66
                     have c66b1 : (t212 != 0) = true := bne_iff_ne.mpr c66
                     (first | rw [c66b0] | (simp only [i64_w, i32_w]; rw [c66b0]) | skip)
                     have H' := Aside0.mk H
                     clear H
                     try go_wp2
                     have n0_ : Aside0 (Kd.R k25 25 ((w63.setCell ⟨gb213, 0, none⟩ (.string t209)).setCell ⟨gb213, 1, none⟩ (.string t210)) w.heap.size (fun k_ => k_ ≠ gb213) (.slice Ao44 x5_2.length co44) x5_2) := ⟨by (with_reducible repeat (first | apply Kd.R_alloc | apply Kd.R_drewN | apply Kd.R_drew)); exact Kd.R_mono (Kd.R_far (p := ⟨gb213, 1, none⟩) (Kd.R_far (p := ⟨gb213, 0, none⟩) (Kd.R_mono HO_5.out (fun k_ hk => (⟨hk, hk.2⟩ : _ ∧ k_ ≠ gb213))) (fun _ hk => (by first | exact hk.2 | exact True.intro)) (.string t209)) (fun _ hk => (by first | exact hk.2 | exact True.intro)) (.string t210)) (fun _ hk => hk.1.2)⟩
                     have n1_ : Aside0 (((w63.setCell ⟨gb213, 0, none⟩ (.string t209)).setCell ⟨gb213, 1, none⟩ (.string t210)).heap[gb213]? = some (.cells #[.string t209, .string t210] 25 (0, 0))) := ⟨by (with_reducible repeat (first | refine blk_drewN ?_ _ | refine blk_drew ?_ | refine blk_alloc ?_ _)); refine blk_put (cs := #[.string t209, .string (⟨#[]⟩ : ByteArray)]) ?_ 1 _ rfl; (with_reducible repeat (first | refine blk_drewN ?_ _ | refine blk_drew ?_ | refine blk_alloc ?_ _)); refine blk_put (cs := #[.string (⟨#[]⟩ : ByteArray), .string (⟨#[]⟩ : ByteArray)]) ?_ 0 _ rfl; (with_reducible repeat (first | refine blk_drewN ?_ _ | refine blk_drew ?_ | refine blk_alloc ?_ _)); exact BK213.out⟩
                     have n2_ : Aside0 (Below w.heap.size w ((w63.setCell ⟨gb213, 0, none⟩ (.string t209)).setCell ⟨gb213, 1, none⟩ (.string t210))) := ⟨by repeat (first | (with_reducible first | exact HB.out | apply below_alloc | apply pw_below_drewN | apply below_drew1 | refine below_set ?_ GE213.out) | exact HB.out)⟩
                     (try clear HO_5)
                     (try clear BK213)
                     (try clear HB)
                     generalize ((w63.setCell ⟨gb213, 0, none⟩ (.string t209)).setCell ⟨gb213, 1, none⟩ (.string t210)) = w74 at n0_ n1_ n2_ ⊢
                     have HO_5 := n0_
                     have BK213 := n1_
                     have HB := n2_
                     clear n0_ n1_ n2_
                     have n0_ := Aside0.mk (Kd.R_drew HO_5.out)
                     have n1_ := Aside0.mk (blk_drew BK213.out)
                     have n2_ := Aside0.mk (below_drew1 HB.out)
                     clear HO_5
                     clear BK213
                     clear HB
                     have HO_5 := n0_
                     have BK213 := n1_
                     have HB := n2_
                     clear n0_ n1_ n2_
                     refine start_ (n := 20) (S := fun w' => True) (ds := []) #[false, false, false, false, false, false, false, false, false, false, false, false, false, false, false, false, false, false, false, false] (by kernel_rfl) rfl rfl trivial (fun hHeld => ?_); refine with_tabW parallaxlaw9_FieldPuts.tab20 parallaxlaw9_FieldPuts.bits20 (fun HT_ HW_ => ?_)
                     generalize w74.drew = w75 at HO_5 BK213 HB hHeld ⊢
                     refine pure_ (i := 0) (N := some 108) (v := ?_) (a' := ?_) #[true, false, false, false, false, false, false, false, false, false, false, false, false, false, false, false, false, false, false, false] rfl rfl (any_of HT_.out (by kernel_rfl)) (fun _ _ _ h => h) (Or.inl ⟨by rfl, ?_⟩) ?_ ?_
                     rotate_left
                     ·intro w'
                      go_simp
                      with_reducible rfl
                     rotate_left
                     ·simp only [Act.put, List.setIfInBounds_toArray, List.set_cons_zero, List.set_cons_succ, i64_w, i32_w]
                      rfl
                     refine pure_ (i := 1) (N := some 109) (v := ?_) (a' := ?_) #[true, true, false, false, false, false, false, false, false, false, false, false, false, false, false, false, false, false, false, false] rfl rfl (any_of HT_.out (by kernel_rfl)) (fun _ _ _ h => h) (Or.inl ⟨by rfl, ?_⟩) ?_ ?_
                     rotate_left
                     ·intro w'
                      go_simp
                      with_reducible rfl
                     rotate_left
                     ·simp only [Act.put, List.setIfInBounds_toArray, List.set_cons_zero, List.set_cons_succ, i64_w, i32_w]
                      rfl
                     refine pure_ (i := 2) (N := some 110) (v := ?_) (a' := ?_) #[true, true, true, false, false, false, false, false, false, false, false, false, false, false, false, false, false, false, false, false] rfl rfl (any_of HT_.out (by kernel_rfl)) (fun _ _ _ h => h) (Or.inl ⟨by rfl, ?_⟩) ?_ ?_
                     rotate_left
                     ·intro w'
                      go_simp
                      with_reducible rfl
                     rotate_left
                     ·simp only [Act.put, List.setIfInBounds_toArray, List.set_cons_zero, List.set_cons_succ, i64_w, i32_w]
                      rfl
                     refine pure_ (i := 3) (N := some 111) (v := ?_) (a' := ?_) #[true, true, true, true, false, false, false, false, false, false, false, false, false, false, false, false, false, false, false, false] rfl rfl (any_of HT_.out (by kernel_rfl)) (fun _ _ _ h => h) (Or.inl ⟨by rfl, ?_⟩) ?_ ?_
                     rotate_left
                     ·intro w'
                      go_simp
                      with_reducible rfl
                     rotate_left
                     ·simp only [Act.put, List.setIfInBounds_toArray, List.set_cons_zero, List.set_cons_succ, i64_w, i32_w]
                      rfl
                     refine pure_ (i := 4) (N := some 112) (v := ?_) (a' := ?_) #[true, true, true, true, true, false, false, false, false, false, false, false, false, false, false, false, false, false, false, false] rfl rfl (any_of HT_.out (by kernel_rfl)) (fun _ _ _ h => h) (Or.inl ⟨by rfl, ?_⟩) ?_ ?_
                     rotate_left
                     ·intro w'
                      go_simp
                      with_reducible rfl
                     rotate_left
                     ·simp only [Act.put, List.setIfInBounds_toArray, List.set_cons_zero, List.set_cons_succ, i64_w, i32_w]
                      rfl
                     refine pure_ (i := 5) (N := some 113) (v := ?_) (a' := ?_) #[true, true, true, true, true, true, false, false, false, false, false, false, false, false, false, false, false, false, false, false] rfl rfl (any_of HT_.out (by kernel_rfl)) (fun _ _ _ h => h) (Or.inl ⟨by rfl, ?_⟩) ?_ ?_
                     rotate_left
                     ·intro w'
                      go_simp
                      with_reducible rfl
                     rotate_left
                     ·simp only [Act.put, List.setIfInBounds_toArray, List.set_cons_zero, List.set_cons_succ, i64_w, i32_w]
                      rfl
                     refine pure_ (i := 6) (N := some 114) (v := ?_) (a' := ?_) #[true, true, true, true, true, true, true, false, false, false, false, false, false, false, false, false, false, false, false, false] rfl rfl (any_of HT_.out (by kernel_rfl)) (fun _ _ _ h => h) (Or.inl ⟨by rfl, ?_⟩) ?_ ?_
                     rotate_left
                     ·intro w'
                      go_simp
                      with_reducible rfl
                     rotate_left
                     ·simp only [Act.put, List.setIfInBounds_toArray, List.set_cons_zero, List.set_cons_succ, i64_w, i32_w]
                      rfl
                     refine pure_ (i := 7) (N := some 115) (v := undef) (a' := ?_) #[true, true, true, true, true, true, true, true, false, false, false, false, false, false, false, false, false, false, false, false] rfl rfl (any_of HT_.out (by kernel_rfl)) (fun _ _ _ h => h) (Or.inr ⟨by rfl, rfl⟩) ?_ ?_
                     rotate_left
                     ·simp only [Act.put, List.setIfInBounds_toArray, List.set_cons_zero, List.set_cons_succ, i64_w, i32_w]
                      rfl
                     refine pure_ (i := 8) (N := some 116) (v := undef) (a' := ?_) #[true, true, true, true, true, true, true, true, true, false, false, false, false, false, false, false, false, false, false, false] rfl rfl (any_of HT_.out (by kernel_rfl)) (fun _ _ _ h => h) (Or.inr ⟨by rfl, rfl⟩) ?_ ?_
                     rotate_left
                     ·simp only [Act.put, List.setIfInBounds_toArray, List.set_cons_zero, List.set_cons_succ, i64_w, i32_w]
                      rfl
                     refine pure_ (i := 9) (N := some 117) (v := undef) (a' := ?_) #[true, true, true, true, true, true, true, true, true, true, false, false, false, false, false, false, false, false, false, false] rfl rfl (any_of HT_.out (by kernel_rfl)) (fun _ _ _ h => h) (Or.inr ⟨by rfl, rfl⟩) ?_ ?_
                     rotate_left
                     ·simp only [Act.put, List.setIfInBounds_toArray, List.set_cons_zero, List.set_cons_succ, i64_w, i32_w]
                      rfl
                     refine pure_ (i := 10) (N := some 118) (v := undef) (a' := ?_) #[true, true, true, true, true, true, true, true, true, true, true, false, false, false, false, false, false, false, false, false] rfl rfl (any_of HT_.out (by kernel_rfl)) (fun _ _ _ h => h) (Or.inr ⟨by rfl, rfl⟩) ?_ ?_
                     rotate_left
                     ·simp only [Act.put, List.setIfInBounds_toArray, List.set_cons_zero, List.set_cons_succ, i64_w, i32_w]
                      rfl
                     refine pure_ (i := 11) (N := some 119) (v := ?_) (a' := ?_) #[true, true, true, true, true, true, true, true, true, true, true, true, false, false, false, false, false, false, false, false] rfl rfl (any_of HT_.out (by kernel_rfl)) (fun _ _ _ h => h) (Or.inl ⟨by rfl, ?_⟩) ?_ ?_
                     rotate_left
                     ·intro w'
                      go_simp
                      with_reducible rfl
                     rotate_left
                     ·simp only [Act.put, List.setIfInBounds_toArray, List.set_cons_zero, List.set_cons_succ, i64_w, i32_w]
                      rfl
                     refine pure_ (i := 12) (N := some 120) (v := ?_) (a' := ?_) #[true, true, true, true, true, true, true, true, true, true, true, true, true, false, false, false, false, false, false, false] rfl rfl (any_of HT_.out (by kernel_rfl)) (fun _ _ _ h => h) (Or.inl ⟨by rfl, ?_⟩) ?_ ?_
                     rotate_left
                     ·intro w'
                      go_simp
                      with_reducible rfl
                     rotate_left
                     ·simp only [Act.put, List.setIfInBounds_toArray, List.set_cons_zero, List.set_cons_succ, i64_w, i32_w]
                      rfl
                     refine pure_ (i := 13) (N := some 121) (v := undef) (a' := ?_) #[true, true, true, true, true, true, true, true, true, true, true, true, true, true, false, false, false, false, false, false] rfl rfl (any_of HT_.out (by kernel_rfl)) (fun _ _ _ h => h) (Or.inr ⟨by rfl, rfl⟩) ?_ ?_
                     rotate_left
                     ·simp only [Act.put, List.setIfInBounds_toArray, List.set_cons_zero, List.set_cons_succ, i64_w, i32_w]
                      rfl
                     refine pure_ (i := 14) (N := some 122) (v := undef) (a' := ?_) #[true, true, true, true, true, true, true, true, true, true, true, true, true, true, true, false, false, false, false, false] rfl rfl (any_of HT_.out (by kernel_rfl)) (fun _ _ _ h => h) (Or.inr ⟨by rfl, rfl⟩) ?_ ?_
                     rotate_left
                     ·simp only [Act.put, List.setIfInBounds_toArray, List.set_cons_zero, List.set_cons_succ, i64_w, i32_w]
                      rfl
                     refine pure_ (i := 15) (N := some 123) (v := undef) (a' := ?_) #[true, true, true, true, true, true, true, true, true, true, true, true, true, true, true, true, false, false, false, false] rfl rfl (any_of HT_.out (by kernel_rfl)) (fun _ _ _ h => h) (Or.inr ⟨by rfl, rfl⟩) ?_ ?_
                     rotate_left
                     ·simp only [Act.put, List.setIfInBounds_toArray, List.set_cons_zero, List.set_cons_succ, i64_w, i32_w]
                      rfl
                     refine pure_ (i := 16) (N := some 124) (v := undef) (a' := ?_) #[true, true, true, true, true, true, true, true, true, true, true, true, true, true, true, true, true, false, false, false] rfl rfl (any_of HT_.out (by kernel_rfl)) (fun _ _ _ h => h) (Or.inr ⟨by rfl, rfl⟩) ?_ ?_
                     rotate_left
                     ·simp only [Act.put, List.setIfInBounds_toArray, List.set_cons_zero, List.set_cons_succ, i64_w, i32_w]
                      rfl
                     refine pure_ (i := 17) (N := some 125) (v := undef) (a' := ?_) #[true, true, true, true, true, true, true, true, true, true, true, true, true, true, true, true, true, true, false, false] rfl rfl (any_of HT_.out (by kernel_rfl)) (fun _ _ _ h => h) (Or.inr ⟨by rfl, rfl⟩) ?_ ?_
                     rotate_left
                     ·simp only [Act.put, List.setIfInBounds_toArray, List.set_cons_zero, List.set_cons_succ, i64_w, i32_w]
                      rfl
                     refine pure_ (i := 18) (N := some 126) (v := undef) (a' := ?_) #[true, true, true, true, true, true, true, true, true, true, true, true, true, true, true, true, true, true, true, false] rfl rfl (any_of HT_.out (by kernel_rfl)) (fun _ _ _ h => h) (Or.inr ⟨by rfl, rfl⟩) ?_ ?_
                     rotate_left
                     ·simp only [Act.put, List.setIfInBounds_toArray, List.set_cons_zero, List.set_cons_succ, i64_w, i32_w]
                      rfl
                     refine pure_ (i := 19) (N := some 127) (v := ?_) (a' := ?_) #[true, true, true, true, true, true, true, true, true, true, true, true, true, true, true, true, true, true, true, true] rfl rfl (any_of HT_.out (by kernel_rfl)) (fun _ _ _ h => h) (Or.inl ⟨by rfl, ?_⟩) ?_ ?_
                     rotate_left
                     ·intro w'
                      go_simp
                      with_reducible rfl
                     rotate_left
                     ·simp only [Act.put, List.setIfInBounds_toArray, List.set_cons_zero, List.set_cons_succ, i64_w, i32_w]
                      rfl
                     refine done_ (done_of HT_.out (by kernel_rfl)) ?_
                     try go_wp2
                     go_meet
                     case rel => exact ⟨_, (true), (by first | rfl | (simp; done) | (simp [*]; done)), H', ⟨by have := HJ4.out; have := HK2.out; have := HK3.out; have := HJ47.out; first | omega | exact Nat.le_refl _⟩, ⟨by (with_reducible repeat (first | apply Kd.R_alloc | apply Kd.R_drewN | apply Kd.R_drew)); exact HO_5.out⟩, ⟨by (with_reducible repeat (first | refine blk_drewN ?_ _ | refine blk_drew ?_ | refine blk_alloc ?_ _)); exact BK213.out⟩, ⟨by repeat (first | (with_reducible first | exact HB.out | apply below_alloc | apply pw_below_drewN | apply below_drew1 | refine below_set ?_ GE213.out) | exact HB.out)⟩⟩
                   ·replace c65 := Bool.eq_false_iff.mpr c65
                    subst c65
                    rw [if_neg (show ¬ (false = true) by decide)] at H
                    have H' := Aside0.mk H
                    clear H
                    try go_wp2
                    have n0_ : Aside0 (Kd.R k25 25 ((w63.setCell ⟨gb213, 0, none⟩ (.string t209)).setCell ⟨gb213, 1, none⟩ (.string t210)) w.heap.size (fun k_ => k_ ≠ gb213) (.slice Ao44 x5_2.length co44) x5_2) := ⟨by (with_reducible repeat (first | apply Kd.R_alloc | apply Kd.R_drewN | apply Kd.R_drew)); exact Kd.R_mono (Kd.R_far (p := ⟨gb213, 1, none⟩) (Kd.R_far (p := ⟨gb213, 0, none⟩) (Kd.R_mono HO_5.out (fun k_ hk => (⟨hk, hk.2⟩ : _ ∧ k_ ≠ gb213))) (fun _ hk => (by first | exact hk.2 | exact True.intro)) (.string t209)) (fun _ hk => (by first | exact hk.2 | exact True.intro)) (.string t210)) (fun _ hk => hk.1.2)⟩
                    have n1_ : Aside0 (((w63.setCell ⟨gb213, 0, none⟩ (.string t209)).setCell ⟨gb213, 1, none⟩ (.string t210)).heap[gb213]? = some (.cells #[.string t209, .string t210] 25 (0, 0))) := ⟨by (with_reducible repeat (first | refine blk_drewN ?_ _ | refine blk_drew ?_ | refine blk_alloc ?_ _)); refine blk_put (cs := #[.string t209, .string (⟨#[]⟩ : ByteArray)]) ?_ 1 _ rfl; (with_reducible repeat (first | refine blk_drewN ?_ _ | refine blk_drew ?_ | refine blk_alloc ?_ _)); refine blk_put (cs := #[.string (⟨#[]⟩ : ByteArray), .string (⟨#[]⟩ : ByteArray)]) ?_ 0 _ rfl; (with_reducible repeat (first | refine blk_drewN ?_ _ | refine blk_drew ?_ | refine blk_alloc ?_ _)); exact BK213.out⟩
                    have n2_ : Aside0 (Below w.heap.size w ((w63.setCell ⟨gb213, 0, none⟩ (.string t209)).setCell ⟨gb213, 1, none⟩ (.string t210))) := ⟨by repeat (first | (with_reducible first | exact HB.out | apply below_alloc | apply pw_below_drewN | apply below_drew1 | refine below_set ?_ GE213.out) | exact HB.out)⟩
                    (try clear HO_5)
                    (try clear BK213)
                    (try clear HB)
                    generalize ((w63.setCell ⟨gb213, 0, none⟩ (.string t209)).setCell ⟨gb213, 1, none⟩ (.string t210)) = w76 at n0_ n1_ n2_ ⊢
                    have HO_5 := n0_
                    have BK213 := n1_
                    have HB := n2_
                    clear n0_ n1_ n2_
                    have n0_ := Aside0.mk (Kd.R_drew HO_5.out)
                    have n1_ := Aside0.mk (blk_drew BK213.out)
                    have n2_ := Aside0.mk (below_drew1 HB.out)
                    clear HO_5
                    clear BK213
                    clear HB
                    have HO_5 := n0_
                    have BK213 := n1_
                    have HB := n2_
                    clear n0_ n1_ n2_
                    refine start_ (n := 20) (S := fun w' => True) (ds := []) #[false, false, false, false, false, false, false, false, false, false, false, false, false, false, false, false, false, false, false, false] (by kernel_rfl) rfl rfl trivial (fun hHeld => ?_); refine with_tabW parallaxlaw9_FieldPuts.tab20 parallaxlaw9_FieldPuts.bits20 (fun HT_ HW_ => ?_)
                    generalize w76.drew = w77 at HO_5 BK213 HB hHeld ⊢
                    refine pure_ (i := 0) (N := some 108) (v := ?_) (a' := ?_) #[true, false, false, false, false, false, false, false, false, false, false, false, false, false, false, false, false, false, false, false] rfl rfl (any_of HT_.out (by kernel_rfl)) (fun _ _ _ h => h) (Or.inl ⟨by rfl, ?_⟩) ?_ ?_
                    rotate_left
                    ·intro w'
                     go_simp
                     with_reducible rfl
                    rotate_left
                    ·simp only [Act.put, List.setIfInBounds_toArray, List.set_cons_zero, List.set_cons_succ, i64_w, i32_w]
                     rfl
                    refine pure_ (i := 1) (N := some 109) (v := ?_) (a' := ?_) #[true, true, false, false, false, false, false, false, false, false, false, false, false, false, false, false, false, false, false, false] rfl rfl (any_of HT_.out (by kernel_rfl)) (fun _ _ _ h => h) (Or.inl ⟨by rfl, ?_⟩) ?_ ?_
                    rotate_left
                    ·intro w'
                     go_simp
                     with_reducible rfl
                    rotate_left
                    ·simp only [Act.put, List.setIfInBounds_toArray, List.set_cons_zero, List.set_cons_succ, i64_w, i32_w]
                     rfl
                    refine pure_ (i := 2) (N := some 110) (v := ?_) (a' := ?_) #[true, true, true, false, false, false, false, false, false, false, false, false, false, false, false, false, false, false, false, false] rfl rfl (any_of HT_.out (by kernel_rfl)) (fun _ _ _ h => h) (Or.inl ⟨by rfl, ?_⟩) ?_ ?_
                    rotate_left
                    ·intro w'
                     go_simp
                     with_reducible rfl
                    rotate_left
                    ·simp only [Act.put, List.setIfInBounds_toArray, List.set_cons_zero, List.set_cons_succ, i64_w, i32_w]
                     rfl
                    refine pure_ (i := 3) (N := some 111) (v := undef) (a' := ?_) #[true, true, true, true, false, false, false, false, false, false, false, false, false, false, false, false, false, false, false, false] rfl rfl (any_of HT_.out (by kernel_rfl)) (fun _ _ _ h => h) (Or.inr ⟨by rfl, rfl⟩) ?_ ?_
                    rotate_left
                    ·simp only [Act.put, List.setIfInBounds_toArray, List.set_cons_zero, List.set_cons_succ, i64_w, i32_w]
                     rfl
                    refine pure_ (i := 4) (N := some 112) (v := undef) (a' := ?_) #[true, true, true, true, true, false, false, false, false, false, false, false, false, false, false, false, false, false, false, false] rfl rfl (any_of HT_.out (by kernel_rfl)) (fun _ _ _ h => h) (Or.inr ⟨by rfl, rfl⟩) ?_ ?_
                    rotate_left
                    ·simp only [Act.put, List.setIfInBounds_toArray, List.set_cons_zero, List.set_cons_succ, i64_w, i32_w]
                     rfl
                    refine pure_ (i := 5) (N := some 113) (v := ?_) (a' := ?_) #[true, true, true, true, true, true, false, false, false, false, false, false, false, false, false, false, false, false, false, false] rfl rfl (any_of HT_.out (by kernel_rfl)) (fun _ _ _ h => h) (Or.inl ⟨by rfl, ?_⟩) ?_ ?_
                    rotate_left
                    ·intro w'
                     go_simp
                     with_reducible rfl
                    rotate_left
                    ·simp only [Act.put, List.setIfInBounds_toArray, List.set_cons_zero, List.set_cons_succ, i64_w, i32_w]
                     rfl
                    refine pure_ (i := 6) (N := some 114) (v := ?_) (a' := ?_) #[true, true, true, true, true, true, true, false, false, false, false, false, false, false, false, false, false, false, false, false] rfl rfl (any_of HT_.out (by kernel_rfl)) (fun _ _ _ h => h) (Or.inl ⟨by rfl, ?_⟩) ?_ ?_
                    rotate_left
                    ·intro w'
                     go_simp
                     with_reducible rfl
                    rotate_left
                    ·simp only [Act.put, List.setIfInBounds_toArray, List.set_cons_zero, List.set_cons_succ, i64_w, i32_w]
                     rfl
                    refine pure_ (i := 7) (N := some 115) (v := undef) (a' := ?_) #[true, true, true, true, true, true, true, true, false, false, false, false, false, false, false, false, false, false, false, false] rfl rfl (any_of HT_.out (by kernel_rfl)) (fun _ _ _ h => h) (Or.inr ⟨by rfl, rfl⟩) ?_ ?_
                    rotate_left
                    ·simp only [Act.put, List.setIfInBounds_toArray, List.set_cons_zero, List.set_cons_succ, i64_w, i32_w]
                     rfl
                    refine pure_ (i := 8) (N := some 116) (v := undef) (a' := ?_) #[true, true, true, true, true, true, true, true, true, false, false, false, false, false, false, false, false, false, false, false] rfl rfl (any_of HT_.out (by kernel_rfl)) (fun _ _ _ h => h) (Or.inr ⟨by rfl, rfl⟩) ?_ ?_
                    rotate_left
                    ·simp only [Act.put, List.setIfInBounds_toArray, List.set_cons_zero, List.set_cons_succ, i64_w, i32_w]
                     rfl
                    refine pure_ (i := 9) (N := some 117) (v := undef) (a' := ?_) #[true, true, true, true, true, true, true, true, true, true, false, false, false, false, false, false, false, false, false, false] rfl rfl (any_of HT_.out (by kernel_rfl)) (fun _ _ _ h => h) (Or.inr ⟨by rfl, rfl⟩) ?_ ?_
                    rotate_left
                    ·simp only [Act.put, List.setIfInBounds_toArray, List.set_cons_zero, List.set_cons_succ, i64_w, i32_w]
                     rfl
                    refine pure_ (i := 10) (N := some 118) (v := undef) (a' := ?_) #[true, true, true, true, true, true, true, true, true, true, true, false, false, false, false, false, false, false, false, false] rfl rfl (any_of HT_.out (by kernel_rfl)) (fun _ _ _ h => h) (Or.inr ⟨by rfl, rfl⟩) ?_ ?_
                    rotate_left
                    ·simp only [Act.put, List.setIfInBounds_toArray, List.set_cons_zero, List.set_cons_succ, i64_w, i32_w]
                     rfl
                    refine pure_ (i := 11) (N := some 119) (v := ?_) (a' := ?_) #[true, true, true, true, true, true, true, true, true, true, true, true, false, false, false, false, false, false, false, false] rfl rfl (any_of HT_.out (by kernel_rfl)) (fun _ _ _ h => h) (Or.inl ⟨by rfl, ?_⟩) ?_ ?_
                    rotate_left
                    ·intro w'
                     go_simp
                     with_reducible rfl
                    rotate_left
                    ·simp only [Act.put, List.setIfInBounds_toArray, List.set_cons_zero, List.set_cons_succ, i64_w, i32_w]
                     rfl
                    refine pure_ (i := 12) (N := some 120) (v := ?_) (a' := ?_) #[true, true, true, true, true, true, true, true, true, true, true, true, true, false, false, false, false, false, false, false] rfl rfl (any_of HT_.out (by kernel_rfl)) (fun _ _ _ h => h) (Or.inl ⟨by rfl, ?_⟩) ?_ ?_
                    rotate_left
                    ·intro w'
                     go_simp
                     with_reducible rfl
                    rotate_left
                    ·simp only [Act.put, List.setIfInBounds_toArray, List.set_cons_zero, List.set_cons_succ, i64_w, i32_w]
                     rfl
                    refine pure_ (i := 13) (N := some 121) (v := undef) (a' := ?_) #[true, true, true, true, true, true, true, true, true, true, true, true, true, true, false, false, false, false, false, false] rfl rfl (any_of HT_.out (by kernel_rfl)) (fun _ _ _ h => h) (Or.inr ⟨by rfl, rfl⟩) ?_ ?_
                    rotate_left
                    ·simp only [Act.put, List.setIfInBounds_toArray, List.set_cons_zero, List.set_cons_succ, i64_w, i32_w]
                     rfl
                    refine pure_ (i := 14) (N := some 122) (v := undef) (a' := ?_) #[true, true, true, true, true, true, true, true, true, true, true, true, true, true, true, false, false, false, false, false] rfl rfl (any_of HT_.out (by kernel_rfl)) (fun _ _ _ h => h) (Or.inr ⟨by rfl, rfl⟩) ?_ ?_
                    rotate_left
                    ·simp only [Act.put, List.setIfInBounds_toArray, List.set_cons_zero, List.set_cons_succ, i64_w, i32_w]
                     rfl
                    refine pure_ (i := 15) (N := some 123) (v := undef) (a' := ?_) #[true, true, true, true, true, true, true, true, true, true, true, true, true, true, true, true, false, false, false, false] rfl rfl (any_of HT_.out (by kernel_rfl)) (fun _ _ _ h => h) (Or.inr ⟨by rfl, rfl⟩) ?_ ?_
                    rotate_left
                    ·simp only [Act.put, List.setIfInBounds_toArray, List.set_cons_zero, List.set_cons_succ, i64_w, i32_w]
                     rfl
                    refine pure_ (i := 16) (N := some 124) (v := undef) (a' := ?_) #[true, true, true, true, true, true, true, true, true, true, true, true, true, true, true, true, true, false, false, false] rfl rfl (any_of HT_.out (by kernel_rfl)) (fun _ _ _ h => h) (Or.inr ⟨by rfl, rfl⟩) ?_ ?_
                    rotate_left
                    ·simp only [Act.put, List.setIfInBounds_toArray, List.set_cons_zero, List.set_cons_succ, i64_w, i32_w]
                     rfl
                    refine pure_ (i := 17) (N := some 125) (v := undef) (a' := ?_) #[true, true, true, true, true, true, true, true, true, true, true, true, true, true, true, true, true, true, false, false] rfl rfl (any_of HT_.out (by kernel_rfl)) (fun _ _ _ h => h) (Or.inr ⟨by rfl, rfl⟩) ?_ ?_
                    rotate_left
                    ·simp only [Act.put, List.setIfInBounds_toArray, List.set_cons_zero, List.set_cons_succ, i64_w, i32_w]
                     rfl
                    refine pure_ (i := 18) (N := some 126) (v := undef) (a' := ?_) #[true, true, true, true, true, true, true, true, true, true, true, true, true, true, true, true, true, true, true, false] rfl rfl (any_of HT_.out (by kernel_rfl)) (fun _ _ _ h => h) (Or.inr ⟨by rfl, rfl⟩) ?_ ?_
                    rotate_left
                    ·simp only [Act.put, List.setIfInBounds_toArray, List.set_cons_zero, List.set_cons_succ, i64_w, i32_w]
                     rfl
                    refine pure_ (i := 19) (N := some 127) (v := ?_) (a' := ?_) #[true, true, true, true, true, true, true, true, true, true, true, true, true, true, true, true, true, true, true, true] rfl rfl (any_of HT_.out (by kernel_rfl)) (fun _ _ _ h => h) (Or.inl ⟨by rfl, ?_⟩) ?_ ?_
                    rotate_left
                    ·intro w'
                     go_simp
                     with_reducible rfl
                    rotate_left
                    ·simp only [Act.put, List.setIfInBounds_toArray, List.set_cons_zero, List.set_cons_succ, i64_w, i32_w]
                     rfl
                    refine done_ (done_of HT_.out (by kernel_rfl)) ?_
                    try go_wp2
                    go_meet
                    case rel => exact ⟨_, (true), (by first | rfl | (simp; done) | (simp [*]; done)), H', ⟨by have := HJ4.out; have := HK2.out; have := HK3.out; have := HJ47.out; first | omega | exact Nat.le_refl _⟩, ⟨by (with_reducible repeat (first | apply Kd.R_alloc | apply Kd.R_drewN | apply Kd.R_drew)); exact HO_5.out⟩, ⟨by (with_reducible repeat (first | refine blk_drewN ?_ _ | refine blk_drew ?_ | refine blk_alloc ?_ _)); exact BK213.out⟩, ⟨by repeat (first | (with_reducible first | exact HB.out | apply below_alloc | apply pw_below_drewN | apply below_drew1 | refine below_set ?_ GE213.out) | exact HB.out)⟩⟩
                  case rest =>
                   clear HC61
                   try clear p2
                   try clear q2
                   try clear hx2
                   try clear c6
                   try clear c7
                   try clear p21
                   try clear q21
                   try clear hx21
                   try clear c65
                   try clear c66
                   try clear c66b0
                   try clear c66b1
                   try clear c67
                   try clear c67b0
                   try clear c70
                   try clear c70b0
                   try clear c71
                   try clear c71b0
                   try clear hx214_0
                   try clear hx214_1
                   try clear p214
                   try clear q214
                   obtain ⟨kq, x127_60, rfl, HA, HJ60, HO_5, BK213, HB⟩ := hcut
                   cases kq with
                   | zero => exact absurd HA.out (by simp [parallaxlaw9_FieldPuts.j6])
                   | succ kj60 =>
                    have H := HA.out
                    clear HA
                    simp only [parallaxlaw9_FieldPuts.j6] at H
                    by_cases c78 : x127_60 = true
                    ·subst c78
                     rw [if_pos rfl] at H
                     exact absurd ((Option.some.inj H).trans HT.out) (by decide)
                    ·replace c78 := Bool.eq_false_iff.mpr c78
                     subst c78
                     rw [if_neg (show ¬ (false = true) by decide)] at H
                     have H' := Aside0.mk H
                     clear H
                     go_wp2
                     go_meet
                     case rel => exact ⟨_, (wrap64 (x9_3 + 1)), (wrap64 (x11_3 + 1)), (by first | rfl | (simp; done) | (simp [*]; done)), (by first | rfl | (simp; done) | (simp [*]; done)), H', ⟨by have := HJ4.out; have := HK2.out; have := HK3.out; have := HJ47.out; have := HJ60.out; first | omega | exact Nat.le_refl _⟩, ⟨by (with_reducible repeat (first | apply Kd.R_alloc | apply Kd.R_drewN | apply Kd.R_drew)); exact Kd.R_mono HO_5.out (fun _ hk => trivial)⟩, ⟨by repeat (first | (with_reducible first | exact HB.out | apply below_alloc | apply pw_below_drewN | apply below_drew1 | refine below_set ?_ GE213.out) | exact HB.out)⟩⟩
                 ·rw [if_neg c59] at H
                  exact absurd H (by simp)
                ·rw [if_neg c58] at H
                 exact absurd H (by simp)
               ·rw [if_neg c57] at H
                exact absurd H (by simp)
           case rest =>
            clear HC47
            try clear p2
            try clear q2
            try clear hx2
            try clear c5
            try clear c6
            try clear p6
            try clear c7
            try clear p21
            try clear q21
            try clear hx21
            try clear c57
            try clear c58
            try clear c59
            try clear p64
            try clear c65
            try clear c66
            try clear c66b0
            try clear c66b1
            try clear c67
            try clear c67b0
            try clear c70
            try clear c70b0
            try clear c71
            try clear c71b0
            try clear c78
            try clear hx214_0
            try clear hx214_1
            try clear p2
            try clear p21
            try clear p214
            try clear q2
            try clear q21
            try clear q214
            obtain ⟨kq, x9_46, x10_46, rfl, rfl, HA, HJ46, HO_5, HB⟩ := hcut
            cases kq with
            | zero => exact absurd HA.out (by simp [parallaxlaw9_FieldPuts.j7])
            | succ kj46 =>
             have H := HA.out
             clear HA
             simp only [parallaxlaw9_FieldPuts.j7] at H
             have H' := Aside0.mk H
             clear H
             go_wp2
             go_roundg kj46
             case measure => have := HJ4.out; have := HK2.out; have := HK3.out; have := HJ46.out; omega
             case rel => exact ⟨(x9_46), (x10_46), (wrap64 (x11_3 + 1)), (by first | rfl | (simp; done) | (simp [*]; done)), (by first | rfl | (simp; done) | (simp [*]; done)), (by first | rfl | (simp; done) | (simp [*]; done)), H', ⟨by have := HJ4.out; have := HK2.out; have := HK3.out; have := HJ46.out; omega⟩, ⟨by (with_reducible repeat (first | apply Kd.R_alloc | apply Kd.R_drewN | apply Kd.R_drew)); exact HO_5.out⟩, ⟨by repeat (first | (with_reducible first | exact HB.out | apply below_alloc | apply pw_below_drewN | apply below_drew1) | exact HB.out)⟩⟩
          ·rw [if_neg c46] at H
           have c46b0 : decide (x11_3 < (t208.size : Int)) = false := decide_eq_false c46
           clear c46
           by_cases c79 : x9_3 = (x5_2.length : Int)
           ·rw [if_pos c79] at H
            have c79b0 : (x9_3 == (x5_2.length : Int)) = true := beq_iff_eq.mpr c79
            have c79b1 : (x9_3 != (x5_2.length : Int)) = false := bne_eq_false_iff_eq.mpr c79
            clear c79
            obtain rfl := Option.some.inj H
            go_wp2
            go_ret
            exact ⟨by first | rfl | (simp [errW_none, errW_some] <;> rfl) | (simp [*, errW_none, errW_some] <;> rfl), by repeat (first | (with_reducible first | exact HB.out | apply below_alloc | apply pw_below_drewN | apply below_drew1) | exact HB.out)⟩
           ·rw [if_neg c79] at H
            have c79b0 : (x9_3 == (x5_2.length : Int)) = false := beq_eq_false_iff_ne.mpr c79
            have c79b1 : (x9_3 != (x5_2.length : Int)) = true := bne_iff_ne.mpr c79
            exact absurd ((Option.some.inj H).trans HT.out) (by decide)
 ·replace c4 := Bool.eq_false_iff.mpr c4
  subst c4
  rw [if_neg (show ¬ (false = true) by decide)] at H
  exact absurd ((Option.some.inj H).trans HT.out) (by decide)

/-- THE ONE PURE STATEMENT of parallaxlaw9_FieldPuts: yours. -/
def parallaxlaw9_FieldPuts.Pure : Prop := ∀ (l0 : List (S51)) (l1 : List ByteArray), (l0.length ≤ 9223372036854775807 ∧ ∀ x0_ ∈ l0, ((Lit.int .u8 x0_.f0).wf = true ∧ (Lit.int .u8 x0_.f1).wf = true)) → (l1.length ≤ 9223372036854775807 ∧ ∀ x0_ ∈ l1, x0_.size ≤ 140737488351232) → ∃ k, parallaxlaw9_FieldPuts.f k l0 l1 = some true

end Go.Proofs.YtijcibdpcolfpaaDoor.PFieldPuts
