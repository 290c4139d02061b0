-- Written by a program of this session (wip/tools/myprint.sh)
import Derived.Test.YtnnehbbfokoklaaPTargetTellsx0
import Derived.Test.YtnnehbbfokoklaaPTargetTellsx1
import Derived.Test.YtnnehbbfokoklaaPTargetTellsx3
import Derived.Test.YtnnehbbfokoklaaPTargetTellsx4
import Derived.Test.YtnnehbbfokoklaaPTargetTellsx5
import Derived.Test.YtnnehbbfokoklaaPTargetTellsx6
import Derived.Test.YtnnehbbfokoklaaPTargetTellsx7
import Derived.Test.YtnnehbbfokoklaaPTargetTellsx8
import Derived.Test.YtnnehbbfokoklaaPTargetTellsx9
import Derived.Test.YtnnehbbfokoklaaPTargetTellsx11
import Derived.Test.YtnnehbbfokoklaaPTargetTellsx12
namespace Go.Proofs.Ytnnehbbfokoklaa.PTargetTells
open Go.RowKit Go.Proofs.YtnnehbbfokoklaaW.PrintWords Go.Proofs.YtnnehbbfokoklaaW.PrintLast Go.Proofs.YtnnehbbfokoklaaW.PrintMore
attribute [local go_sem] max2_int min2_int max_two min_two max_three min_three max_four min_four   -- for this text's walks alone
set_option linter.unusedVariables false
set_option linter.unusedSimpArgs false

attribute [local go_sem high] eqA27
/-! ### parallaxlaw7_TargetTells: function 3 -/
mutual
def parallaxlaw7_TargetTells.j0 : Nat → ByteArray → List Int → ByteArray → Int → Bool → Option (Bool)
 | 0, _, _, _, _, _ => none
 | k + 1, x0, x1, x2, x3, x32 => if x32 = true then (some true) else ((parallaxlaw7_some.f k x1).bind fun t282 => ((parallaxlaw7_some.f k x1).bind fun t283 => (if 1 + t283.size ≤ 9223372036854775807 then ((parallaxlaw7_some.f k x1).bind fun t284 => (if 7 + t284.size ≤ 9223372036854775807 then ((parallaxlaw7_some.f k x1).bind fun t285 => (if 6 + t285.size ≤ 9223372036854775807 then ((some (([x0, t282, (⟨#[47]⟩ : ByteArray) ++ t283, (⟨#[104, 116, 116, 112, 58, 47, 47]⟩ : ByteArray) ++ t284, (⟨#[104, 46, 111, 114, 103, 58]⟩ : ByteArray) ++ t285] : List ByteArray) : List ByteArray)).bind fun y286 => (parallaxlaw7_TargetTells.l0 k x0 x2 x3 y286 (y286.length : Int) 0)) else (none))) else (none))) else (none))))
def parallaxlaw7_TargetTells.l0 : Nat → ByteArray → ByteArray → Int → List ByteArray → Int → Int → Option (Bool)
 | 0, _, _, _, _, _, _ => none
 | k + 1, x0, x2, x3, x45, x46, x47 => if x47 < x46 then (if 0 ≤ x47 then (if x47 < (x45.length : Int) then ((some (([x2, (⟨#[71, 69, 84]⟩ : ByteArray), (⟨#[67, 79, 78, 78, 69, 67, 84]⟩ : ByteArray), (⟨#[79, 80, 84, 73, 79, 78, 83]⟩ : ByteArray)] : List ByteArray) : List ByteArray)).bind fun y290 => (parallaxlaw7_TargetTells.l1 k x0 x2 x3 (rdOf ByteArray.empty x45 x47) x45 x46 x47 y290 (y290.length : Int) 0)) else (none)) else (none)) else ((target_Put.f k (wrap64 (Int.tmod x3 6)) x0 x2 x0 (decide (x3 > 100))).bind fun t317 => ((parallaxref6_Put.f k (wrap64 (Int.tmod x3 6)) x0 x2 x0 (decide (x3 > 100))).bind fun t318 => (some (t317.toList == t318.toList))))
def parallaxlaw7_TargetTells.l1 : Nat → ByteArray → ByteArray → Int → ByteArray → List ByteArray → Int → Int → List ByteArray → Int → Int → Option (Bool)
 | 0, _, _, _, _, _, _, _, _, _, _ => none
 | k + 1, x0, x2, x3, x10, x45, x46, x47, x52, x53, x54 => if x54 < x53 then (if 0 ≤ x54 then (if x54 < (x52.length : Int) then ((target_Parse.f k (rdOf ByteArray.empty x52 x54) x10).bind fun bt294 => ((parallaxref6_Target.f k (rdOf ByteArray.empty x52 x54) x10).bind fun bt301 => (if (!(bt294.1 == bt301.1) || (!(bt294.2.1.toList == bt301.2.1.toList) || (!(bt294.2.2.1.toList == bt301.2.2.1.toList) || (!(bt294.2.2.2.1.toList == bt301.2.2.2.1.toList) || (!(bt294.2.2.2.2.1 == bt301.2.2.2.2.1)))))) = true then (parallaxlaw7_TargetTells.j3 k x0 x2 x3 x10 x45 x46 x47 x52 x53 x54 true) else (if bt294.2.2.2.2.2 = bt301.2.2.2.2.2 then ((target_Put.f k bt294.1 bt294.2.1 bt294.2.2.1 bt294.2.2.2.1 bt294.2.2.2.2.1).bind fun t308 => ((parallaxref6_Put.f k bt301.1 bt301.2.1 bt301.2.2.1 bt301.2.2.2.1 bt301.2.2.2.2.1).bind fun t309 => (parallaxlaw7_TargetTells.j3 k x0 x2 x3 x10 x45 x46 x47 x52 x53 x54 (t308.toList != t309.toList)))) else (parallaxlaw7_TargetTells.j3 k x0 x2 x3 x10 x45 x46 x47 x52 x53 x54 true))))) else (none)) else (none)) else ((target_Host.f k x10).bind fun t310 => ((parallaxref6_Host.f k x10).bind fun t311 => (if (t310 != t311) = true then (parallaxlaw7_TargetTells.j4 k x0 x2 x3 x45 x46 x47 true) else ((target_Path.f k x10).bind fun t312 => ((parallaxref6_Path.f k x10).bind fun t313 => (if (t312 != t313) = true then (parallaxlaw7_TargetTells.j4 k x0 x2 x3 x45 x46 x47 true) else ((target_Query.f k x10).bind fun t314 => ((parallaxref6_Query.f k x10).bind fun t315 => (parallaxlaw7_TargetTells.j4 k x0 x2 x3 x45 x46 x47 (t314 != t315))))))))))
def parallaxlaw7_TargetTells.j3 : Nat → ByteArray → ByteArray → Int → ByteArray → List ByteArray → Int → Int → List ByteArray → Int → Int → Bool → Option (Bool)
 | 0, _, _, _, _, _, _, _, _, _, _, _ => none
 | k + 1, x0, x2, x3, x10, x45, x46, x47, x52, x53, x54, x84 => if x84 = true then (some false) else (parallaxlaw7_TargetTells.l1 k x0 x2 x3 x10 x45 x46 x47 x52 x53 (wrap64 (x54 + 1)))
def parallaxlaw7_TargetTells.j4 : Nat → ByteArray → ByteArray → Int → List ByteArray → Int → Int → Bool → Option (Bool)
 | 0, _, _, _, _, _, _, _ => none
 | k + 1, x0, x2, x3, x45, x46, x47, x104 => if x104 = true then (some false) else (parallaxlaw7_TargetTells.l0 k x0 x2 x3 x45 x46 (wrap64 (x47 + 1)))
end
def parallaxlaw7_TargetTells.f (k : Nat) (a0 : ByteArray) (l1 : List Int) (a2 : ByteArray) (a3 : Int) : Option (Bool) := (parallaxlaw7_known.f k).bind fun t281 => (if t281 = true then (if (a0.size : Int) > 80 then (parallaxlaw7_TargetTells.j0 k a0 l1 a2 a3 true) else (if (l1.length : Int) > 10 then (parallaxlaw7_TargetTells.j0 k a0 l1 a2 a3 true) else (parallaxlaw7_TargetTells.j0 k a0 l1 a2 a3 (decide ((a2.size : Int) > 20))))) else (some false))
theorem parallaxlaw7_TargetTells.mono_l : ∀ k, (∀ y0 y1 y2 y3 y4, LeO (parallaxlaw7_TargetTells.j0 k y0 y1 y2 y3 y4) (parallaxlaw7_TargetTells.j0 (k + 1) y0 y1 y2 y3 y4)) ∧ (∀ y0 y1 y2 y3 y4 y5, LeO (parallaxlaw7_TargetTells.l0 k y0 y1 y2 y3 y4 y5) (parallaxlaw7_TargetTells.l0 (k + 1) y0 y1 y2 y3 y4 y5)) ∧ (∀ y0 y1 y2 y3 y4 y5 y6 y7 y8 y9, LeO (parallaxlaw7_TargetTells.l1 k y0 y1 y2 y3 y4 y5 y6 y7 y8 y9) (parallaxlaw7_TargetTells.l1 (k + 1) y0 y1 y2 y3 y4 y5 y6 y7 y8 y9)) ∧ (∀ y0 y1 y2 y3 y4 y5 y6 y7 y8 y9 y10, LeO (parallaxlaw7_TargetTells.j3 k y0 y1 y2 y3 y4 y5 y6 y7 y8 y9 y10) (parallaxlaw7_TargetTells.j3 (k + 1) y0 y1 y2 y3 y4 y5 y6 y7 y8 y9 y10)) ∧ (∀ y0 y1 y2 y3 y4 y5 y6, LeO (parallaxlaw7_TargetTells.j4 k y0 y1 y2 y3 y4 y5 y6) (parallaxlaw7_TargetTells.j4 (k + 1) y0 y1 y2 y3 y4 y5 y6))
 | 0 => ⟨fun _ _ _ _ _ r h => by simp [parallaxlaw7_TargetTells.j0] at h, fun _ _ _ _ _ _ r h => by simp [parallaxlaw7_TargetTells.l0] at h, fun _ _ _ _ _ _ _ _ _ _ r h => by simp [parallaxlaw7_TargetTells.l1] at h, fun _ _ _ _ _ _ _ _ _ _ _ r h => by simp [parallaxlaw7_TargetTells.j3] at h, fun _ _ _ _ _ _ _ r h => by simp [parallaxlaw7_TargetTells.j4] at h⟩
 | k + 1 => by
  obtain ⟨ih0, ih1, ih2, ih3, ih4⟩ := parallaxlaw7_TargetTells.mono_l k
  refine ⟨?_, ?_, ?_, ?_, ?_⟩
  ·intro y0 y1 y2 y3 y4
   unfold parallaxlaw7_TargetTells.j0
   repeat' first
   | (with_reducible exact ih0 _ _ _ _ _)
   | (with_reducible exact ih1 _ _ _ _ _ _)
   | (with_reducible exact ih2 _ _ _ _ _ _ _ _ _ _)
   | (with_reducible exact ih3 _ _ _ _ _ _ _ _ _ _ _)
   | (with_reducible exact ih4 _ _ _ _ _ _ _)
   | (with_reducible exact parallaxlaw7_known.mono _)
   | (with_reducible exact parallaxlaw7_some.mono _ _)
   | (with_reducible exact parallaxref6_Host.mono _ _)
   | (with_reducible exact parallaxref6_Path.mono _ _)
   | (with_reducible exact parallaxref6_Put.mono _ _ _ _ _ _)
   | (with_reducible exact parallaxref6_Query.mono _ _)
   | (with_reducible exact parallaxref6_Target.mono _ _ _)
   | (with_reducible exact target_Host.mono _ _)
   | (with_reducible exact target_Parse.mono _ _ _)
   | (with_reducible exact target_Path.mono _ _)
   | (with_reducible exact target_Put.mono _ _ _ _ _ _)
   | (with_reducible exact target_Query.mono _ _)
   | (with_reducible exact LeO.refl _)
   | (with_reducible exact LeO.none _)
   | (with_reducible refine LeO.ite ?_ ?_)
   | (with_reducible refine LeO.bind ?_ (fun _ => ?_))
   | exact ih0 _ _ _ _ _
   | exact ih1 _ _ _ _ _ _
   | exact ih2 _ _ _ _ _ _ _ _ _ _
   | exact ih3 _ _ _ _ _ _ _ _ _ _ _
   | exact ih4 _ _ _ _ _ _ _
   | exact parallaxlaw7_known.mono _
   | exact parallaxlaw7_some.mono _ _
   | exact parallaxref6_Host.mono _ _
   | exact parallaxref6_Path.mono _ _
   | exact parallaxref6_Put.mono _ _ _ _ _ _
   | exact parallaxref6_Query.mono _ _
   | exact parallaxref6_Target.mono _ _ _
   | exact target_Host.mono _ _
   | exact target_Parse.mono _ _ _
   | exact target_Path.mono _ _
   | exact target_Put.mono _ _ _ _ _ _
   | exact target_Query.mono _ _
   | exact LeO.none _
   | refine LeO.ite ?_ ?_
   | refine LeO.bind ?_ (fun _ => ?_)
  ·intro y0 y1 y2 y3 y4 y5
   unfold parallaxlaw7_TargetTells.l0
   repeat' first
   | (with_reducible exact ih0 _ _ _ _ _)
   | (with_reducible exact ih1 _ _ _ _ _ _)
   | (with_reducible exact ih2 _ _ _ _ _ _ _ _ _ _)
   | (with_reducible exact ih3 _ _ _ _ _ _ _ _ _ _ _)
   | (with_reducible exact ih4 _ _ _ _ _ _ _)
   | (with_reducible exact parallaxlaw7_known.mono _)
   | (with_reducible exact parallaxlaw7_some.mono _ _)
   | (with_reducible exact parallaxref6_Host.mono _ _)
   | (with_reducible exact parallaxref6_Path.mono _ _)
   | (with_reducible exact parallaxref6_Put.mono _ _ _ _ _ _)
   | (with_reducible exact parallaxref6_Query.mono _ _)
   | (with_reducible exact parallaxref6_Target.mono _ _ _)
   | (with_reducible exact target_Host.mono _ _)
   | (with_reducible exact target_Parse.mono _ _ _)
   | (with_reducible exact target_Path.mono _ _)
   | (with_reducible exact target_Put.mono _ _ _ _ _ _)
   | (with_reducible exact target_Query.mono _ _)
   | (with_reducible exact LeO.refl _)
   | (with_reducible exact LeO.none _)
   | (with_reducible refine LeO.ite ?_ ?_)
   | (with_reducible refine LeO.bind ?_ (fun _ => ?_))
   | exact ih0 _ _ _ _ _
   | exact ih1 _ _ _ _ _ _
   | exact ih2 _ _ _ _ _ _ _ _ _ _
   | exact ih3 _ _ _ _ _ _ _ _ _ _ _
   | exact ih4 _ _ _ _ _ _ _
   | exact parallaxlaw7_known.mono _
   | exact parallaxlaw7_some.mono _ _
   | exact parallaxref6_Host.mono _ _
   | exact parallaxref6_Path.mono _ _
   | exact parallaxref6_Put.mono _ _ _ _ _ _
   | exact parallaxref6_Query.mono _ _
   | exact parallaxref6_Target.mono _ _ _
   | exact target_Host.mono _ _
   | exact target_Parse.mono _ _ _
   | exact target_Path.mono _ _
   | exact target_Put.mono _ _ _ _ _ _
   | exact target_Query.mono _ _
   | exact LeO.none _
   | refine LeO.ite ?_ ?_
   | refine LeO.bind ?_ (fun _ => ?_)
  ·intro y0 y1 y2 y3 y4 y5 y6 y7 y8 y9
   unfold parallaxlaw7_TargetTells.l1
   repeat' first
   | (with_reducible exact ih0 _ _ _ _ _)
   | (with_reducible exact ih1 _ _ _ _ _ _)
   | (with_reducible exact ih2 _ _ _ _ _ _ _ _ _ _)
   | (with_reducible exact ih3 _ _ _ _ _ _ _ _ _ _ _)
   | (with_reducible exact ih4 _ _ _ _ _ _ _)
   | (with_reducible exact parallaxlaw7_known.mono _)
   | (with_reducible exact parallaxlaw7_some.mono _ _)
   | (with_reducible exact parallaxref6_Host.mono _ _)
   | (with_reducible exact parallaxref6_Path.mono _ _)
   | (with_reducible exact parallaxref6_Put.mono _ _ _ _ _ _)
   | (with_reducible exact parallaxref6_Query.mono _ _)
   | (with_reducible exact parallaxref6_Target.mono _ _ _)
   | (with_reducible exact target_Host.mono _ _)
   | (with_reducible exact target_Parse.mono _ _ _)
   | (with_reducible exact target_Path.mono _ _)
   | (with_reducible exact target_Put.mono _ _ _ _ _ _)
   | (with_reducible exact target_Query.mono _ _)
   | (with_reducible exact LeO.refl _)
   | (with_reducible exact LeO.none _)
   | (with_reducible refine LeO.ite ?_ ?_)
   | (with_reducible refine LeO.bind ?_ (fun _ => ?_))
   | exact ih0 _ _ _ _ _
   | exact ih1 _ _ _ _ _ _
   | exact ih2 _ _ _ _ _ _ _ _ _ _
   | exact ih3 _ _ _ _ _ _ _ _ _ _ _
   | exact ih4 _ _ _ _ _ _ _
   | exact parallaxlaw7_known.mono _
   | exact parallaxlaw7_some.mono _ _
   | exact parallaxref6_Host.mono _ _
   | exact parallaxref6_Path.mono _ _
   | exact parallaxref6_Put.mono _ _ _ _ _ _
   | exact parallaxref6_Query.mono _ _
   | exact parallaxref6_Target.mono _ _ _
   | exact target_Host.mono _ _
   | exact target_Parse.mono _ _ _
   | exact target_Path.mono _ _
   | exact target_Put.mono _ _ _ _ _ _
   | exact target_Query.mono _ _
   | exact LeO.none _
   | refine LeO.ite ?_ ?_
   | refine LeO.bind ?_ (fun _ => ?_)
  ·intro y0 y1 y2 y3 y4 y5 y6 y7 y8 y9 y10
   unfold parallaxlaw7_TargetTells.j3
   repeat' first
   | (with_reducible exact ih0 _ _ _ _ _)
   | (with_reducible exact ih1 _ _ _ _ _ _)
   | (with_reducible exact ih2 _ _ _ _ _ _ _ _ _ _)
   | (with_reducible exact ih3 _ _ _ _ _ _ _ _ _ _ _)
   | (with_reducible exact ih4 _ _ _ _ _ _ _)
   | (with_reducible exact parallaxlaw7_known.mono _)
   | (with_reducible exact parallaxlaw7_some.mono _ _)
   | (with_reducible exact parallaxref6_Host.mono _ _)
   | (with_reducible exact parallaxref6_Path.mono _ _)
   | (with_reducible exact parallaxref6_Put.mono _ _ _ _ _ _)
   | (with_reducible exact parallaxref6_Query.mono _ _)
   | (with_reducible exact parallaxref6_Target.mono _ _ _)
   | (with_reducible exact target_Host.mono _ _)
   | (with_reducible exact target_Parse.mono _ _ _)
   | (with_reducible exact target_Path.mono _ _)
   | (with_reducible exact target_Put.mono _ _ _ _ _ _)
   | (with_reducible exact target_Query.mono _ _)
   | (with_reducible exact LeO.refl _)
   | (with_reducible exact LeO.none _)
   | (with_reducible refine LeO.ite ?_ ?_)
   | (with_reducible refine LeO.bind ?_ (fun _ => ?_))
   | exact ih0 _ _ _ _ _
   | exact ih1 _ _ _ _ _ _
   | exact ih2 _ _ _ _ _ _ _ _ _ _
   | exact ih3 _ _ _ _ _ _ _ _ _ _ _
   | exact ih4 _ _ _ _ _ _ _
   | exact parallaxlaw7_known.mono _
   | exact parallaxlaw7_some.mono _ _
   | exact parallaxref6_Host.mono _ _
   | exact parallaxref6_Path.mono _ _
   | exact parallaxref6_Put.mono _ _ _ _ _ _
   | exact parallaxref6_Query.mono _ _
   | exact parallaxref6_Target.mono _ _ _
   | exact target_Host.mono _ _
   | exact target_Parse.mono _ _ _
   | exact target_Path.mono _ _
   | exact target_Put.mono _ _ _ _ _ _
   | exact target_Query.mono _ _
   | exact LeO.none _
   | refine LeO.ite ?_ ?_
   | refine LeO.bind ?_ (fun _ => ?_)
  ·intro y0 y1 y2 y3 y4 y5 y6
   unfold parallaxlaw7_TargetTells.j4
   repeat' first
   | (with_reducible exact ih0 _ _ _ _ _)
   | (with_reducible exact ih1 _ _ _ _ _ _)
   | (with_reducible exact ih2 _ _ _ _ _ _ _ _ _ _)
   | (with_reducible exact ih3 _ _ _ _ _ _ _ _ _ _ _)
   | (with_reducible exact ih4 _ _ _ _ _ _ _)
   | (with_reducible exact parallaxlaw7_known.mono _)
   | (with_reducible exact parallaxlaw7_some.mono _ _)
   | (with_reducible exact parallaxref6_Host.mono _ _)
   | (with_reducible exact parallaxref6_Path.mono _ _)
   | (with_reducible exact parallaxref6_Put.mono _ _ _ _ _ _)
   | (with_reducible exact parallaxref6_Query.mono _ _)
   | (with_reducible exact parallaxref6_Target.mono _ _ _)
   | (with_reducible exact target_Host.mono _ _)
   | (with_reducible exact target_Parse.mono _ _ _)
   | (with_reducible exact target_Path.mono _ _)
   | (with_reducible exact target_Put.mono _ _ _ _ _ _)
   | (with_reducible exact target_Query.mono _ _)
   | (with_reducible exact LeO.refl _)
   | (with_reducible exact LeO.none _)
   | (with_reducible refine LeO.ite ?_ ?_)
   | (with_reducible refine LeO.bind ?_ (fun _ => ?_))
   | exact ih0 _ _ _ _ _
   | exact ih1 _ _ _ _ _ _
   | exact ih2 _ _ _ _ _ _ _ _ _ _
   | exact ih3 _ _ _ _ _ _ _ _ _ _ _
   | exact ih4 _ _ _ _ _ _ _
   | exact parallaxlaw7_known.mono _
   | exact parallaxlaw7_some.mono _ _
   | exact parallaxref6_Host.mono _ _
   | exact parallaxref6_Path.mono _ _
   | exact parallaxref6_Put.mono _ _ _ _ _ _
   | exact parallaxref6_Query.mono _ _
   | exact parallaxref6_Target.mono _ _ _
   | exact target_Host.mono _ _
   | exact target_Parse.mono _ _ _
   | exact target_Path.mono _ _
   | exact target_Put.mono _ _ _ _ _ _
   | exact target_Query.mono _ _
   | exact LeO.none _
   | refine LeO.ite ?_ ?_
   | refine LeO.bind ?_ (fun _ => ?_)
theorem parallaxlaw7_TargetTells.mono : ∀ a0 a1 a2 a3 k, LeO (parallaxlaw7_TargetTells.f k a0 a1 a2 a3) (parallaxlaw7_TargetTells.f (k + 1) a0 a1 a2 a3) := by
 intro a0 a1 a2 a3 k
 obtain ⟨ih0, ih1, ih2, ih3, ih4⟩ := parallaxlaw7_TargetTells.mono_l k
 unfold parallaxlaw7_TargetTells.f
 repeat' first
   | (with_reducible exact ih0 _ _ _ _ _)
   | (with_reducible exact ih1 _ _ _ _ _ _)
   | (with_reducible exact ih2 _ _ _ _ _ _ _ _ _ _)
   | (with_reducible exact ih3 _ _ _ _ _ _ _ _ _ _ _)
   | (with_reducible exact ih4 _ _ _ _ _ _ _)
   | (with_reducible exact parallaxlaw7_known.mono _)
   | (with_reducible exact parallaxlaw7_some.mono _ _)
   | (with_reducible exact parallaxref6_Host.mono _ _)
   | (with_reducible exact parallaxref6_Path.mono _ _)
   | (with_reducible exact parallaxref6_Put.mono _ _ _ _ _ _)
   | (with_reducible exact parallaxref6_Query.mono _ _)
   | (with_reducible exact parallaxref6_Target.mono _ _ _)
   | (with_reducible exact target_Host.mono _ _)
   | (with_reducible exact target_Parse.mono _ _ _)
   | (with_reducible exact target_Path.mono _ _)
   | (with_reducible exact target_Put.mono _ _ _ _ _ _)
   | (with_reducible exact target_Query.mono _ _)
   | (with_reducible exact LeO.refl _)
   | (with_reducible exact LeO.none _)
   | (with_reducible refine LeO.ite ?_ ?_)
   | (with_reducible refine LeO.bind ?_ (fun _ => ?_))
   | exact ih0 _ _ _ _ _
   | exact ih1 _ _ _ _ _ _
   | exact ih2 _ _ _ _ _ _ _ _ _ _
   | exact ih3 _ _ _ _ _ _ _ _ _ _ _
   | exact ih4 _ _ _ _ _ _ _
   | exact parallaxlaw7_known.mono _
   | exact parallaxlaw7_some.mono _ _
   | exact parallaxref6_Host.mono _ _
   | exact parallaxref6_Path.mono _ _
   | exact parallaxref6_Put.mono _ _ _ _ _ _
   | exact parallaxref6_Query.mono _ _
   | exact parallaxref6_Target.mono _ _ _
   | exact target_Host.mono _ _
   | exact target_Parse.mono _ _ _
   | exact target_Path.mono _ _
   | exact target_Put.mono _ _ _ _ _ _
   | exact target_Query.mono _ _
   | exact LeO.none _
   | refine LeO.ite ?_ ?_
   | refine LeO.bind ?_ (fun _ => ?_)
def parallaxlaw7_TargetTells.T13 : Bool × List (List Nat × List Nat) := (true, [([], []), ([], []), ([0, 1], [0, 1]), ([2], [2]), ([3], [3]), ([3], [3]), ([4, 5, 3], [3, 4, 5]), ([3, 6], [3, 6]), ([7, 3], [7]), ([8], [8]), ([9, 8, 8], [8, 9]), ([8], [8]), ([11, 10, 8], [8, 11]), ([10, 12, 8], [8, 10, 12]), ([8, 13], [8, 13])])
def parallaxlaw7_TargetTells.B13 : List Nat := [0, 0, 3, 7, 15, 15, 63, 127, 255, 511, 1023, 511, 4095, 8191, 16383]
theorem parallaxlaw7_TargetTells.tab13 : rtab .any (opsOf Try.f3 13) = parallaxlaw7_TargetTells.T13 := by kernel_rfl
theorem parallaxlaw7_TargetTells.bits13 : waitsOk parallaxlaw7_TargetTells.T13.2 parallaxlaw7_TargetTells.B13 = true := by kernel_rfl
set_option maxHeartbeats 8000000 in
set_option maxRecDepth 100000 in
theorem parallaxlaw7_TargetTells.calls (k : Nat) (a0 : ByteArray) (A1 : Option Addr) (c1 : Nat) (l1 : List Int) (a2 : ByteArray) (a3 : Int) (r : Bool) (w : World) (hr1 : Kd.C (Kd.int .u8) w A1 l1.length l1) (hc1 : l1.length ≤ c1) (hq3 : (Lit.int .u8 a3).wf = true) (hT : r = true) (h : parallaxlaw7_TargetTells.f k a0 l1 a2 a3 = some r) :
  Calls Try.prog 3 #[.string a0, .slice A1 l1.length c1, .string a2, .int .u8 a3] w fun e w' => e = .returned (.bool r) ∧ Below w.heap.size w w' := by
 have hu27 := Try.underlying27
 have HQ3 := Aside0.mk hq3
 clear hq3
 have HT := Aside0.mk hT
 clear hT
 have HR1 := Aside0.mk hr1
 have HC1 := Aside0.mk hc1
 clear hr1 hc1
 have HB := Aside0.mk (Below.refl w.heap.size w)
 have H : ((parallaxlaw7_known.f k).bind fun t281 => (if t281 = true then (if (a0.size : Int) > 80 then (parallaxlaw7_TargetTells.j0 k a0 l1 a2 a3 true) else (if (l1.length : Int) > 10 then (parallaxlaw7_TargetTells.j0 k a0 l1 a2 a3 true) else (parallaxlaw7_TargetTells.j0 k a0 l1 a2 a3 (decide ((a2.size : Int) > 20))))) else (some false))) = some r := h
 clear h
 replace H := Option.bind_eq_some_iff.mp H
 obtain ⟨t281, A50, H⟩ := H
 (try dsimp only at H)
 have A5 := Aside0.mk A50
 clear A50
 by_cases c6 : t281 = true
 ·subst c6
  rw [if_pos rfl] at H
  have HC7 := Aside0.mk H
  clear H
  go_enter Try.func3, Try.ntmps3
  go_upto_region 3 with (first | ((with_reducible refine gate_callee (f := 7) rfl ?_); refine goesL_ (some 18) rfl rfl Try.func7 (by kernel_rfl) rfl #[] rfl (by (try simp only [List.map_toArray, List.map_cons, List.map_nil]); first | done | rfl | (simp only [List.length_drop, List.length_take]; rfl)) ?_; (with_reducible refine (parallaxlaw7_known.calls k  true _ rfl A5.out).mono ?_); rintro e w8 ⟨rfl, hb⟩; refine ⟨_, rfl, ?_⟩; have n0_ := Aside0.mk (below_step (by repeat (first | (with_reducible first | exact HB.out | apply below_alloc | apply pw_below_drewN | apply below_drew1) | exact HB.out)) hb); clear HB; have HB := n0_; clear n0_; (try clear hb); (try clear hb2); (try clear hk); (try clear hi)))
  (try simp only [Act.put, List.setIfInBounds_toArray, List.set_cons_zero, List.set_cons_succ])
  go_cut [32] (fun v32 wc => ∃ (kq : Nat) (x32_6 : Bool), v32 = .bool x32_6 ∧ Aside0 (parallaxlaw7_TargetTells.j0 kq a0 l1 a2 a3 x32_6 = some r) ∧ Aside0 (kq ≤ k) ∧ Aside0 (Below w.heap.size w wc))
  case first =>
   have H := HC7.out
   clear HC7
   by_cases c9 : (a0.size : Int) > 80
   ·rw [if_pos c9] at H
    have c9b0 : decide (80 < (a0.size : Int)) = true := decide_eq_true c9
    have c9b1 : decide (80 < a0.size) = true := decide_eq_true (by omega)
    clear c9
    (first | rw [c9b0] | (simp only [i64_w, i32_w]; rw [c9b0]) | skip)
    have H' := Aside0.mk H
    clear H
    go_wp2
    go_meet
    case rel => exact ⟨_, (true), (by first | rfl | (simp; done) | (simp [*]; done)), H', ⟨by first | omega | exact Nat.le_refl _⟩, ⟨by repeat (first | (with_reducible first | exact HB.out | apply below_alloc | apply pw_below_drewN | apply below_drew1) | exact HB.out)⟩⟩
   ·rw [if_neg c9] at H
    have c9b0 : decide (80 < (a0.size : Int)) = false := decide_eq_false c9
    have c9b1 : decide (80 < a0.size) = false := decide_eq_false (by omega)
    clear c9
    (first | rw [c9b0] | (simp only [i64_w, i32_w]; rw [c9b0]) | skip)
    by_cases c10 : (l1.length : Int) > 10
    ·rw [if_pos c10] at H
     have c10b0 : decide (10 < (l1.length : Int)) = true := decide_eq_true c10
     have c10b1 : decide (10 < l1.length) = true := decide_eq_true (by omega)
     clear c10
     have H' := Aside0.mk H
     clear H
     go_wp2
     go_meet
     case rel => exact ⟨_, (true), (by first | rfl | (simp; done) | (simp [*]; done)), H', ⟨by first | omega | exact Nat.le_refl _⟩, ⟨by repeat (first | (with_reducible first | exact HB.out | apply below_alloc | apply pw_below_drewN | apply below_drew1) | exact HB.out)⟩⟩
    ·rw [if_neg c10] at H
     have c10b0 : decide (10 < (l1.length : Int)) = false := decide_eq_false c10
     have c10b1 : decide (10 < l1.length) = false := decide_eq_false (by omega)
     clear c10
     have H' := Aside0.mk H
     clear H
     go_wp2
     go_meet
     case rel => exact ⟨_, (decide ((a2.size : Int) > 20)), (by first | rfl | (simp; done) | (simp [*]; done)), H', ⟨by first | omega | exact Nat.le_refl _⟩, ⟨by repeat (first | (with_reducible first | exact HB.out | apply below_alloc | apply pw_below_drewN | apply below_drew1) | exact HB.out)⟩⟩
  case rest =>
   clear HC7
   try clear c1
   try clear p2
   try clear c3
   try clear q3
   try clear c6
   try clear c7
   try clear c9
   try clear c9b0
   try clear c9b1
   try clear c10
   try clear c10b0
   try clear c10b1
   obtain ⟨kq, x32_6, rfl, HA, HJ6, HB⟩ := hcut
   cases kq with
   | zero => exact absurd HA.out (by simp [parallaxlaw7_TargetTells.j0])
   | succ kj6 =>
    have H := HA.out
    clear HA
    simp only [parallaxlaw7_TargetTells.j0] at H
    by_cases c11 : x32_6 = true
    ·subst c11
     rw [if_pos rfl] at H
     obtain rfl := Option.some.inj H
     go_wp2
     go_ret
     exact ⟨by first | rfl | (simp [errW_none, errW_some] <;> rfl) | (simp [*, errW_none, errW_some] <;> rfl), by repeat (first | (with_reducible first | exact HB.out | apply below_alloc | apply pw_below_drewN | apply below_drew1) | exact HB.out)⟩
    ·replace c11 := Bool.eq_false_iff.mpr c11
     subst c11
     rw [if_neg (show ¬ (false = true) by decide)] at H
     replace H := Option.bind_eq_some_iff.mp H
     obtain ⟨t282, A120, H⟩ := H
     (try dsimp only at H)
     have A12 := Aside0.mk A120
     clear A120
     replace H := Option.bind_eq_some_iff.mp H
     obtain ⟨t283, A130, H⟩ := H
     have E_ : t282 = t283 := Option.some.inj (A12.out.symm.trans A130)
     subst E_
     (try dsimp only at H)
     have A13 := Aside0.mk A130
     clear A130
     by_cases c14 : 1 + t282.size ≤ 9223372036854775807
     ·rw [if_pos c14] at H
      have c14b0 := eq_true c14
      have c14b1 : decide (1 + t282.size ≤ 9223372036854775807) = true := decide_eq_true c14
      try have c14b2 : (9223372036854775807 < 1 + t282.size) = False := eq_false (Nat.not_lt.2 c14)
      replace H := Option.bind_eq_some_iff.mp H
      obtain ⟨t284, A150, H⟩ := H
      have E_ : t282 = t284 := Option.some.inj (A12.out.symm.trans A150)
      subst E_
      (try dsimp only at H)
      have A15 := Aside0.mk A150
      clear A150
      by_cases c16 : 7 + t282.size ≤ 9223372036854775807
      ·rw [if_pos c16] at H
       have c16b0 := eq_true c16
       have c16b1 : decide (7 + t282.size ≤ 9223372036854775807) = true := decide_eq_true c16
       try have c16b2 : (9223372036854775807 < 7 + t282.size) = False := eq_false (Nat.not_lt.2 c16)
       replace H := Option.bind_eq_some_iff.mp H
       obtain ⟨t285, A170, H⟩ := H
       have E_ : t282 = t285 := Option.some.inj (A12.out.symm.trans A170)
       subst E_
       (try dsimp only at H)
       have A17 := Aside0.mk A170
       clear A170
       by_cases c18 : 6 + t282.size ≤ 9223372036854775807
       ·rw [if_pos c18] at H
        have c18b0 := eq_true c18
        have c18b1 : decide (6 + t282.size ≤ 9223372036854775807) = true := decide_eq_true c18
        try have c18b2 : (9223372036854775807 < 6 + t282.size) = False := eq_false (Nat.not_lt.2 c18)
        obtain ⟨y286, hy286⟩ : ∃ y_ : List ByteArray, y_ = (([a0, t282, (⟨#[47]⟩ : ByteArray) ++ t282, (⟨#[104, 116, 116, 112, 58, 47, 47]⟩ : ByteArray) ++ t282, (⟨#[104, 46, 111, 114, 103, 58]⟩ : ByteArray) ++ t282] : List ByteArray)) := ⟨_, rfl⟩
        replace H : (parallaxlaw7_TargetTells.l0 kj6 a0 a2 a3 y286 (y286.length : Int) 0) = some r := by first | (rw [hy286]; with_reducible exact H) | (have H2_ := (Option.bind_some _ _).symm.trans H; rw [hy286]; with_reducible exact H2_) | (have H2_ := (Option.bind_some _ _).symm.trans H; with_reducible exact H2_) | with_reducible exact H | (rw [hy286]; exact H) | exact H
        have Ny286 := Aside0.mk hy286
        clear hy286
        have H' := Aside0.mk H
        clear H
        go_wp2_with (first | ((with_reducible refine gate_callee (f := 8) rfl ?_); refine goesL_ (some 35) rfl rfl Try.func8 (by kernel_rfl) rfl #[.slice A1 l1.length c1] rfl (by (try simp only [List.map_toArray, List.map_cons, List.map_nil]); first | done | rfl | (simp only [List.length_drop, List.length_take]; rfl)) ?_; (with_reducible refine (parallaxlaw7_some.calls kj6 _ _ l1 t282 _ ?side1 ?side2 A12.out).mono ?_); (case side1 => repeat (first | exact (Kd.C_below HR1.out HB.out) | (with_reducible refine Kd.C_alloc ?_ _) | (with_reducible refine Kd.C_drewN ?_ _) | (with_reducible refine Kd.C_drew ?_))); (case side2 => exact HC1.out); rintro e w19 ⟨rfl, hb⟩; refine ⟨_, rfl, ?_⟩; have n0_ := Aside0.mk (below_step (by repeat (first | (with_reducible first | exact HB.out | apply below_alloc | apply pw_below_drewN | apply below_drew1) | exact HB.out)) hb); clear HB; have HB := n0_; clear n0_; (try clear hb); (try clear hb2); (try clear hk); (try clear hi)) | ((with_reducible refine gate_callee (f := 8) rfl ?_); refine goesL_ (some 37) rfl rfl Try.func8 (by kernel_rfl) rfl #[.slice A1 l1.length c1] rfl (by (try simp only [List.map_toArray, List.map_cons, List.map_nil]); first | done | rfl | (simp only [List.length_drop, List.length_take]; rfl)) ?_; (with_reducible refine (parallaxlaw7_some.calls kj6 _ _ l1 t282 _ ?side1 ?side2 A13.out).mono ?_); (case side1 => repeat (first | exact (Kd.C_below HR1.out HB.out) | (with_reducible refine Kd.C_alloc ?_ _) | (with_reducible refine Kd.C_drewN ?_ _) | (with_reducible refine Kd.C_drew ?_))); (case side2 => exact HC1.out); rintro e w20 ⟨rfl, hb⟩; refine ⟨_, rfl, ?_⟩; have n0_ := Aside0.mk (below_step (by repeat (first | (with_reducible first | exact HB.out | apply below_alloc | apply pw_below_drewN | apply below_drew1) | exact HB.out)) hb); clear HB; have HB := n0_; clear n0_; (try clear hb); (try clear hb2); (try clear hk); (try clear hi)) | ((with_reducible refine gate_callee (f := 8) rfl ?_); refine goesL_ (some 40) rfl rfl Try.func8 (by kernel_rfl) rfl #[.slice A1 l1.length c1] rfl (by (try simp only [List.map_toArray, List.map_cons, List.map_nil]); first | done | rfl | (simp only [List.length_drop, List.length_take]; rfl)) ?_; (with_reducible refine (parallaxlaw7_some.calls kj6 _ _ l1 t282 _ ?side1 ?side2 A15.out).mono ?_); (case side1 => repeat (first | exact (Kd.C_below HR1.out HB.out) | (with_reducible refine Kd.C_alloc ?_ _) | (with_reducible refine Kd.C_drewN ?_ _) | (with_reducible refine Kd.C_drew ?_))); (case side2 => exact HC1.out); rintro e w21 ⟨rfl, hb⟩; refine ⟨_, rfl, ?_⟩; have n0_ := Aside0.mk (below_step (by repeat (first | (with_reducible first | exact HB.out | apply below_alloc | apply pw_below_drewN | apply below_drew1) | exact HB.out)) hb); clear HB; have HB := n0_; clear n0_; (try clear hb); (try clear hb2); (try clear hk); (try clear hi)) | ((with_reducible refine gate_callee (f := 8) rfl ?_); refine goesL_ (some 43) rfl rfl Try.func8 (by kernel_rfl) rfl #[.slice A1 l1.length c1] rfl (by (try simp only [List.map_toArray, List.map_cons, List.map_nil]); first | done | rfl | (simp only [List.length_drop, List.length_take]; rfl)) ?_; (with_reducible refine (parallaxlaw7_some.calls kj6 _ _ l1 t282 _ ?side1 ?side2 A17.out).mono ?_); (case side1 => repeat (first | exact (Kd.C_below HR1.out HB.out) | (with_reducible refine Kd.C_alloc ?_ _) | (with_reducible refine Kd.C_drewN ?_ _) | (with_reducible refine Kd.C_drew ?_))); (case side2 => exact HC1.out); rintro e w22 ⟨rfl, hb⟩; refine ⟨_, rfl, ?_⟩; have n0_ := Aside0.mk (below_step (by repeat (first | (with_reducible first | exact HB.out | apply below_alloc | apply pw_below_drewN | apply below_drew1) | exact HB.out)) hb); clear HB; have HB := n0_; clear n0_; (try clear hb); (try clear hb2); (try clear hk); (try clear hi)) | ((with_reducible refine gate_dst (N := 45) rfl ?_); (try (refine gate_guard (by rfl) ?_; dsimp only)); refine Kd.R_lit Kd.string _ 9 ?hg (N := 45) ?hd (xs := ([a0, t282, (⟨#[47]⟩ : ByteArray) ++ t282, (⟨#[104, 116, 116, 112, 58, 47, 47]⟩ : ByteArray) ++ t282, (⟨#[104, 46, 111, 114, 103, 58]⟩ : ByteArray) ++ t282] : List ByteArray)) (inner := [.string a0, .string t282, .string ((⟨#[47]⟩ : ByteArray) ++ t282), .string ((⟨#[104, 116, 116, 112, 58, 47, 47]⟩ : ByteArray) ++ t282), .string ((⟨#[104, 46, 111, 114, 103, 58]⟩ : ByteArray) ++ t282)]) (ok := fun _ => True) (okp := fun _ => True) ?hr ?hp (fun _ hk => hk) trivial (Below.refl _ _) (Nat.le_refl _) (by simp) ?_; (case hd => rfl); (case hg => rfl); (case hr => first | (go_simp; done) | (go_simp; rfl)); (case hp => exact (Reps.one (show Kd.M Kd.string _ _ _ a0 [.string a0] from rfl) (Reps.one (show Kd.M Kd.string _ _ _ t282 [.string t282] from rfl) (Reps.one (show Kd.M Kd.string _ _ _ ((⟨#[47]⟩ : ByteArray) ++ t282) [.string ((⟨#[47]⟩ : ByteArray) ++ t282)] from rfl) (Reps.one (show Kd.M Kd.string _ _ _ ((⟨#[104, 116, 116, 112, 58, 47, 47]⟩ : ByteArray) ++ t282) [.string ((⟨#[104, 116, 116, 112, 58, 47, 47]⟩ : ByteArray) ++ t282)] from rfl) (Reps.one (show Kd.M Kd.string _ _ _ ((⟨#[104, 46, 111, 114, 103, 58]⟩ : ByteArray) ++ t282) [.string ((⟨#[104, 46, 111, 114, 103, 58]⟩ : ByteArray) ++ t282)] from rfl) (Reps.none _ _))))))); intro v287 w23 ho24 hb hg_ hnew_; clear hg_ hnew_; (first | rw [← Ny286.out] at ho24 | (simp only [Int.reduceToNat] at ho24; rw [← Ny286.out] at ho24)); have n0_ := Aside0.mk (Kd.R_lower ho24 (below_size (by repeat (first | (with_reducible first | exact HB.out | apply below_alloc | apply pw_below_drewN | apply below_drew1) | exact HB.out)))); have n1_ := Aside0.mk (below_step (by repeat (first | (with_reducible first | exact HB.out | apply below_alloc | apply pw_below_drewN | apply below_drew1) | exact HB.out)) hb); clear HB; have HO288 := n0_; have HB := n1_; clear n0_ n1_; clear hb ho24; obtain ⟨Ao25, co25, eo25⟩ := Kd.R_slice HO288.out; subst eo25) | (go_at_call 8; (with_reducible refine (parallaxlaw7_some.calls kj6 _ _ l1 t282 _ ?side1 ?side2 A12.out).mono ?_); (case side1 => repeat (first | exact (Kd.C_below HR1.out HB.out) | (with_reducible refine Kd.C_alloc ?_ _) | (with_reducible refine Kd.C_drewN ?_ _) | (with_reducible refine Kd.C_drew ?_))); (case side2 => exact HC1.out); rintro e w19 ⟨rfl, hb⟩; have n0_ := Aside0.mk (below_step (by repeat (first | (with_reducible first | exact HB.out | apply below_alloc | apply pw_below_drewN | apply below_drew1) | exact HB.out)) hb); clear HB; have HB := n0_; clear n0_; (try clear hb); (try clear hb2); (try clear hk); (try clear hi)) | (go_at_call 8; (with_reducible refine (parallaxlaw7_some.calls kj6 _ _ l1 t282 _ ?side1 ?side2 A13.out).mono ?_); (case side1 => repeat (first | exact (Kd.C_below HR1.out HB.out) | (with_reducible refine Kd.C_alloc ?_ _) | (with_reducible refine Kd.C_drewN ?_ _) | (with_reducible refine Kd.C_drew ?_))); (case side2 => exact HC1.out); rintro e w20 ⟨rfl, hb⟩; have n0_ := Aside0.mk (below_step (by repeat (first | (with_reducible first | exact HB.out | apply below_alloc | apply pw_below_drewN | apply below_drew1) | exact HB.out)) hb); clear HB; have HB := n0_; clear n0_; (try clear hb); (try clear hb2); (try clear hk); (try clear hi)) | (go_at_call 8; (with_reducible refine (parallaxlaw7_some.calls kj6 _ _ l1 t282 _ ?side1 ?side2 A15.out).mono ?_); (case side1 => repeat (first | exact (Kd.C_below HR1.out HB.out) | (with_reducible refine Kd.C_alloc ?_ _) | (with_reducible refine Kd.C_drewN ?_ _) | (with_reducible refine Kd.C_drew ?_))); (case side2 => exact HC1.out); rintro e w21 ⟨rfl, hb⟩; have n0_ := Aside0.mk (below_step (by repeat (first | (with_reducible first | exact HB.out | apply below_alloc | apply pw_below_drewN | apply below_drew1) | exact HB.out)) hb); clear HB; have HB := n0_; clear n0_; (try clear hb); (try clear hb2); (try clear hk); (try clear hi)) | (go_at_call 8; (with_reducible refine (parallaxlaw7_some.calls kj6 _ _ l1 t282 _ ?side1 ?side2 A17.out).mono ?_); (case side1 => repeat (first | exact (Kd.C_below HR1.out HB.out) | (with_reducible refine Kd.C_alloc ?_ _) | (with_reducible refine Kd.C_drewN ?_ _) | (with_reducible refine Kd.C_drew ?_))); (case side2 => exact HC1.out); rintro e w22 ⟨rfl, hb⟩; have n0_ := Aside0.mk (below_step (by repeat (first | (with_reducible first | exact HB.out | apply below_alloc | apply pw_below_drewN | apply below_drew1) | exact HB.out)) hb); clear HB; have HB := n0_; clear n0_; (try clear hb); (try clear hb2); (try clear hk); (try clear hi)))
        go_loopg [47] kj6 (fun kq v47 w' => ∃ (x47_2 : Int), v47 = .int .i64 x47_2 ∧ Aside0 (parallaxlaw7_TargetTells.l0 kq a0 a2 a3 y286 (y286.length : Int) x47_2 = some r) ∧ Aside0 (kq ≤ kj6) ∧ Aside0 (Kd.R Kd.string 9 w' w.heap.size (fun _ => True) (.slice Ao25 y286.length co25) y286) ∧ Aside0 (Below w.heap.size w w'))
        case atStart => exact ⟨(0), (by first | rfl | (simp; done) | (simp [*]; done)), H', ⟨Nat.le_refl _⟩, ⟨by (with_reducible repeat (first | apply Kd.R_alloc | apply Kd.R_drewN | apply Kd.R_drew)); exact HO288.out⟩, ⟨by repeat (first | (with_reducible first | exact HB.out | apply below_alloc | apply pw_below_drewN | apply below_drew1) | exact HB.out)⟩⟩
        case round =>
         clear H'
         try clear c1
         try clear p2
         try clear c3
         try clear q3
         try clear c6
         try clear c7
         try clear c8
         try clear c9
         try clear c9b0
         try clear c9b1
         try clear c10
         try clear c10b0
         try clear c10b1
         try clear c11
         try clear c14
         try clear c14b0
         try clear c14b1
         try clear c14b2
         try clear c16
         try clear c16b0
         try clear c16b1
         try clear c16b2
         try clear c18
         try clear c18b0
         try clear c18b1
         try clear c18b2
         try clear p2
         try clear q3
         obtain ⟨x47_2, rfl, HA, HK2, HO_45, HB⟩ := hrel
         cases gk with
         | zero => exact absurd HA.out (by simp [parallaxlaw7_TargetTells.l0])
         | succ k2 =>
          have H := HA.out
          clear HA
          simp only [parallaxlaw7_TargetTells.l0] at H
          by_cases c26 : x47_2 < (y286.length : Int)
          ·rw [if_pos c26] at H
           have c26b0 : decide (x47_2 < (y286.length : Int)) = true := decide_eq_true c26
           clear c26
           by_cases c27 : 0 ≤ x47_2
           ·rw [if_pos c27] at H
            have c27b0 : decide (0 ≤ x47_2) = true := decide_eq_true c27
            clear c27
            by_cases c28 : x47_2 < (y286.length : Int)
            ·rw [if_pos c28] at H
             have c28b0 : decide (x47_2 < (y286.length : Int)) = true := decide_eq_true c28
             clear c28
             obtain ⟨y290, hy290⟩ : ∃ y_ : List ByteArray, y_ = (([a2, (⟨#[71, 69, 84]⟩ : ByteArray), (⟨#[67, 79, 78, 78, 69, 67, 84]⟩ : ByteArray), (⟨#[79, 80, 84, 73, 79, 78, 83]⟩ : ByteArray)] : List ByteArray)) := ⟨_, rfl⟩
             replace H : (parallaxlaw7_TargetTells.l1 k2 a0 a2 a3 (rdOf ByteArray.empty y286 x47_2) y286 (y286.length : Int) x47_2 y290 (y290.length : Int) 0) = some r := by first | (rw [hy290]; with_reducible exact H) | (have H2_ := (Option.bind_some _ _).symm.trans H; rw [hy290]; with_reducible exact H2_) | (have H2_ := (Option.bind_some _ _).symm.trans H; with_reducible exact H2_) | with_reducible exact H | (rw [hy290]; exact H) | exact H
             have Ny290 := Aside0.mk hy290
             clear hy290
             have H' := Aside0.mk H
             clear H
             have p289 : 0 ≤ (x47_2 : Int) := of_decide_eq_true (by first | (with_reducible assumption) | assumption)
             have q289 : x47_2 < (y286.length : Int) := of_decide_eq_true (by first | (with_reducible assumption) | assumption)
             obtain ⟨ad289, e289, hx289_0⟩ := Kd.at_string (Kd.R_reads' HO_45.out).2.2 x47_2 p289 q289
             cases e289
             replace p289 := eq_true p289
             replace q289 := eq_true q289
             go_wp2_with (first | ((with_reducible refine gate_dst (N := 52) rfl ?_); (try (refine gate_guard (by rfl) ?_; dsimp only)); refine Kd.R_lit Kd.string _ 9 ?hg (N := 52) ?hd (xs := ([a2, (⟨#[71, 69, 84]⟩ : ByteArray), (⟨#[67, 79, 78, 78, 69, 67, 84]⟩ : ByteArray), (⟨#[79, 80, 84, 73, 79, 78, 83]⟩ : ByteArray)] : List ByteArray)) (inner := [.string a2, .string (⟨#[71, 69, 84]⟩ : ByteArray), .string (⟨#[67, 79, 78, 78, 69, 67, 84]⟩ : ByteArray), .string (⟨#[79, 80, 84, 73, 79, 78, 83]⟩ : ByteArray)]) (ok := fun _ => True) (okp := fun _ => True) ?hr ?hp (fun _ hk => hk) trivial (Below.refl _ _) (Nat.le_refl _) (by simp) ?_; (case hd => rfl); (case hg => rfl); (case hr => first | (go_simp; done) | (go_simp; rfl)); (case hp => exact (Reps.one (show Kd.M Kd.string _ _ _ a2 [.string a2] from rfl) (Reps.one (show Kd.M Kd.string _ _ _ (⟨#[71, 69, 84]⟩ : ByteArray) [.string (⟨#[71, 69, 84]⟩ : ByteArray)] from rfl) (Reps.one (show Kd.M Kd.string _ _ _ (⟨#[67, 79, 78, 78, 69, 67, 84]⟩ : ByteArray) [.string (⟨#[67, 79, 78, 78, 69, 67, 84]⟩ : ByteArray)] from rfl) (Reps.one (show Kd.M Kd.string _ _ _ (⟨#[79, 80, 84, 73, 79, 78, 83]⟩ : ByteArray) [.string (⟨#[79, 80, 84, 73, 79, 78, 83]⟩ : ByteArray)] from rfl) (Reps.none _ _)))))); intro v291 w29 ho30 hb hg_ hnew_; clear hg_ hnew_; (first | rw [← Ny290.out] at ho30 | (simp only [Int.reduceToNat] at ho30; rw [← Ny290.out] at ho30)); have n0_ := Aside0.mk (Kd.R_elder' (by (with_reducible repeat (first | apply Kd.R_alloc | apply Kd.R_drewN | apply Kd.R_drew)); exact HO_45.out) (Kd.R_base ho30) hb); have n1_ := Aside0.mk (Kd.R_lower (Kd.R_new' ho30 (Kd.R_lt (by (with_reducible repeat (first | apply Kd.R_alloc | apply Kd.R_drewN | apply Kd.R_drew)); exact HO_45.out))) (below_size (by repeat (first | (with_reducible first | exact HB.out | apply below_alloc | apply pw_below_drewN | apply below_drew1) | exact HB.out)))); have n2_ := Aside0.mk (below_step (by repeat (first | (with_reducible first | exact HB.out | apply below_alloc | apply pw_below_drewN | apply below_drew1) | exact HB.out)) hb); clear HO_45; clear HB; have HO_45 := n0_; have HO292 := n1_; have HB := n2_; clear n0_ n1_ n2_; clear hb ho30; obtain ⟨Ao31, co31, eo31⟩ := Kd.R_slice HO292.out; subst eo31))
             go_loopg [54] k2 (fun kq v54 w' => ∃ (x54_3 : Int), v54 = .int .i64 x54_3 ∧ Aside0 (parallaxlaw7_TargetTells.l1 kq a0 a2 a3 (rdOf ByteArray.empty y286 x47_2) y286 (y286.length : Int) x47_2 y290 (y290.length : Int) x54_3 = some r) ∧ Aside0 (kq ≤ k2) ∧ Aside0 (Kd.R Kd.string 9 w' w.heap.size (fun k_ => some k_ ≠ ((.slice Ao31 y290.length co31) : Value).ownBlock) (.slice (some ad289) y286.length co25) y286) ∧ Aside0 (Kd.R Kd.string 9 w' w.heap.size (fun k_ => some k_ ≠ ((.slice (some ad289) y286.length co25) : Value).ownBlock) (.slice Ao31 y290.length co31) y290) ∧ Aside0 (Below w.heap.size w w'))
             case atStart => exact ⟨(0), (by first | rfl | (simp; done) | (simp [*]; done)), H', ⟨Nat.le_refl _⟩, ⟨by (with_reducible repeat (first | apply Kd.R_alloc | apply Kd.R_drewN | apply Kd.R_drew)); exact Kd.R_mono HO_45.out (fun _ hk => (by first | exact hk.2 | exact True.intro))⟩, ⟨by (with_reducible repeat (first | apply Kd.R_alloc | apply Kd.R_drewN | apply Kd.R_drew)); exact Kd.R_mono HO292.out (fun _ hk => (by first | exact hk.2 | exact True.intro))⟩, ⟨by repeat (first | (with_reducible first | exact HB.out | apply below_alloc | apply pw_below_drewN | apply below_drew1) | exact HB.out)⟩⟩
             case round =>
              clear H'
              try clear c1
              try clear c2
              try clear p2
              try clear q2
              try clear hx2
              try clear c3
              try clear q3
              try clear c6
              try clear c7
              try clear c8
              try clear c9
              try clear c9b0
              try clear c9b1
              try clear c10
              try clear c10b0
              try clear c10b1
              try clear c11
              try clear c14
              try clear c14b0
              try clear c14b1
              try clear c14b2
              try clear c16
              try clear c16b0
              try clear c16b1
              try clear c16b2
              try clear c18
              try clear c18b0
              try clear c18b1
              try clear c18b2
              try clear c26
              try clear c26b0
              try clear c27
              try clear c27b0
              try clear c28
              try clear c28b0
              try clear p28
              try clear q28
              try clear hx28
              try clear hx289_0
              try clear p2
              try clear p289
              try clear q289
              try clear q3
              obtain ⟨x54_3, rfl, HA, HK3, HO_45, HO_52, HB⟩ := hrel
              cases gk with
              | zero => exact absurd HA.out (by simp [parallaxlaw7_TargetTells.l1])
              | succ k3 =>
               have H := HA.out
               clear HA
               simp only [parallaxlaw7_TargetTells.l1] at H
               by_cases c32 : x54_3 < (y290.length : Int)
               ·rw [if_pos c32] at H
                have c32b0 : decide (x54_3 < (y290.length : Int)) = true := decide_eq_true c32
                clear c32
                by_cases c33 : 0 ≤ x54_3
                ·rw [if_pos c33] at H
                 have c33b0 : decide (0 ≤ x54_3) = true := decide_eq_true c33
                 clear c33
                 by_cases c34 : x54_3 < (y290.length : Int)
                 ·rw [if_pos c34] at H
                  have c34b0 : decide (x54_3 < (y290.length : Int)) = true := decide_eq_true c34
                  clear c34
                  replace H := Option.bind_eq_some_iff.mp H
                  obtain ⟨⟨t294, t295, t296, t297, t298, t299⟩, A350, H⟩ := H
                  (try dsimp only at H)
                  have A35 := Aside0.mk A350
                  clear A350
                  replace H := Option.bind_eq_some_iff.mp H
                  obtain ⟨⟨t301, t302, t303, t304, t305, t306⟩, A360, H⟩ := H
                  (try dsimp only at H)
                  have A36 := Aside0.mk A360
                  clear A360
                  have HC37 := Aside0.mk H
                  clear H
                  have p293 : 0 ≤ (x54_3 : Int) := of_decide_eq_true (by first | (with_reducible assumption) | assumption)
                  have q293 : x54_3 < (y290.length : Int) := of_decide_eq_true (by first | (with_reducible assumption) | assumption)
                  obtain ⟨ad293, e293, hx293_0⟩ := Kd.at_string (Kd.R_reads' HO_52.out).2.2 x54_3 p293 q293
                  cases e293
                  replace p293 := eq_true p293
                  replace q293 := eq_true q293
                  go_upto_region 13 with (first | ((with_reducible refine gate_callee (f := 9) rfl ?_); refine goesL_ (some 61) rfl rfl Try.func9 (by kernel_rfl) rfl #[.string (rdOf ByteArray.empty y290 x54_3), .string (rdOf ByteArray.empty y286 x47_2)] rfl (by (try simp only [List.map_toArray, List.map_cons, List.map_nil]); first | done | rfl | (simp only [List.length_drop, List.length_take]; rfl)) ?_; (with_reducible refine (target_Parse.calls k3 (rdOf ByteArray.empty y290 x54_3) (rdOf ByteArray.empty y286 x47_2) t294 t295 t296 t297 t298 t299 _ A35.out).mono ?_); rintro e w38 ⟨rfl, hb⟩; refine ⟨_, rfl, ?_⟩; have n0_ := Aside0.mk (Kd.R_below (by (with_reducible repeat (first | apply Kd.R_alloc | apply Kd.R_drewN | apply Kd.R_drew)); exact HO_45.out) hb); have n1_ := Aside0.mk (Kd.R_below (by (with_reducible repeat (first | apply Kd.R_alloc | apply Kd.R_drewN | apply Kd.R_drew)); exact HO_52.out) hb); have n2_ := Aside0.mk (below_step (by repeat (first | (with_reducible first | exact HB.out | apply below_alloc | apply pw_below_drewN | apply below_drew1) | exact HB.out)) hb); clear HO_45; clear HO_52; clear HB; have HO_45 := n0_; have HO_52 := n1_; have HB := n2_; clear n0_ n1_ n2_; (try clear hb); (try clear hb2); (try clear hk); (try clear hi)) | ((with_reducible refine gate_dst (N := 13) rfl ?_); (try (refine gate_guard (by rfl) ?_; dsimp only)); refine box_event ?hg (N := 13) ?hd (cs := #[.int .i64 0, .string (⟨#[]⟩ : ByteArray), .string (⟨#[]⟩ : ByteArray), .string (⟨#[]⟩ : ByteArray), .bool false]) (t := 27) ?hr ?_; (case hd => rfl); (case hg => rfl); (case hr => first | (go_simp; done) | (go_simp; rfl)); intro gb300 hg w39 hbox hb; have n0_ := Aside0.mk (Kd.R_below (by (with_reducible repeat (first | apply Kd.R_alloc | apply Kd.R_drewN | apply Kd.R_drew)); exact HO_45.out) hb); have n1_ := Aside0.mk (Kd.R_below (by (with_reducible repeat (first | apply Kd.R_alloc | apply Kd.R_drewN | apply Kd.R_drew)); exact HO_52.out) hb); have n2_ := Aside0.mk (below_step (by repeat (first | (with_reducible first | exact HB.out | apply below_alloc | apply pw_below_drewN | apply below_drew1) | exact HB.out)) hb); have n3_ := Aside0.mk (hbox); have n4_ := Aside0.mk ((by rw [hg]; exact (below_size (by repeat (first | (with_reducible first | exact HB.out | apply below_alloc | apply pw_below_drewN | apply below_drew1) | exact HB.out))) : w.heap.size ≤ gb300)); have n5_ := Aside0.mk ((by rw [hg]; exact (below_size (by repeat (first | (with_reducible first | exact HB.out | apply below_alloc | apply pw_below_drewN | apply below_drew1) | exact HB.out))) : w.heap.size ≤ gb300)); clear HO_45; clear HO_52; clear HB; have HO_45 := n0_; have HO_52 := n1_; have HB := n2_; have BK300 := n3_; have GW300 := n4_; have GE300 := n5_; clear n0_ n1_ n2_ n3_ n4_ n5_; clear hb hbox hg; have hcz40_0 : w39.cell? ⟨gb300, 0, none⟩ = some (.int .i64 0) := (blk_cell BK300.out 0).trans rfl; have hcz40_1 : w39.cell? ⟨gb300, 1, none⟩ = some (.string (⟨#[]⟩ : ByteArray)) := (blk_cell BK300.out 1).trans rfl; have hcz40_2 : w39.cell? ⟨gb300, 2, none⟩ = some (.string (⟨#[]⟩ : ByteArray)) := (blk_cell BK300.out 2).trans rfl; have hcz40_3 : w39.cell? ⟨gb300, 3, none⟩ = some (.string (⟨#[]⟩ : ByteArray)) := (blk_cell BK300.out 3).trans rfl; have hcz40_4 : w39.cell? ⟨gb300, 4, none⟩ = some (.bool false) := (blk_cell BK300.out 4).trans rfl; have hfz40_0 := blk_frozen BK300.out 0; have hfz40_1 := blk_frozen BK300.out 1; have hfz40_2 := blk_frozen BK300.out 2; have hfz40_3 := blk_frozen BK300.out 3; have hfz40_4 := blk_frozen BK300.out 4) | ((with_reducible refine gate_callee (f := 10) rfl ?_); refine goesL_ (some 67) rfl rfl Try.func10 (by kernel_rfl) rfl #[.string (rdOf ByteArray.empty y290 x54_3), .string (rdOf ByteArray.empty y286 x47_2)] rfl (by (try simp only [List.map_toArray, List.map_cons, List.map_nil]); first | done | rfl | (simp only [List.length_drop, List.length_take]; rfl)) ?_; (with_reducible refine (parallaxref6_Target.calls k3 (rdOf ByteArray.empty y290 x54_3) (rdOf ByteArray.empty y286 x47_2) t301 t302 t303 t304 t305 t306 _ A36.out).mono ?_); rintro e w41 ⟨rfl, hb⟩; refine ⟨_, rfl, ?_⟩; have n0_ := Aside0.mk (Kd.R_below (by (with_reducible repeat (first | apply Kd.R_alloc | apply Kd.R_drewN | apply Kd.R_drew)); exact (Kd.R_mono (Kd.R_far (p := ⟨gb300, 4, none⟩) (Kd.R_far (p := ⟨gb300, 3, none⟩) (Kd.R_far (p := ⟨gb300, 2, none⟩) (Kd.R_far (p := ⟨gb300, 1, none⟩) (Kd.R_far (p := ⟨gb300, 0, none⟩) (Kd.R_types HO_45.out BK300.out (by decide)) (fun _ hk => (by first | exact hk.2 | exact True.intro)) (.int .i64 t294)) (fun _ hk => (by first | exact hk.2 | exact True.intro)) (.string t295)) (fun _ hk => (by first | exact hk.2 | exact True.intro)) (.string t296)) (fun _ hk => (by first | exact hk.2 | exact True.intro)) (.string t297)) (fun _ hk => (by first | exact hk.2 | exact True.intro)) (.bool t298)) (fun _ h_ => h_.1))) hb); have n1_ := Aside0.mk (Kd.R_below (by (with_reducible repeat (first | apply Kd.R_alloc | apply Kd.R_drewN | apply Kd.R_drew)); exact (Kd.R_mono (Kd.R_far (p := ⟨gb300, 4, none⟩) (Kd.R_far (p := ⟨gb300, 3, none⟩) (Kd.R_far (p := ⟨gb300, 2, none⟩) (Kd.R_far (p := ⟨gb300, 1, none⟩) (Kd.R_far (p := ⟨gb300, 0, none⟩) (Kd.R_types HO_52.out BK300.out (by decide)) (fun _ hk => (by first | exact hk.2 | exact True.intro)) (.int .i64 t294)) (fun _ hk => (by first | exact hk.2 | exact True.intro)) (.string t295)) (fun _ hk => (by first | exact hk.2 | exact True.intro)) (.string t296)) (fun _ hk => (by first | exact hk.2 | exact True.intro)) (.string t297)) (fun _ hk => (by first | exact hk.2 | exact True.intro)) (.bool t298)) (fun _ h_ => h_.1))) hb); have n2_ := Aside0.mk (blk_below (g := gb300) (o := .cells #[.int .i64 t294, .string t295, .string t296, .string t297, .bool t298] 27 (0, 0)) (by (with_reducible repeat (first | refine blk_drewN ?_ _ | refine blk_drew ?_ | refine blk_alloc ?_ _)); refine blk_put (cs := #[.int .i64 t294, .string t295, .string t296, .string t297, .bool false]) ?_ 4 _ rfl; (with_reducible repeat (first | refine blk_drewN ?_ _ | refine blk_drew ?_ | refine blk_alloc ?_ _)); refine blk_put (cs := #[.int .i64 t294, .string t295, .string t296, .string (⟨#[]⟩ : ByteArray), .bool false]) ?_ 3 _ rfl; (with_reducible repeat (first | refine blk_drewN ?_ _ | refine blk_drew ?_ | refine blk_alloc ?_ _)); refine blk_put (cs := #[.int .i64 t294, .string t295, .string (⟨#[]⟩ : ByteArray), .string (⟨#[]⟩ : ByteArray), .bool false]) ?_ 2 _ rfl; (with_reducible repeat (first | refine blk_drewN ?_ _ | refine blk_drew ?_ | refine blk_alloc ?_ _)); refine blk_put (cs := #[.int .i64 t294, .string (⟨#[]⟩ : ByteArray), .string (⟨#[]⟩ : ByteArray), .string (⟨#[]⟩ : ByteArray), .bool false]) ?_ 1 _ rfl; (with_reducible repeat (first | refine blk_drewN ?_ _ | refine blk_drew ?_ | refine blk_alloc ?_ _)); refine blk_put (cs := #[.int .i64 0, .string (⟨#[]⟩ : ByteArray), .string (⟨#[]⟩ : ByteArray), .string (⟨#[]⟩ : ByteArray), .bool false]) ?_ 0 _ rfl; (with_reducible repeat (first | refine blk_drewN ?_ _ | refine blk_drew ?_ | refine blk_alloc ?_ _)); exact BK300.out) hb); have n3_ := Aside0.mk (below_step (by repeat (first | (with_reducible first | exact HB.out | apply below_alloc | apply pw_below_drewN | apply below_drew1 | refine below_set ?_ GE300.out) | exact HB.out)) hb); clear HO_45; clear HO_52; clear BK300; clear HB; have HO_45 := n0_; have HO_52 := n1_; have BK300 := n2_; have HB := n3_; clear n0_ n1_ n2_ n3_; (try clear hb); (try clear hb2); (try clear hk); (try clear hi)) | ((with_reducible refine gate_dst (N := 15) rfl ?_); (try (refine gate_guard (by rfl) ?_; dsimp only)); refine box_event ?hg (N := 15) ?hd (cs := #[.int .i64 0, .string (⟨#[]⟩ : ByteArray), .string (⟨#[]⟩ : ByteArray), .string (⟨#[]⟩ : ByteArray), .bool false]) (t := 27) ?hr ?_; (case hd => rfl); (case hg => rfl); (case hr => first | (go_simp; done) | (go_simp; rfl)); intro gb307 hg w42 hbox hb; have n0_ := Aside0.mk (Kd.R_below (by (with_reducible repeat (first | apply Kd.R_alloc | apply Kd.R_drewN | apply Kd.R_drew)); exact HO_45.out) hb); have n1_ := Aside0.mk (Kd.R_below (by (with_reducible repeat (first | apply Kd.R_alloc | apply Kd.R_drewN | apply Kd.R_drew)); exact HO_52.out) hb); have n2_ := Aside0.mk (blk_below (g := gb300) (o := .cells #[.int .i64 t294, .string t295, .string t296, .string t297, .bool t298] 27 (0, 0)) (by (with_reducible repeat (first | refine blk_drewN ?_ _ | refine blk_drew ?_ | refine blk_alloc ?_ _)); exact BK300.out) hb); have n3_ := Aside0.mk (below_step (by repeat (first | (with_reducible first | exact HB.out | apply below_alloc | apply pw_below_drewN | apply below_drew1 | refine below_set ?_ GE300.out) | exact HB.out)) hb); have n4_ := Aside0.mk (hbox); have n5_ := Aside0.mk ((by rw [hg]; exact (below_size (by repeat (first | (with_reducible first | exact HB.out | apply below_alloc | apply pw_below_drewN | apply below_drew1 | refine below_set ?_ GE300.out) | exact HB.out))) : w.heap.size ≤ gb307)); have n6_ := Aside0.mk ((by rw [hg]; exact (below_size (by repeat (first | (with_reducible first | exact HB.out | apply below_alloc | apply pw_below_drewN | apply below_drew1 | refine below_set ?_ GE300.out) | exact HB.out))) : w.heap.size ≤ gb307)); have n7_ := Aside0.mk ((by rw [hg]; exact Nat.ne_of_lt (blk_lt (g := gb300) (o := .cells #[.int .i64 t294, .string t295, .string t296, .string t297, .bool t298] 27 (0, 0)) (by (with_reducible repeat (first | refine blk_drewN ?_ _ | refine blk_drew ?_ | refine blk_alloc ?_ _)); exact BK300.out)) : gb300 ≠ gb307)); have n8_ := Aside0.mk ((by rw [hg]; exact Nat.ne_of_gt (blk_lt (g := gb300) (o := .cells #[.int .i64 t294, .string t295, .string t296, .string t297, .bool t298] 27 (0, 0)) (by (with_reducible repeat (first | refine blk_drewN ?_ _ | refine blk_drew ?_ | refine blk_alloc ?_ _)); exact BK300.out)) : gb307 ≠ gb300)); clear HO_45; clear HO_52; clear BK300; clear HB; have HO_45 := n0_; have HO_52 := n1_; have BK300 := n2_; have HB := n3_; have BK307 := n4_; have GW307 := n5_; have GE307 := n6_; have NB300_307 := n7_; have NB307_300 := n8_; clear n0_ n1_ n2_ n3_ n4_ n5_ n6_ n7_ n8_; clear hb hbox hg; have hnb43 := NB307_300.out; have hnc43 := NB300_307.out; have hcz44_0 : w42.cell? ⟨gb307, 0, none⟩ = some (.int .i64 0) := (blk_cell BK307.out 0).trans rfl; have hcz44_1 : w42.cell? ⟨gb307, 1, none⟩ = some (.string (⟨#[]⟩ : ByteArray)) := (blk_cell BK307.out 1).trans rfl; have hcz44_2 : w42.cell? ⟨gb307, 2, none⟩ = some (.string (⟨#[]⟩ : ByteArray)) := (blk_cell BK307.out 2).trans rfl; have hcz44_3 : w42.cell? ⟨gb307, 3, none⟩ = some (.string (⟨#[]⟩ : ByteArray)) := (blk_cell BK307.out 3).trans rfl; have hcz44_4 : w42.cell? ⟨gb307, 4, none⟩ = some (.bool false) := (blk_cell BK307.out 4).trans rfl; have hfz44_0 := blk_frozen BK307.out 0; have hfz44_1 := blk_frozen BK307.out 1; have hfz44_2 := blk_frozen BK307.out 2; have hfz44_3 := blk_frozen BK307.out 3; have hfz44_4 := blk_frozen BK307.out 4))
                  (try simp only [Act.put, List.setIfInBounds_toArray, List.set_cons_zero, List.set_cons_succ])
                  go_cut [84] (fun v84 wc => ∃ (kq : Nat) (x84_36 : Bool), v84 = .bool x84_36 ∧ Aside0 (parallaxlaw7_TargetTells.j3 kq a0 a2 a3 (rdOf ByteArray.empty y286 x47_2) y286 (y286.length : Int) x47_2 y290 (y290.length : Int) x54_3 x84_36 = some r) ∧ Aside0 (kq ≤ k3) ∧ Aside0 (Kd.R Kd.string 9 wc w.heap.size (fun k_ => some k_ ≠ ((.slice (some ad293) y290.length co31) : Value).ownBlock) (.slice (some ad289) y286.length co25) y286) ∧ Aside0 (Kd.R Kd.string 9 wc w.heap.size (fun k_ => some k_ ≠ ((.slice (some ad289) y286.length co25) : Value).ownBlock) (.slice (some ad293) y290.length co31) y290) ∧ Aside0 (wc.heap[gb300]? = some (.cells #[.int .i64 t294, .string t295, .string t296, .string t297, .bool t298] 27 (0, 0))) ∧ Aside0 (wc.heap[gb307]? = some (.cells #[.int .i64 t301, .string t302, .string t303, .string t304, .bool t305] 27 (0, 0))) ∧ Aside0 (Below w.heap.size w wc))
                  case first =>
                   have H := HC37.out
                   clear HC37
                   by_cases c45 : (!(t294 == t301) || (!(t295.toList == t302.toList) || (!(t296.toList == t303.toList) || (!(t297.toList == t304.toList) || (!(t298 == t305)))))) = true
                   ·rw [if_pos c45] at H
                    have c45b0 : (!(t294 == t301) || (!(t295.toList == t302.toList) || (!(t296.toList == t303.toList) || (!(t297.toList == t304.toList) || (!(t298 == t305)))))) = true := c45
                    clear c45
                    (first | rw [c45b0] | (simp only [i64_w, i32_w]; rw [c45b0]) | skip)
                    have H' := Aside0.mk H
                    clear H
                    try go_wp2
                    have n0_ : Aside0 (Kd.R Kd.string 9 (((((w42.setCell ⟨gb307, 0, none⟩ (.int .i64 t301)).setCell ⟨gb307, 1, none⟩ (.string t302)).setCell ⟨gb307, 2, none⟩ (.string t303)).setCell ⟨gb307, 3, none⟩ (.string t304)).setCell ⟨gb307, 4, none⟩ (.bool t305)) w.heap.size (fun k_ => some k_ ≠ (.slice (some ad293) y290.length co31 : Value).ownBlock) (.slice (some ad289) y286.length co25) y286) := ⟨by (with_reducible repeat (first | apply Kd.R_alloc | apply Kd.R_drewN | apply Kd.R_drew)); exact Kd.R_mono (Kd.R_far (p := ⟨gb307, 4, none⟩) (Kd.R_far (p := ⟨gb307, 3, none⟩) (Kd.R_far (p := ⟨gb307, 2, none⟩) (Kd.R_far (p := ⟨gb307, 1, none⟩) (Kd.R_far (p := ⟨gb307, 0, none⟩) (Kd.R_types HO_45.out BK307.out (by decide)) (fun _ hk => (by first | exact hk.2 | exact True.intro)) (.int .i64 t301)) (fun _ hk => (by first | exact hk.2 | exact True.intro)) (.string t302)) (fun _ hk => (by first | exact hk.2 | exact True.intro)) (.string t303)) (fun _ hk => (by first | exact hk.2 | exact True.intro)) (.string t304)) (fun _ hk => (by first | exact hk.2 | exact True.intro)) (.bool t305)) (fun _ hk => hk.1)⟩
                    have n1_ : Aside0 (Kd.R Kd.string 9 (((((w42.setCell ⟨gb307, 0, none⟩ (.int .i64 t301)).setCell ⟨gb307, 1, none⟩ (.string t302)).setCell ⟨gb307, 2, none⟩ (.string t303)).setCell ⟨gb307, 3, none⟩ (.string t304)).setCell ⟨gb307, 4, none⟩ (.bool t305)) w.heap.size (fun k_ => some k_ ≠ (.slice (some ad289) y286.length co25 : Value).ownBlock) (.slice (some ad293) y290.length co31) y290) := ⟨by (with_reducible repeat (first | apply Kd.R_alloc | apply Kd.R_drewN | apply Kd.R_drew)); exact Kd.R_mono (Kd.R_far (p := ⟨gb307, 4, none⟩) (Kd.R_far (p := ⟨gb307, 3, none⟩) (Kd.R_far (p := ⟨gb307, 2, none⟩) (Kd.R_far (p := ⟨gb307, 1, none⟩) (Kd.R_far (p := ⟨gb307, 0, none⟩) (Kd.R_types HO_52.out BK307.out (by decide)) (fun _ hk => (by first | exact hk.2 | exact True.intro)) (.int .i64 t301)) (fun _ hk => (by first | exact hk.2 | exact True.intro)) (.string t302)) (fun _ hk => (by first | exact hk.2 | exact True.intro)) (.string t303)) (fun _ hk => (by first | exact hk.2 | exact True.intro)) (.string t304)) (fun _ hk => (by first | exact hk.2 | exact True.intro)) (.bool t305)) (fun _ hk => hk.1)⟩
                    have n2_ : Aside0 ((((((w42.setCell ⟨gb307, 0, none⟩ (.int .i64 t301)).setCell ⟨gb307, 1, none⟩ (.string t302)).setCell ⟨gb307, 2, none⟩ (.string t303)).setCell ⟨gb307, 3, none⟩ (.string t304)).setCell ⟨gb307, 4, none⟩ (.bool t305)).heap[gb300]? = some (.cells #[.int .i64 t294, .string t295, .string t296, .string t297, .bool t298] 27 (0, 0))) := ⟨by (repeat ((with_reducible repeat (first | refine blk_drewN ?_ _ | refine blk_drew ?_ | refine blk_alloc ?_ _)); refine blk_far ?_ NB300_307.out _)); (with_reducible repeat (first | refine blk_drewN ?_ _ | refine blk_drew ?_ | refine blk_alloc ?_ _)); exact BK300.out⟩
                    have n3_ : Aside0 ((((((w42.setCell ⟨gb307, 0, none⟩ (.int .i64 t301)).setCell ⟨gb307, 1, none⟩ (.string t302)).setCell ⟨gb307, 2, none⟩ (.string t303)).setCell ⟨gb307, 3, none⟩ (.string t304)).setCell ⟨gb307, 4, none⟩ (.bool t305)).heap[gb307]? = some (.cells #[.int .i64 t301, .string t302, .string t303, .string t304, .bool t305] 27 (0, 0))) := ⟨by (with_reducible repeat (first | refine blk_drewN ?_ _ | refine blk_drew ?_ | refine blk_alloc ?_ _)); refine blk_put (cs := #[.int .i64 t301, .string t302, .string t303, .string t304, .bool false]) ?_ 4 _ rfl; (with_reducible repeat (first | refine blk_drewN ?_ _ | refine blk_drew ?_ | refine blk_alloc ?_ _)); refine blk_put (cs := #[.int .i64 t301, .string t302, .string t303, .string (⟨#[]⟩ : ByteArray), .bool false]) ?_ 3 _ rfl; (with_reducible repeat (first | refine blk_drewN ?_ _ | refine blk_drew ?_ | refine blk_alloc ?_ _)); refine blk_put (cs := #[.int .i64 t301, .string t302, .string (⟨#[]⟩ : ByteArray), .string (⟨#[]⟩ : ByteArray), .bool false]) ?_ 2 _ rfl; (with_reducible repeat (first | refine blk_drewN ?_ _ | refine blk_drew ?_ | refine blk_alloc ?_ _)); refine blk_put (cs := #[.int .i64 t301, .string (⟨#[]⟩ : ByteArray), .string (⟨#[]⟩ : ByteArray), .string (⟨#[]⟩ : ByteArray), .bool false]) ?_ 1 _ rfl; (with_reducible repeat (first | refine blk_drewN ?_ _ | refine blk_drew ?_ | refine blk_alloc ?_ _)); refine blk_put (cs := #[.int .i64 0, .string (⟨#[]⟩ : ByteArray), .string (⟨#[]⟩ : ByteArray), .string (⟨#[]⟩ : ByteArray), .bool false]) ?_ 0 _ rfl; (with_reducible repeat (first | refine blk_drewN ?_ _ | refine blk_drew ?_ | refine blk_alloc ?_ _)); exact BK307.out⟩
                    have n4_ : Aside0 (Below w.heap.size w (((((w42.setCell ⟨gb307, 0, none⟩ (.int .i64 t301)).setCell ⟨gb307, 1, none⟩ (.string t302)).setCell ⟨gb307, 2, none⟩ (.string t303)).setCell ⟨gb307, 3, none⟩ (.string t304)).setCell ⟨gb307, 4, none⟩ (.bool t305))) := ⟨by repeat (first | (with_reducible first | exact HB.out | apply below_alloc | apply pw_below_drewN | apply below_drew1 | refine below_set ?_ GE300.out | refine below_set ?_ GE307.out) | exact HB.out)⟩
                    (try clear HO_45)
                    (try clear HO_52)
                    (try clear BK300)
                    (try clear BK307)
                    (try clear HB)
                    generalize (((((w42.setCell ⟨gb307, 0, none⟩ (.int .i64 t301)).setCell ⟨gb307, 1, none⟩ (.string t302)).setCell ⟨gb307, 2, none⟩ (.string t303)).setCell ⟨gb307, 3, none⟩ (.string t304)).setCell ⟨gb307, 4, none⟩ (.bool t305)) = w46 at n0_ n1_ n2_ n3_ n4_ ⊢
                    have HO_45 := n0_
                    have HO_52 := n1_
                    have BK300 := n2_
                    have BK307 := n3_
                    have HB := n4_
                    clear n0_ n1_ n2_ n3_ n4_
                    have n0_ := Aside0.mk (Kd.R_drew HO_45.out)
                    have n1_ := Aside0.mk (Kd.R_drew HO_52.out)
                    have n2_ := Aside0.mk (blk_drew BK300.out)
                    have n3_ := Aside0.mk (blk_drew BK307.out)
                    have n4_ := Aside0.mk (below_drew1 HB.out)
                    clear HO_45
                    clear HO_52
                    clear BK300
                    clear BK307
                    clear HB
                    have HO_45 := n0_
                    have HO_52 := n1_
                    have BK300 := n2_
                    have BK307 := n3_
                    have HB := n4_
                    clear n0_ n1_ n2_ n3_ n4_
                    refine start_ (n := 15) (S := fun w' => w'.cell? ⟨gb300, 0, none⟩ = some (.int .i64 t294) ∧ w'.cell? ⟨gb300, 1, none⟩ = some (.string t295) ∧ w'.cell? ⟨gb300, 2, none⟩ = some (.string t296) ∧ w'.cell? ⟨gb300, 3, none⟩ = some (.string t297) ∧ w'.cell? ⟨gb300, 4, none⟩ = some (.bool t298) ∧ w'.cell? ⟨gb307, 0, none⟩ = some (.int .i64 t301) ∧ w'.cell? ⟨gb307, 1, none⟩ = some (.string t302) ∧ w'.cell? ⟨gb307, 2, none⟩ = some (.string t303) ∧ w'.cell? ⟨gb307, 3, none⟩ = some (.string t304) ∧ w'.cell? ⟨gb307, 4, none⟩ = some (.bool t305)) (ds := []) #[false, false, false, false, false, false, false, false, false, false, false, false, false, false, false] (by kernel_rfl) rfl rfl ⟨(blk_cell BK300.out 0).trans rfl, (blk_cell BK300.out 1).trans rfl, (blk_cell BK300.out 2).trans rfl, (blk_cell BK300.out 3).trans rfl, (blk_cell BK300.out 4).trans rfl, (blk_cell BK307.out 0).trans rfl, (blk_cell BK307.out 1).trans rfl, (blk_cell BK307.out 2).trans rfl, (blk_cell BK307.out 3).trans rfl, (blk_cell BK307.out 4).trans rfl⟩ (fun hHeld => ?_); refine with_tabW parallaxlaw7_TargetTells.tab13 parallaxlaw7_TargetTells.bits13 (fun HT_ HW_ => ?_)
                    generalize w46.drew = w47 at HO_45 HO_52 BK300 BK307 HB hHeld ⊢
                    refine take_ (i := 0) (N := some 70) (v := ?_) (a' := ?_) #[true, false, false, false, false, false, false, false, false, false, false, false, false, false, false] rfl rfl (take_ofW HT_.out HW_.out (by kernel_rfl)) (fun _ _ _ h => h) (Or.inl ⟨by rfl, ?_⟩) hHeld ?_ ?_
                    rotate_left
                    ·rintro w' ⟨s0, s1, s2, s3, s4, s5, s6, s7, s8, s9⟩
                     go_simp
                     with_reducible rfl
                    rotate_left
                    ·simp only [Act.put, List.setIfInBounds_toArray, List.set_cons_zero, List.set_cons_succ, i64_w, i32_w]
                     rfl
                    refine take_ (i := 1) (N := some 71) (v := ?_) (a' := ?_) #[true, true, false, false, false, false, false, false, false, false, false, false, false, false, false] rfl rfl (take_ofW HT_.out HW_.out (by kernel_rfl)) (fun _ _ _ h => h) (Or.inl ⟨by rfl, ?_⟩) hHeld ?_ ?_
                    rotate_left
                    ·rintro w' ⟨s0, s1, s2, s3, s4, s5, s6, s7, s8, s9⟩
                     go_simp
                     with_reducible rfl
                    rotate_left
                    ·simp only [Act.put, List.setIfInBounds_toArray, List.set_cons_zero, List.set_cons_succ, i64_w, i32_w]
                     rfl
                    refine pure_ (i := 2) (N := some 72) (v := ?_) (a' := ?_) #[true, true, true, false, false, false, false, false, false, false, false, false, false, false, false] rfl rfl (any_of HT_.out (by kernel_rfl)) (fun _ _ _ h => h) (Or.inl ⟨by rfl, ?_⟩) ?_ ?_
                    rotate_left
                    ·intro w'
                     go_simp
                     with_reducible rfl
                    rotate_left
                    ·simp only [Act.put, List.setIfInBounds_toArray, List.set_cons_zero, List.set_cons_succ, i64_w, i32_w]
                     rfl
                    refine pure_ (i := 3) (N := some 73) (v := ?_) (a' := ?_) #[true, true, true, true, false, false, false, false, false, false, false, false, false, false, false] rfl rfl (any_of HT_.out (by kernel_rfl)) (fun _ _ _ h => h) (Or.inl ⟨by rfl, ?_⟩) ?_ ?_
                    rotate_left
                    ·intro w'
                     go_simp
                     with_reducible rfl
                    rotate_left
                    ·simp only [Act.put, List.setIfInBounds_toArray, List.set_cons_zero, List.set_cons_succ, i64_w, i32_w]
                     rfl
                    refine pure_ (i := 4) (N := some 74) (v := undef) (a' := ?_) #[true, true, true, true, true, false, false, false, false, false, false, false, false, false, false] rfl rfl (any_of HT_.out (by kernel_rfl)) (fun _ _ _ h => h) (Or.inr ⟨by rfl, rfl⟩) ?_ ?_
                    rotate_left
                    ·simp only [Act.put, List.setIfInBounds_toArray, List.set_cons_zero, List.set_cons_succ, i64_w, i32_w]
                     rfl
                    refine pure_ (i := 5) (N := some 75) (v := undef) (a' := ?_) #[true, true, true, true, true, true, false, false, false, false, false, false, false, false, false] rfl rfl (any_of HT_.out (by kernel_rfl)) (fun _ _ _ h => h) (Or.inr ⟨by rfl, rfl⟩) ?_ ?_
                    rotate_left
                    ·simp only [Act.put, List.setIfInBounds_toArray, List.set_cons_zero, List.set_cons_succ, i64_w, i32_w]
                     rfl
                    refine pure_ (i := 6) (N := some 76) (v := undef) (a' := ?_) #[true, true, true, true, true, true, true, false, false, false, false, false, false, false, false] rfl rfl (any_of HT_.out (by kernel_rfl)) (fun _ _ _ h => h) (Or.inr ⟨by rfl, rfl⟩) ?_ ?_
                    rotate_left
                    ·simp only [Act.put, List.setIfInBounds_toArray, List.set_cons_zero, List.set_cons_succ, i64_w, i32_w]
                     rfl
                    refine pure_ (i := 7) (N := some 77) (v := ?_) (a' := ?_) #[true, true, true, true, true, true, true, true, false, false, false, false, false, false, false] rfl rfl (any_of HT_.out (by kernel_rfl)) (fun _ _ _ h => h) (Or.inl ⟨by rfl, ?_⟩) ?_ ?_
                    rotate_left
                    ·intro w'
                     go_simp
                     with_reducible rfl
                    rotate_left
                    ·simp only [Act.put, List.setIfInBounds_toArray, List.set_cons_zero, List.set_cons_succ, i64_w, i32_w]
                     rfl
                    refine pure_ (i := 8) (N := some 78) (v := ?_) (a' := ?_) #[true, true, true, true, true, true, true, true, true, false, false, false, false, false, false] rfl rfl (any_of HT_.out (by kernel_rfl)) (fun _ _ _ h => h) (Or.inl ⟨by rfl, ?_⟩) ?_ ?_
                    rotate_left
                    ·intro w'
                     go_simp
                     with_reducible rfl
                    rotate_left
                    ·simp only [Act.put, List.setIfInBounds_toArray, List.set_cons_zero, List.set_cons_succ, i64_w, i32_w]
                     rfl
                    refine pure_ (i := 9) (N := some 79) (v := undef) (a' := ?_) #[true, true, true, true, true, true, true, true, true, true, false, false, false, false, false] rfl rfl (any_of HT_.out (by kernel_rfl)) (fun _ _ _ h => h) (Or.inr ⟨by rfl, rfl⟩) ?_ ?_
                    rotate_left
                    ·simp only [Act.put, List.setIfInBounds_toArray, List.set_cons_zero, List.set_cons_succ, i64_w, i32_w]
                     rfl
                    refine pure_ (i := 10) (N := some 80) (v := undef) (a' := ?_) #[true, true, true, true, true, true, true, true, true, true, true, false, false, false, false] rfl rfl (any_of HT_.out (by kernel_rfl)) (fun _ _ _ h => h) (Or.inr ⟨by rfl, rfl⟩) ?_ ?_
                    rotate_left
                    ·simp only [Act.put, List.setIfInBounds_toArray, List.set_cons_zero, List.set_cons_succ, i64_w, i32_w]
                     rfl
                    refine pure_ (i := 11) (N := some 81) (v := undef) (a' := ?_) #[true, true, true, true, true, true, true, true, true, true, true, true, false, false, false] rfl rfl (any_of HT_.out (by kernel_rfl)) (fun _ _ _ h => h) (Or.inr ⟨by rfl, rfl⟩) ?_ ?_
                    rotate_left
                    ·simp only [Act.put, List.setIfInBounds_toArray, List.set_cons_zero, List.set_cons_succ, i64_w, i32_w]
                     rfl
                    refine pure_ (i := 12) (N := some 82) (v := undef) (a' := ?_) #[true, true, true, true, true, true, true, true, true, true, true, true, true, false, false] rfl rfl (any_of HT_.out (by kernel_rfl)) (fun _ _ _ h => h) (Or.inr ⟨by rfl, rfl⟩) ?_ ?_
                    rotate_left
                    ·simp only [Act.put, List.setIfInBounds_toArray, List.set_cons_zero, List.set_cons_succ, i64_w, i32_w]
                     rfl
                    refine pure_ (i := 13) (N := some 83) (v := undef) (a' := ?_) #[true, true, true, true, true, true, true, true, true, true, true, true, true, true, false] rfl rfl (any_of HT_.out (by kernel_rfl)) (fun _ _ _ h => h) (Or.inr ⟨by rfl, rfl⟩) ?_ ?_
                    rotate_left
                    ·simp only [Act.put, List.setIfInBounds_toArray, List.set_cons_zero, List.set_cons_succ, i64_w, i32_w]
                     rfl
                    refine pure_ (i := 14) (N := some 84) (v := ?_) (a' := ?_) #[true, true, true, true, true, true, true, true, true, true, true, true, true, true, true] rfl rfl (any_of HT_.out (by kernel_rfl)) (fun _ _ _ h => h) (Or.inl ⟨by rfl, ?_⟩) ?_ ?_
                    rotate_left
                    ·intro w'
                     go_simp
                     with_reducible rfl
                    rotate_left
                    ·simp only [Act.put, List.setIfInBounds_toArray, List.set_cons_zero, List.set_cons_succ, i64_w, i32_w]
                     rfl
                    refine done_ (done_of HT_.out (by kernel_rfl)) ?_
                    try go_wp2
                    go_meet
                    case rel => exact ⟨_, (true), (by first | rfl | (simp; done) | (simp [*]; done)), H', ⟨by have := HJ6.out; have := HK2.out; have := HK3.out; first | omega | exact Nat.le_refl _⟩, ⟨by (with_reducible repeat (first | apply Kd.R_alloc | apply Kd.R_drewN | apply Kd.R_drew)); exact HO_45.out⟩, ⟨by (with_reducible repeat (first | apply Kd.R_alloc | apply Kd.R_drewN | apply Kd.R_drew)); exact HO_52.out⟩, ⟨by (with_reducible repeat (first | refine blk_drewN ?_ _ | refine blk_drew ?_ | refine blk_alloc ?_ _)); exact BK300.out⟩, ⟨by (with_reducible repeat (first | refine blk_drewN ?_ _ | refine blk_drew ?_ | refine blk_alloc ?_ _)); exact BK307.out⟩, ⟨by repeat (first | (with_reducible first | exact HB.out | apply below_alloc | apply pw_below_drewN | apply below_drew1 | refine below_set ?_ GE300.out | refine below_set ?_ GE307.out) | exact HB.out)⟩⟩
                   ·rw [if_neg c45] at H
                    have c45b0 : (!(t294 == t301) || (!(t295.toList == t302.toList) || (!(t296.toList == t303.toList) || (!(t297.toList == t304.toList) || (!(t298 == t305)))))) = false := by simpa using c45
                    clear c45
                    (first | rw [c45b0] | (simp only [i64_w, i32_w]; rw [c45b0]) | skip)
                    by_cases c48 : t299 = t306
                    ·rw [if_pos c48] at H
                     have c48b0 : (t299 == t306) = true := beq_iff_eq.mpr c48
                     have c48b1 : (t299 != t306) = false := bne_eq_false_iff_eq.mpr c48
                     clear c48
                     replace H := Option.bind_eq_some_iff.mp H
                     obtain ⟨t308, A490, H⟩ := H
                     (try dsimp only at H)
                     have A49 := Aside0.mk A490
                     clear A490
                     replace H := Option.bind_eq_some_iff.mp H
                     obtain ⟨t309, A500, H⟩ := H
                     (try dsimp only at H)
                     have A50 := Aside0.mk A500
                     clear A500
                     have H' := Aside0.mk H
                     clear H
                     try go_wp2
                     have n0_ : Aside0 (Kd.R Kd.string 9 (((((w42.setCell ⟨gb307, 0, none⟩ (.int .i64 t301)).setCell ⟨gb307, 1, none⟩ (.string t302)).setCell ⟨gb307, 2, none⟩ (.string t303)).setCell ⟨gb307, 3, none⟩ (.string t304)).setCell ⟨gb307, 4, none⟩ (.bool t305)) w.heap.size (fun k_ => some k_ ≠ (.slice (some ad293) y290.length co31 : Value).ownBlock) (.slice (some ad289) y286.length co25) y286) := ⟨by (with_reducible repeat (first | apply Kd.R_alloc | apply Kd.R_drewN | apply Kd.R_drew)); exact Kd.R_mono (Kd.R_far (p := ⟨gb307, 4, none⟩) (Kd.R_far (p := ⟨gb307, 3, none⟩) (Kd.R_far (p := ⟨gb307, 2, none⟩) (Kd.R_far (p := ⟨gb307, 1, none⟩) (Kd.R_far (p := ⟨gb307, 0, none⟩) (Kd.R_types HO_45.out BK307.out (by decide)) (fun _ hk => (by first | exact hk.2 | exact True.intro)) (.int .i64 t301)) (fun _ hk => (by first | exact hk.2 | exact True.intro)) (.string t302)) (fun _ hk => (by first | exact hk.2 | exact True.intro)) (.string t303)) (fun _ hk => (by first | exact hk.2 | exact True.intro)) (.string t304)) (fun _ hk => (by first | exact hk.2 | exact True.intro)) (.bool t305)) (fun _ hk => hk.1)⟩
                     have n1_ : Aside0 (Kd.R Kd.string 9 (((((w42.setCell ⟨gb307, 0, none⟩ (.int .i64 t301)).setCell ⟨gb307, 1, none⟩ (.string t302)).setCell ⟨gb307, 2, none⟩ (.string t303)).setCell ⟨gb307, 3, none⟩ (.string t304)).setCell ⟨gb307, 4, none⟩ (.bool t305)) w.heap.size (fun k_ => some k_ ≠ (.slice (some ad289) y286.length co25 : Value).ownBlock) (.slice (some ad293) y290.length co31) y290) := ⟨by (with_reducible repeat (first | apply Kd.R_alloc | apply Kd.R_drewN | apply Kd.R_drew)); exact Kd.R_mono (Kd.R_far (p := ⟨gb307, 4, none⟩) (Kd.R_far (p := ⟨gb307, 3, none⟩) (Kd.R_far (p := ⟨gb307, 2, none⟩) (Kd.R_far (p := ⟨gb307, 1, none⟩) (Kd.R_far (p := ⟨gb307, 0, none⟩) (Kd.R_types HO_52.out BK307.out (by decide)) (fun _ hk => (by first | exact hk.2 | exact True.intro)) (.int .i64 t301)) (fun _ hk => (by first | exact hk.2 | exact True.intro)) (.string t302)) (fun _ hk => (by first | exact hk.2 | exact True.intro)) (.string t303)) (fun _ hk => (by first | exact hk.2 | exact True.intro)) (.string t304)) (fun _ hk => (by first | exact hk.2 | exact True.intro)) (.bool t305)) (fun _ hk => hk.1)⟩
                     have n2_ : Aside0 ((((((w42.setCell ⟨gb307, 0, none⟩ (.int .i64 t301)).setCell ⟨gb307, 1, none⟩ (.string t302)).setCell ⟨gb307, 2, none⟩ (.string t303)).setCell ⟨gb307, 3, none⟩ (.string t304)).setCell ⟨gb307, 4, none⟩ (.bool t305)).heap[gb300]? = some (.cells #[.int .i64 t294, .string t295, .string t296, .string t297, .bool t298] 27 (0, 0))) := ⟨by (repeat ((with_reducible repeat (first | refine blk_drewN ?_ _ | refine blk_drew ?_ | refine blk_alloc ?_ _)); refine blk_far ?_ NB300_307.out _)); (with_reducible repeat (first | refine blk_drewN ?_ _ | refine blk_drew ?_ | refine blk_alloc ?_ _)); exact BK300.out⟩
                     have n3_ : Aside0 ((((((w42.setCell ⟨gb307, 0, none⟩ (.int .i64 t301)).setCell ⟨gb307, 1, none⟩ (.string t302)).setCell ⟨gb307, 2, none⟩ (.string t303)).setCell ⟨gb307, 3, none⟩ (.string t304)).setCell ⟨gb307, 4, none⟩ (.bool t305)).heap[gb307]? = some (.cells #[.int .i64 t301, .string t302, .string t303, .string t304, .bool t305] 27 (0, 0))) := ⟨by (with_reducible repeat (first | refine blk_drewN ?_ _ | refine blk_drew ?_ | refine blk_alloc ?_ _)); refine blk_put (cs := #[.int .i64 t301, .string t302, .string t303, .string t304, .bool false]) ?_ 4 _ rfl; (with_reducible repeat (first | refine blk_drewN ?_ _ | refine blk_drew ?_ | refine blk_alloc ?_ _)); refine blk_put (cs := #[.int .i64 t301, .string t302, .string t303, .string (⟨#[]⟩ : ByteArray), .bool false]) ?_ 3 _ rfl; (with_reducible repeat (first | refine blk_drewN ?_ _ | refine blk_drew ?_ | refine blk_alloc ?_ _)); refine blk_put (cs := #[.int .i64 t301, .string t302, .string (⟨#[]⟩ : ByteArray), .string (⟨#[]⟩ : ByteArray), .bool false]) ?_ 2 _ rfl; (with_reducible repeat (first | refine blk_drewN ?_ _ | refine blk_drew ?_ | refine blk_alloc ?_ _)); refine blk_put (cs := #[.int .i64 t301, .string (⟨#[]⟩ : ByteArray), .string (⟨#[]⟩ : ByteArray), .string (⟨#[]⟩ : ByteArray), .bool false]) ?_ 1 _ rfl; (with_reducible repeat (first | refine blk_drewN ?_ _ | refine blk_drew ?_ | refine blk_alloc ?_ _)); refine blk_put (cs := #[.int .i64 0, .string (⟨#[]⟩ : ByteArray), .string (⟨#[]⟩ : ByteArray), .string (⟨#[]⟩ : ByteArray), .bool false]) ?_ 0 _ rfl; (with_reducible repeat (first | refine blk_drewN ?_ _ | refine blk_drew ?_ | refine blk_alloc ?_ _)); exact BK307.out⟩
                     have n4_ : Aside0 (Below w.heap.size w (((((w42.setCell ⟨gb307, 0, none⟩ (.int .i64 t301)).setCell ⟨gb307, 1, none⟩ (.string t302)).setCell ⟨gb307, 2, none⟩ (.string t303)).setCell ⟨gb307, 3, none⟩ (.string t304)).setCell ⟨gb307, 4, none⟩ (.bool t305))) := ⟨by repeat (first | (with_reducible first | exact HB.out | apply below_alloc | apply pw_below_drewN | apply below_drew1 | refine below_set ?_ GE300.out | refine below_set ?_ GE307.out) | exact HB.out)⟩
                     (try clear HO_45)
                     (try clear HO_52)
                     (try clear BK300)
                     (try clear BK307)
                     (try clear HB)
                     generalize (((((w42.setCell ⟨gb307, 0, none⟩ (.int .i64 t301)).setCell ⟨gb307, 1, none⟩ (.string t302)).setCell ⟨gb307, 2, none⟩ (.string t303)).setCell ⟨gb307, 3, none⟩ (.string t304)).setCell ⟨gb307, 4, none⟩ (.bool t305)) = w51 at n0_ n1_ n2_ n3_ n4_ ⊢
                     have HO_45 := n0_
                     have HO_52 := n1_
                     have BK300 := n2_
                     have BK307 := n3_
                     have HB := n4_
                     clear n0_ n1_ n2_ n3_ n4_
                     have n0_ := Aside0.mk (Kd.R_drew HO_45.out)
                     have n1_ := Aside0.mk (Kd.R_drew HO_52.out)
                     have n2_ := Aside0.mk (blk_drew BK300.out)
                     have n3_ := Aside0.mk (blk_drew BK307.out)
                     have n4_ := Aside0.mk (below_drew1 HB.out)
                     clear HO_45
                     clear HO_52
                     clear BK300
                     clear BK307
                     clear HB
                     have HO_45 := n0_
                     have HO_52 := n1_
                     have BK300 := n2_
                     have BK307 := n3_
                     have HB := n4_
                     clear n0_ n1_ n2_ n3_ n4_
                     refine start_ (n := 15) (S := fun w' => w'.cell? ⟨gb300, 0, none⟩ = some (.int .i64 t294) ∧ w'.cell? ⟨gb300, 1, none⟩ = some (.string t295) ∧ w'.cell? ⟨gb300, 2, none⟩ = some (.string t296) ∧ w'.cell? ⟨gb300, 3, none⟩ = some (.string t297) ∧ w'.cell? ⟨gb300, 4, none⟩ = some (.bool t298) ∧ w'.cell? ⟨gb307, 0, none⟩ = some (.int .i64 t301) ∧ w'.cell? ⟨gb307, 1, none⟩ = some (.string t302) ∧ w'.cell? ⟨gb307, 2, none⟩ = some (.string t303) ∧ w'.cell? ⟨gb307, 3, none⟩ = some (.string t304) ∧ w'.cell? ⟨gb307, 4, none⟩ = some (.bool t305)) (ds := []) #[false, false, false, false, false, false, false, false, false, false, false, false, false, false, false] (by kernel_rfl) rfl rfl ⟨(blk_cell BK300.out 0).trans rfl, (blk_cell BK300.out 1).trans rfl, (blk_cell BK300.out 2).trans rfl, (blk_cell BK300.out 3).trans rfl, (blk_cell BK300.out 4).trans rfl, (blk_cell BK307.out 0).trans rfl, (blk_cell BK307.out 1).trans rfl, (blk_cell BK307.out 2).trans rfl, (blk_cell BK307.out 3).trans rfl, (blk_cell BK307.out 4).trans rfl⟩ (fun hHeld => ?_); refine with_tabW parallaxlaw7_TargetTells.tab13 parallaxlaw7_TargetTells.bits13 (fun HT_ HW_ => ?_)
                     generalize w51.drew = w52 at HO_45 HO_52 BK300 BK307 HB hHeld ⊢
                     refine take_ (i := 0) (N := some 70) (v := ?_) (a' := ?_) #[true, false, false, false, false, false, false, false, false, false, false, false, false, false, false] rfl rfl (take_ofW HT_.out HW_.out (by kernel_rfl)) (fun _ _ _ h => h) (Or.inl ⟨by rfl, ?_⟩) hHeld ?_ ?_
                     rotate_left
                     ·rintro w' ⟨s0, s1, s2, s3, s4, s5, s6, s7, s8, s9⟩
                      go_simp
                      with_reducible rfl
                     rotate_left
                     ·simp only [Act.put, List.setIfInBounds_toArray, List.set_cons_zero, List.set_cons_succ, i64_w, i32_w]
                      rfl
                     refine take_ (i := 1) (N := some 71) (v := ?_) (a' := ?_) #[true, true, false, false, false, false, false, false, false, false, false, false, false, false, false] rfl rfl (take_ofW HT_.out HW_.out (by kernel_rfl)) (fun _ _ _ h => h) (Or.inl ⟨by rfl, ?_⟩) hHeld ?_ ?_
                     rotate_left
                     ·rintro w' ⟨s0, s1, s2, s3, s4, s5, s6, s7, s8, s9⟩
                      go_simp
                      with_reducible rfl
                     rotate_left
                     ·simp only [Act.put, List.setIfInBounds_toArray, List.set_cons_zero, List.set_cons_succ, i64_w, i32_w]
                      rfl
                     refine pure_ (i := 2) (N := some 72) (v := ?_) (a' := ?_) #[true, true, true, false, false, false, false, false, false, false, false, false, false, false, false] rfl rfl (any_of HT_.out (by kernel_rfl)) (fun _ _ _ h => h) (Or.inl ⟨by rfl, ?_⟩) ?_ ?_
                     rotate_left
                     ·intro w'
                      go_simp
                      with_reducible rfl
                     rotate_left
                     ·simp only [Act.put, List.setIfInBounds_toArray, List.set_cons_zero, List.set_cons_succ, i64_w, i32_w]
                      rfl
                     refine pure_ (i := 3) (N := some 73) (v := ?_) (a' := ?_) #[true, true, true, true, false, false, false, false, false, false, false, false, false, false, false] rfl rfl (any_of HT_.out (by kernel_rfl)) (fun _ _ _ h => h) (Or.inl ⟨by rfl, ?_⟩) ?_ ?_
                     rotate_left
                     ·intro w'
                      go_simp
                      with_reducible rfl
                     rotate_left
                     ·simp only [Act.put, List.setIfInBounds_toArray, List.set_cons_zero, List.set_cons_succ, i64_w, i32_w]
                      rfl
                     refine pure_ (i := 4) (N := some 74) (v := ?_) (a' := ?_) #[true, true, true, true, true, false, false, false, false, false, false, false, false, false, false] rfl rfl (any_of HT_.out (by kernel_rfl)) (fun _ _ _ h => h) (Or.inl ⟨by rfl, ?_⟩) ?_ ?_
                     rotate_left
                     ·intro w'
                      go_simp
                      with_reducible rfl
                     rotate_left
                     ·simp only [Act.put, List.setIfInBounds_toArray, List.set_cons_zero, List.set_cons_succ, i64_w, i32_w]
                      rfl
                     refine pure_ (i := 5) (N := some 75) (v := ?_) (a' := ?_) #[true, true, true, true, true, true, false, false, false, false, false, false, false, false, false] rfl rfl (any_of HT_.out (by kernel_rfl)) (fun _ _ _ h => h) (Or.inl ⟨by rfl, ?_⟩) ?_ ?_
                     rotate_left
                     ·intro w'
                      go_simp
                      with_reducible rfl
                     rotate_left
                     ·simp only [Act.put, List.setIfInBounds_toArray, List.set_cons_zero, List.set_cons_succ, i64_w, i32_w]
                      rfl
                     refine pure_ (i := 6) (N := some 76) (v := ?_) (a' := ?_) #[true, true, true, true, true, true, true, false, false, false, false, false, false, false, false] rfl rfl (any_of HT_.out (by kernel_rfl)) (fun _ _ _ h => h) (Or.inl ⟨by rfl, ?_⟩) ?_ ?_
                     rotate_left
                     ·intro w'
                      go_simp
                      with_reducible rfl
                     rotate_left
                     ·simp only [Act.put, List.setIfInBounds_toArray, List.set_cons_zero, List.set_cons_succ, i64_w, i32_w]
                      rfl
                     refine pure_ (i := 7) (N := some 77) (v := ?_) (a' := ?_) #[true, true, true, true, true, true, true, true, false, false, false, false, false, false, false] rfl rfl (any_of HT_.out (by kernel_rfl)) (fun _ _ _ h => h) (Or.inl ⟨by rfl, ?_⟩) ?_ ?_
                     rotate_left
                     ·intro w'
                      go_simp
                      with_reducible rfl
                     rotate_left
                     ·simp only [Act.put, List.setIfInBounds_toArray, List.set_cons_zero, List.set_cons_succ, i64_w, i32_w]
                      rfl
                     refine pure_ (i := 8) (N := some 78) (v := ?_) (a' := ?_) #[true, true, true, true, true, true, true, true, true, false, false, false, false, false, false] rfl rfl (any_of HT_.out (by kernel_rfl)) (fun _ _ _ h => h) (Or.inl ⟨by rfl, ?_⟩) ?_ ?_
                     rotate_left
                     ·intro w'
                      go_simp
                      with_reducible rfl
                     rotate_left
                     ·simp only [Act.put, List.setIfInBounds_toArray, List.set_cons_zero, List.set_cons_succ, i64_w, i32_w]
                      rfl
                     refine take_ (i := 9) (N := some 79) (v := ?_) (a' := ?_) #[true, true, true, true, true, true, true, true, true, true, false, false, false, false, false] rfl rfl (take_ofW HT_.out HW_.out (by kernel_rfl)) (fun _ _ _ h => h) (Or.inl ⟨by rfl, ?_⟩) hHeld ?_ ?_
                     rotate_left
                     ·rintro w' ⟨s0, s1, s2, s3, s4, s5, s6, s7, s8, s9⟩
                      go_simp
                      with_reducible rfl
                     rotate_left
                     ·simp only [Act.put, List.setIfInBounds_toArray, List.set_cons_zero, List.set_cons_succ, i64_w, i32_w]
                      rfl
                     refine take_ (i := 11) (N := some 81) (v := ?_) (a' := ?_) #[true, true, true, true, true, true, true, true, true, true, false, true, false, false, false] rfl rfl (take_ofW HT_.out HW_.out (by kernel_rfl)) (fun _ _ _ h => h) (Or.inl ⟨by rfl, ?_⟩) hHeld ?_ ?_
                     rotate_left
                     ·rintro w' ⟨s0, s1, s2, s3, s4, s5, s6, s7, s8, s9⟩
                      go_simp
                      with_reducible rfl
                     rotate_left
                     ·simp only [Act.put, List.setIfInBounds_toArray, List.set_cons_zero, List.set_cons_succ, i64_w, i32_w]
                      rfl
                     refine one_ (i := 10) (N := some 80) #[true, true, true, true, true, true, true, true, true, true, true, true, false, false, false] rfl rfl (one_of HT_.out (by kernel_rfl)) (by decide) (fun K hK => ?_)
                     refine goes_ Try.func11 (by kernel_rfl) rfl #[.agg #[.int .i64 t294, .string t295, .string t296, .string t297, .bool t298]] (by rfl) rfl rfl (by (try simp only [List.map_toArray, List.map_cons, List.map_nil]); first | done | rfl | (simp only [List.length_drop, List.length_take]; rfl)) ?_
                     with_reducible refine (target_Put.calls k3 t294 t295 t296 t297 t298 t308 _ A49.out).mono ?_
                     rintro e w53 ⟨rfl, hb⟩
                     refine ⟨_, rfl, ?_⟩
                     have n0_ := Aside0.mk (Kd.R_below (by (with_reducible repeat (first | apply Kd.R_alloc | apply Kd.R_drewN | apply Kd.R_drew)); exact HO_45.out) hb)
                     have n1_ := Aside0.mk (Kd.R_below (by (with_reducible repeat (first | apply Kd.R_alloc | apply Kd.R_drewN | apply Kd.R_drew)); exact HO_52.out) hb)
                     have n2_ := Aside0.mk (blk_below (g := gb300) (o := .cells #[.int .i64 t294, .string t295, .string t296, .string t297, .bool t298] 27 (0, 0)) (by (with_reducible repeat (first | refine blk_drewN ?_ _ | refine blk_drew ?_ | refine blk_alloc ?_ _)); exact BK300.out) hb)
                     have n3_ := Aside0.mk (blk_below (g := gb307) (o := .cells #[.int .i64 t301, .string t302, .string t303, .string t304, .bool t305] 27 (0, 0)) (by (with_reducible repeat (first | refine blk_drewN ?_ _ | refine blk_drew ?_ | refine blk_alloc ?_ _)); exact BK307.out) hb)
                     have n4_ := Aside0.mk (below_step (by repeat (first | (with_reducible first | exact HB.out | apply below_alloc | apply pw_below_drewN | apply below_drew1 | refine below_set ?_ GE300.out | refine below_set ?_ GE307.out) | exact HB.out)) hb)
                     clear HO_45
                     clear HO_52
                     clear BK300
                     clear BK307
                     clear HB
                     have HO_45 := n0_
                     have HO_52 := n1_
                     have BK300 := n2_
                     have BK307 := n3_
                     have HB := n4_
                     clear n0_ n1_ n2_ n3_ n4_
                     (try clear hb)
                     (try clear hb2)
                     (try clear hk)
                     (try clear hi)
                     refine hK.out _ _ ⟨(blk_cell BK300.out 0).trans rfl, (blk_cell BK300.out 1).trans rfl, (blk_cell BK300.out 2).trans rfl, (blk_cell BK300.out 3).trans rfl, (blk_cell BK300.out 4).trans rfl, (blk_cell BK307.out 0).trans rfl, (blk_cell BK307.out 1).trans rfl, (blk_cell BK307.out 2).trans rfl, (blk_cell BK307.out 3).trans rfl, (blk_cell BK307.out 4).trans rfl⟩ (fun hHeld => ?_)
                     clear hK K
                     refine norm_ (a' := ?_) ?_ ?_
                     rotate_left
                     ·show Act.put _ (some 80) _ = _
                      simp only [Act.put, List.setIfInBounds_toArray, List.set_cons_zero, List.set_cons_succ, i64_w, i32_w]
                      rfl
                     refine one_ (i := 12) (N := some 82) #[true, true, true, true, true, true, true, true, true, true, true, true, true, false, false] rfl rfl (one_of HT_.out (by kernel_rfl)) (by decide) (fun K hK => ?_)
                     refine goes_ Try.func12 (by kernel_rfl) rfl #[.agg #[.int .i64 t301, .string t302, .string t303, .string t304, .bool t305]] (by rfl) rfl rfl (by (try simp only [List.map_toArray, List.map_cons, List.map_nil]); first | done | rfl | (simp only [List.length_drop, List.length_take]; rfl)) ?_
                     with_reducible refine (parallaxref6_Put.calls k3 t301 t302 t303 t304 t305 t309 _ A50.out).mono ?_
                     rintro e w54 ⟨rfl, hb⟩
                     refine ⟨_, rfl, ?_⟩
                     have n0_ := Aside0.mk (Kd.R_below (by (with_reducible repeat (first | apply Kd.R_alloc | apply Kd.R_drewN | apply Kd.R_drew)); exact HO_45.out) hb)
                     have n1_ := Aside0.mk (Kd.R_below (by (with_reducible repeat (first | apply Kd.R_alloc | apply Kd.R_drewN | apply Kd.R_drew)); exact HO_52.out) hb)
                     have n2_ := Aside0.mk (blk_below (g := gb300) (o := .cells #[.int .i64 t294, .string t295, .string t296, .string t297, .bool t298] 27 (0, 0)) (by (with_reducible repeat (first | refine blk_drewN ?_ _ | refine blk_drew ?_ | refine blk_alloc ?_ _)); exact BK300.out) hb)
                     have n3_ := Aside0.mk (blk_below (g := gb307) (o := .cells #[.int .i64 t301, .string t302, .string t303, .string t304, .bool t305] 27 (0, 0)) (by (with_reducible repeat (first | refine blk_drewN ?_ _ | refine blk_drew ?_ | refine blk_alloc ?_ _)); exact BK307.out) hb)
                     have n4_ := Aside0.mk (below_step (by repeat (first | (with_reducible first | exact HB.out | apply below_alloc | apply pw_below_drewN | apply below_drew1 | refine below_set ?_ GE300.out | refine below_set ?_ GE307.out) | exact HB.out)) hb)
                     clear HO_45
                     clear HO_52
                     clear BK300
                     clear BK307
                     clear HB
                     have HO_45 := n0_
                     have HO_52 := n1_
                     have BK300 := n2_
                     have BK307 := n3_
                     have HB := n4_
                     clear n0_ n1_ n2_ n3_ n4_
                     (try clear hb)
                     (try clear hb2)
                     (try clear hk)
                     (try clear hi)
                     refine hK.out _ _ ⟨(blk_cell BK300.out 0).trans rfl, (blk_cell BK300.out 1).trans rfl, (blk_cell BK300.out 2).trans rfl, (blk_cell BK300.out 3).trans rfl, (blk_cell BK300.out 4).trans rfl, (blk_cell BK307.out 0).trans rfl, (blk_cell BK307.out 1).trans rfl, (blk_cell BK307.out 2).trans rfl, (blk_cell BK307.out 3).trans rfl, (blk_cell BK307.out 4).trans rfl⟩ (fun hHeld => ?_)
                     clear hK K
                     refine norm_ (a' := ?_) ?_ ?_
                     rotate_left
                     ·show Act.put _ (some 82) _ = _
                      simp only [Act.put, List.setIfInBounds_toArray, List.set_cons_zero, List.set_cons_succ, i64_w, i32_w]
                      rfl
                     refine pure_ (i := 13) (N := some 83) (v := ?_) (a' := ?_) #[true, true, true, true, true, true, true, true, true, true, true, true, true, true, false] rfl rfl (any_of HT_.out (by kernel_rfl)) (fun _ _ _ h => h) (Or.inl ⟨by rfl, ?_⟩) ?_ ?_
                     rotate_left
                     ·intro w'
                      go_simp
                      with_reducible rfl
                     rotate_left
                     ·simp only [Act.put, List.setIfInBounds_toArray, List.set_cons_zero, List.set_cons_succ, i64_w, i32_w]
                      rfl
                     refine pure_ (i := 14) (N := some 84) (v := ?_) (a' := ?_) #[true, true, true, true, true, true, true, true, true, true, true, true, true, true, true] rfl rfl (any_of HT_.out (by kernel_rfl)) (fun _ _ _ h => h) (Or.inl ⟨by rfl, ?_⟩) ?_ ?_
                     rotate_left
                     ·intro w'
                      go_simp
                      with_reducible rfl
                     rotate_left
                     ·simp only [Act.put, List.setIfInBounds_toArray, List.set_cons_zero, List.set_cons_succ, i64_w, i32_w]
                      rfl
                     refine done_ (done_of HT_.out (by kernel_rfl)) ?_
                     try go_wp2
                     go_meet
                     case rel => exact ⟨_, ((t308.toList != t309.toList)), (by first | rfl | (simp; done) | (simp [*]; done)), H', ⟨by have := HJ6.out; have := HK2.out; have := HK3.out; first | omega | exact Nat.le_refl _⟩, ⟨by (with_reducible repeat (first | apply Kd.R_alloc | apply Kd.R_drewN | apply Kd.R_drew)); exact HO_45.out⟩, ⟨by (with_reducible repeat (first | apply Kd.R_alloc | apply Kd.R_drewN | apply Kd.R_drew)); exact HO_52.out⟩, ⟨by (with_reducible repeat (first | refine blk_drewN ?_ _ | refine blk_drew ?_ | refine blk_alloc ?_ _)); exact BK300.out⟩, ⟨by (with_reducible repeat (first | refine blk_drewN ?_ _ | refine blk_drew ?_ | refine blk_alloc ?_ _)); exact BK307.out⟩, ⟨by repeat (first | (with_reducible first | exact HB.out | apply below_alloc | apply pw_below_drewN | apply below_drew1 | refine below_set ?_ GE300.out | refine below_set ?_ GE307.out) | exact HB.out)⟩⟩
                    ·rw [if_neg c48] at H
                     have c48b0 : (t299 == t306) = false := beq_eq_false_iff_ne.mpr c48
                     have c48b1 : (t299 != t306) = true := bne_iff_ne.mpr c48
                     have H' := Aside0.mk H
                     clear H
                     try go_wp2
                     have n0_ : Aside0 (Kd.R Kd.string 9 (((((w42.setCell ⟨gb307, 0, none⟩ (.int .i64 t301)).setCell ⟨gb307, 1, none⟩ (.string t302)).setCell ⟨gb307, 2, none⟩ (.string t303)).setCell ⟨gb307, 3, none⟩ (.string t304)).setCell ⟨gb307, 4, none⟩ (.bool t305)) w.heap.size (fun k_ => some k_ ≠ (.slice (some ad293) y290.length co31 : Value).ownBlock) (.slice (some ad289) y286.length co25) y286) := ⟨by (with_reducible repeat (first | apply Kd.R_alloc | apply Kd.R_drewN | apply Kd.R_drew)); exact Kd.R_mono (Kd.R_far (p := ⟨gb307, 4, none⟩) (Kd.R_far (p := ⟨gb307, 3, none⟩) (Kd.R_far (p := ⟨gb307, 2, none⟩) (Kd.R_far (p := ⟨gb307, 1, none⟩) (Kd.R_far (p := ⟨gb307, 0, none⟩) (Kd.R_types HO_45.out BK307.out (by decide)) (fun _ hk => (by first | exact hk.2 | exact True.intro)) (.int .i64 t301)) (fun _ hk => (by first | exact hk.2 | exact True.intro)) (.string t302)) (fun _ hk => (by first | exact hk.2 | exact True.intro)) (.string t303)) (fun _ hk => (by first | exact hk.2 | exact True.intro)) (.string t304)) (fun _ hk => (by first | exact hk.2 | exact True.intro)) (.bool t305)) (fun _ hk => hk.1)⟩
                     have n1_ : Aside0 (Kd.R Kd.string 9 (((((w42.setCell ⟨gb307, 0, none⟩ (.int .i64 t301)).setCell ⟨gb307, 1, none⟩ (.string t302)).setCell ⟨gb307, 2, none⟩ (.string t303)).setCell ⟨gb307, 3, none⟩ (.string t304)).setCell ⟨gb307, 4, none⟩ (.bool t305)) w.heap.size (fun k_ => some k_ ≠ (.slice (some ad289) y286.length co25 : Value).ownBlock) (.slice (some ad293) y290.length co31) y290) := ⟨by (with_reducible repeat (first | apply Kd.R_alloc | apply Kd.R_drewN | apply Kd.R_drew)); exact Kd.R_mono (Kd.R_far (p := ⟨gb307, 4, none⟩) (Kd.R_far (p := ⟨gb307, 3, none⟩) (Kd.R_far (p := ⟨gb307, 2, none⟩) (Kd.R_far (p := ⟨gb307, 1, none⟩) (Kd.R_far (p := ⟨gb307, 0, none⟩) (Kd.R_types HO_52.out BK307.out (by decide)) (fun _ hk => (by first | exact hk.2 | exact True.intro)) (.int .i64 t301)) (fun _ hk => (by first | exact hk.2 | exact True.intro)) (.string t302)) (fun _ hk => (by first | exact hk.2 | exact True.intro)) (.string t303)) (fun _ hk => (by first | exact hk.2 | exact True.intro)) (.string t304)) (fun _ hk => (by first | exact hk.2 | exact True.intro)) (.bool t305)) (fun _ hk => hk.1)⟩
                     have n2_ : Aside0 ((((((w42.setCell ⟨gb307, 0, none⟩ (.int .i64 t301)).setCell ⟨gb307, 1, none⟩ (.string t302)).setCell ⟨gb307, 2, none⟩ (.string t303)).setCell ⟨gb307, 3, none⟩ (.string t304)).setCell ⟨gb307, 4, none⟩ (.bool t305)).heap[gb300]? = some (.cells #[.int .i64 t294, .string t295, .string t296, .string t297, .bool t298] 27 (0, 0))) := ⟨by (repeat ((with_reducible repeat (first | refine blk_drewN ?_ _ | refine blk_drew ?_ | refine blk_alloc ?_ _)); refine blk_far ?_ NB300_307.out _)); (with_reducible repeat (first | refine blk_drewN ?_ _ | refine blk_drew ?_ | refine blk_alloc ?_ _)); exact BK300.out⟩
                     have n3_ : Aside0 ((((((w42.setCell ⟨gb307, 0, none⟩ (.int .i64 t301)).setCell ⟨gb307, 1, none⟩ (.string t302)).setCell ⟨gb307, 2, none⟩ (.string t303)).setCell ⟨gb307, 3, none⟩ (.string t304)).setCell ⟨gb307, 4, none⟩ (.bool t305)).heap[gb307]? = some (.cells #[.int .i64 t301, .string t302, .string t303, .string t304, .bool t305] 27 (0, 0))) := ⟨by (with_reducible repeat (first | refine blk_drewN ?_ _ | refine blk_drew ?_ | refine blk_alloc ?_ _)); refine blk_put (cs := #[.int .i64 t301, .string t302, .string t303, .string t304, .bool false]) ?_ 4 _ rfl; (with_reducible repeat (first | refine blk_drewN ?_ _ | refine blk_drew ?_ | refine blk_alloc ?_ _)); refine blk_put (cs := #[.int .i64 t301, .string t302, .string t303, .string (⟨#[]⟩ : ByteArray), .bool false]) ?_ 3 _ rfl; (with_reducible repeat (first | refine blk_drewN ?_ _ | refine blk_drew ?_ | refine blk_alloc ?_ _)); refine blk_put (cs := #[.int .i64 t301, .string t302, .string (⟨#[]⟩ : ByteArray), .string (⟨#[]⟩ : ByteArray), .bool false]) ?_ 2 _ rfl; (with_reducible repeat (first | refine blk_drewN ?_ _ | refine blk_drew ?_ | refine blk_alloc ?_ _)); refine blk_put (cs := #[.int .i64 t301, .string (⟨#[]⟩ : ByteArray), .string (⟨#[]⟩ : ByteArray), .string (⟨#[]⟩ : ByteArray), .bool false]) ?_ 1 _ rfl; (with_reducible repeat (first | refine blk_drewN ?_ _ | refine blk_drew ?_ | refine blk_alloc ?_ _)); refine blk_put (cs := #[.int .i64 0, .string (⟨#[]⟩ : ByteArray), .string (⟨#[]⟩ : ByteArray), .string (⟨#[]⟩ : ByteArray), .bool false]) ?_ 0 _ rfl; (with_reducible repeat (first | refine blk_drewN ?_ _ | refine blk_drew ?_ | refine blk_alloc ?_ _)); exact BK307.out⟩
                     have n4_ : Aside0 (Below w.heap.size w (((((w42.setCell ⟨gb307, 0, none⟩ (.int .i64 t301)).setCell ⟨gb307, 1, none⟩ (.string t302)).setCell ⟨gb307, 2, none⟩ (.string t303)).setCell ⟨gb307, 3, none⟩ (.string t304)).setCell ⟨gb307, 4, none⟩ (.bool t305))) := ⟨by repeat (first | (with_reducible first | exact HB.out | apply below_alloc | apply pw_below_drewN | apply below_drew1 | refine below_set ?_ GE300.out | refine below_set ?_ GE307.out) | exact HB.out)⟩
                     (try clear HO_45)
                     (try clear HO_52)
                     (try clear BK300)
                     (try clear BK307)
                     (try clear HB)
                     generalize (((((w42.setCell ⟨gb307, 0, none⟩ (.int .i64 t301)).setCell ⟨gb307, 1, none⟩ (.string t302)).setCell ⟨gb307, 2, none⟩ (.string t303)).setCell ⟨gb307, 3, none⟩ (.string t304)).setCell ⟨gb307, 4, none⟩ (.bool t305)) = w55 at n0_ n1_ n2_ n3_ n4_ ⊢
                     have HO_45 := n0_
                     have HO_52 := n1_
                     have BK300 := n2_
                     have BK307 := n3_
                     have HB := n4_
                     clear n0_ n1_ n2_ n3_ n4_
                     have n0_ := Aside0.mk (Kd.R_drew HO_45.out)
                     have n1_ := Aside0.mk (Kd.R_drew HO_52.out)
                     have n2_ := Aside0.mk (blk_drew BK300.out)
                     have n3_ := Aside0.mk (blk_drew BK307.out)
                     have n4_ := Aside0.mk (below_drew1 HB.out)
                     clear HO_45
                     clear HO_52
                     clear BK300
                     clear BK307
                     clear HB
                     have HO_45 := n0_
                     have HO_52 := n1_
                     have BK300 := n2_
                     have BK307 := n3_
                     have HB := n4_
                     clear n0_ n1_ n2_ n3_ n4_
                     refine start_ (n := 15) (S := fun w' => w'.cell? ⟨gb300, 0, none⟩ = some (.int .i64 t294) ∧ w'.cell? ⟨gb300, 1, none⟩ = some (.string t295) ∧ w'.cell? ⟨gb300, 2, none⟩ = some (.string t296) ∧ w'.cell? ⟨gb300, 3, none⟩ = some (.string t297) ∧ w'.cell? ⟨gb300, 4, none⟩ = some (.bool t298) ∧ w'.cell? ⟨gb307, 0, none⟩ = some (.int .i64 t301) ∧ w'.cell? ⟨gb307, 1, none⟩ = some (.string t302) ∧ w'.cell? ⟨gb307, 2, none⟩ = some (.string t303) ∧ w'.cell? ⟨gb307, 3, none⟩ = some (.string t304) ∧ w'.cell? ⟨gb307, 4, none⟩ = some (.bool t305)) (ds := []) #[false, false, false, false, false, false, false, false, false, false, false, false, false, false, false] (by kernel_rfl) rfl rfl ⟨(blk_cell BK300.out 0).trans rfl, (blk_cell BK300.out 1).trans rfl, (blk_cell BK300.out 2).trans rfl, (blk_cell BK300.out 3).trans rfl, (blk_cell BK300.out 4).trans rfl, (blk_cell BK307.out 0).trans rfl, (blk_cell BK307.out 1).trans rfl, (blk_cell BK307.out 2).trans rfl, (blk_cell BK307.out 3).trans rfl, (blk_cell BK307.out 4).trans rfl⟩ (fun hHeld => ?_); refine with_tabW parallaxlaw7_TargetTells.tab13 parallaxlaw7_TargetTells.bits13 (fun HT_ HW_ => ?_)
                     generalize w55.drew = w56 at HO_45 HO_52 BK300 BK307 HB hHeld ⊢
                     refine take_ (i := 0) (N := some 70) (v := ?_) (a' := ?_) #[true, false, false, false, false, false, false, false, false, false, false, false, false, false, false] rfl rfl (take_ofW HT_.out HW_.out (by kernel_rfl)) (fun _ _ _ h => h) (Or.inl ⟨by rfl, ?_⟩) hHeld ?_ ?_
                     rotate_left
                     ·rintro w' ⟨s0, s1, s2, s3, s4, s5, s6, s7, s8, s9⟩
                      go_simp
                      with_reducible rfl
                     rotate_left
                     ·simp only [Act.put, List.setIfInBounds_toArray, List.set_cons_zero, List.set_cons_succ, i64_w, i32_w]
                      rfl
                     refine take_ (i := 1) (N := some 71) (v := ?_) (a' := ?_) #[true, true, false, false, false, false, false, false, false, false, false, false, false, false, false] rfl rfl (take_ofW HT_.out HW_.out (by kernel_rfl)) (fun _ _ _ h => h) (Or.inl ⟨by rfl, ?_⟩) hHeld ?_ ?_
                     rotate_left
                     ·rintro w' ⟨s0, s1, s2, s3, s4, s5, s6, s7, s8, s9⟩
                      go_simp
                      with_reducible rfl
                     rotate_left
                     ·simp only [Act.put, List.setIfInBounds_toArray, List.set_cons_zero, List.set_cons_succ, i64_w, i32_w]
                      rfl
                     refine pure_ (i := 2) (N := some 72) (v := ?_) (a' := ?_) #[true, true, true, false, false, false, false, false, false, false, false, false, false, false, false] rfl rfl (any_of HT_.out (by kernel_rfl)) (fun _ _ _ h => h) (Or.inl ⟨by rfl, ?_⟩) ?_ ?_
                     rotate_left
                     ·intro w'
                      go_simp
                      with_reducible rfl
                     rotate_left
                     ·simp only [Act.put, List.setIfInBounds_toArray, List.set_cons_zero, List.set_cons_succ, i64_w, i32_w]
                      rfl
                     refine pure_ (i := 3) (N := some 73) (v := ?_) (a' := ?_) #[true, true, true, true, false, false, false, false, false, false, false, false, false, false, false] rfl rfl (any_of HT_.out (by kernel_rfl)) (fun _ _ _ h => h) (Or.inl ⟨by rfl, ?_⟩) ?_ ?_
                     rotate_left
                     ·intro w'
                      go_simp
                      with_reducible rfl
                     rotate_left
                     ·simp only [Act.put, List.setIfInBounds_toArray, List.set_cons_zero, List.set_cons_succ, i64_w, i32_w]
                      rfl
                     refine pure_ (i := 4) (N := some 74) (v := ?_) (a' := ?_) #[true, true, true, true, true, false, false, false, false, false, false, false, false, false, false] rfl rfl (any_of HT_.out (by kernel_rfl)) (fun _ _ _ h => h) (Or.inl ⟨by rfl, ?_⟩) ?_ ?_
                     rotate_left
                     ·intro w'
                      go_simp
                      with_reducible rfl
                     rotate_left
                     ·simp only [Act.put, List.setIfInBounds_toArray, List.set_cons_zero, List.set_cons_succ, i64_w, i32_w]
                      rfl
                     refine pure_ (i := 5) (N := some 75) (v := ?_) (a' := ?_) #[true, true, true, true, true, true, false, false, false, false, false, false, false, false, false] rfl rfl (any_of HT_.out (by kernel_rfl)) (fun _ _ _ h => h) (Or.inl ⟨by rfl, ?_⟩) ?_ ?_
                     rotate_left
                     ·intro w'
                      go_simp
                      with_reducible rfl
                     rotate_left
                     ·simp only [Act.put, List.setIfInBounds_toArray, List.set_cons_zero, List.set_cons_succ, i64_w, i32_w]
                      rfl
                     refine pure_ (i := 6) (N := some 76) (v := ?_) (a' := ?_) #[true, true, true, true, true, true, true, false, false, false, false, false, false, false, false] rfl rfl (any_of HT_.out (by kernel_rfl)) (fun _ _ _ h => h) (Or.inl ⟨by rfl, ?_⟩) ?_ ?_
                     rotate_left
                     ·intro w'
                      go_simp
                      with_reducible rfl
                     rotate_left
                     ·simp only [Act.put, List.setIfInBounds_toArray, List.set_cons_zero, List.set_cons_succ, i64_w, i32_w]
                      rfl
                     refine pure_ (i := 7) (N := some 77) (v := ?_) (a' := ?_) #[true, true, true, true, true, true, true, true, false, false, false, false, false, false, false] rfl rfl (any_of HT_.out (by kernel_rfl)) (fun _ _ _ h => h) (Or.inl ⟨by rfl, ?_⟩) ?_ ?_
                     rotate_left
                     ·intro w'
                      go_simp
                      with_reducible rfl
                     rotate_left
                     ·simp only [Act.put, List.setIfInBounds_toArray, List.set_cons_zero, List.set_cons_succ, i64_w, i32_w]
                      rfl
                     refine pure_ (i := 8) (N := some 78) (v := ?_) (a' := ?_) #[true, true, true, true, true, true, true, true, true, false, false, false, false, false, false] rfl rfl (any_of HT_.out (by kernel_rfl)) (fun _ _ _ h => h) (Or.inl ⟨by rfl, ?_⟩) ?_ ?_
                     rotate_left
                     ·intro w'
                      go_simp
                      with_reducible rfl
                     rotate_left
                     ·simp only [Act.put, List.setIfInBounds_toArray, List.set_cons_zero, List.set_cons_succ, i64_w, i32_w]
                      rfl
                     refine pure_ (i := 9) (N := some 79) (v := undef) (a' := ?_) #[true, true, true, true, true, true, true, true, true, true, false, false, false, false, false] rfl rfl (any_of HT_.out (by kernel_rfl)) (fun _ _ _ h => h) (Or.inr ⟨by rfl, rfl⟩) ?_ ?_
                     rotate_left
                     ·simp only [Act.put, List.setIfInBounds_toArray, List.set_cons_zero, List.set_cons_succ, i64_w, i32_w]
                      rfl
                     refine pure_ (i := 10) (N := some 80) (v := undef) (a' := ?_) #[true, true, true, true, true, true, true, true, true, true, true, false, false, false, false] rfl rfl (any_of HT_.out (by kernel_rfl)) (fun _ _ _ h => h) (Or.inr ⟨by rfl, rfl⟩) ?_ ?_
                     rotate_left
                     ·simp only [Act.put, List.setIfInBounds_toArray, List.set_cons_zero, List.set_cons_succ, i64_w, i32_w]
                      rfl
                     refine pure_ (i := 11) (N := some 81) (v := undef) (a' := ?_) #[true, true, true, true, true, true, true, true, true, true, true, true, false, false, false] rfl rfl (any_of HT_.out (by kernel_rfl)) (fun _ _ _ h => h) (Or.inr ⟨by rfl, rfl⟩) ?_ ?_
                     rotate_left
                     ·simp only [Act.put, List.setIfInBounds_toArray, List.set_cons_zero, List.set_cons_succ, i64_w, i32_w]
                      rfl
                     refine pure_ (i := 12) (N := some 82) (v := undef) (a' := ?_) #[true, true, true, true, true, true, true, true, true, true, true, true, true, false, false] rfl rfl (any_of HT_.out (by kernel_rfl)) (fun _ _ _ h => h) (Or.inr ⟨by rfl, rfl⟩) ?_ ?_
                     rotate_left
                     ·simp only [Act.put, List.setIfInBounds_toArray, List.set_cons_zero, List.set_cons_succ, i64_w, i32_w]
                      rfl
                     refine pure_ (i := 13) (N := some 83) (v := undef) (a' := ?_) #[true, true, true, true, true, true, true, true, true, true, true, true, true, true, false] rfl rfl (any_of HT_.out (by kernel_rfl)) (fun _ _ _ h => h) (Or.inr ⟨by rfl, rfl⟩) ?_ ?_
                     rotate_left
                     ·simp only [Act.put, List.setIfInBounds_toArray, List.set_cons_zero, List.set_cons_succ, i64_w, i32_w]
                      rfl
                     refine pure_ (i := 14) (N := some 84) (v := ?_) (a' := ?_) #[true, true, true, true, true, true, true, true, true, true, true, true, true, true, true] rfl rfl (any_of HT_.out (by kernel_rfl)) (fun _ _ _ h => h) (Or.inl ⟨by rfl, ?_⟩) ?_ ?_
                     rotate_left
                     ·intro w'
                      go_simp
                      with_reducible rfl
                     rotate_left
                     ·simp only [Act.put, List.setIfInBounds_toArray, List.set_cons_zero, List.set_cons_succ, i64_w, i32_w]
                      rfl
                     refine done_ (done_of HT_.out (by kernel_rfl)) ?_
                     try go_wp2
                     go_meet
                     case rel => exact ⟨_, (true), (by first | rfl | (simp; done) | (simp [*]; done)), H', ⟨by have := HJ6.out; have := HK2.out; have := HK3.out; first | omega | exact Nat.le_refl _⟩, ⟨by (with_reducible repeat (first | apply Kd.R_alloc | apply Kd.R_drewN | apply Kd.R_drew)); exact HO_45.out⟩, ⟨by (with_reducible repeat (first | apply Kd.R_alloc | apply Kd.R_drewN | apply Kd.R_drew)); exact HO_52.out⟩, ⟨by (with_reducible repeat (first | refine blk_drewN ?_ _ | refine blk_drew ?_ | refine blk_alloc ?_ _)); exact BK300.out⟩, ⟨by (with_reducible repeat (first | refine blk_drewN ?_ _ | refine blk_drew ?_ | refine blk_alloc ?_ _)); exact BK307.out⟩, ⟨by repeat (first | (with_reducible first | exact HB.out | apply below_alloc | apply pw_below_drewN | apply below_drew1 | refine below_set ?_ GE300.out | refine below_set ?_ GE307.out) | exact HB.out)⟩⟩
                  case rest =>
                   clear HC37
                   try clear c1
                   try clear c2
                   try clear p2
                   try clear q2
                   try clear hx2
                   try clear c3
                   try clear q3
                   try clear c4
                   try clear c6
                   try clear c7
                   try clear c8
                   try clear c9
                   try clear c9b0
                   try clear c9b1
                   try clear c10
                   try clear c10b0
                   try clear c10b1
                   try clear c11
                   try clear c12
                   try clear c14
                   try clear c14b0
                   try clear c14b1
                   try clear c14b2
                   try clear c16
                   try clear c16b0
                   try clear c16b1
                   try clear c16b2
                   try clear c18
                   try clear c18b0
                   try clear c18b1
                   try clear c18b2
                   try clear c26
                   try clear c26b0
                   try clear c27
                   try clear c27b0
                   try clear c28
                   try clear c28b0
                   try clear p28
                   try clear q28
                   try clear hx28
                   try clear p29
                   try clear q29
                   try clear hx29
                   try clear c32
                   try clear c32b0
                   try clear c33
                   try clear c33b0
                   try clear c34
                   try clear c34b0
                   try clear c43
                   try clear c45
                   try clear c45b0
                   try clear c48
                   try clear c48b0
                   try clear c48b1
                   try clear hcz40_0
                   try clear hcz40_1
                   try clear hcz40_2
                   try clear hcz40_3
                   try clear hcz40_4
                   try clear hcz44_0
                   try clear hcz44_1
                   try clear hcz44_2
                   try clear hcz44_3
                   try clear hcz44_4
                   try clear hfz40_0
                   try clear hfz40_1
                   try clear hfz40_2
                   try clear hfz40_3
                   try clear hfz40_4
                   try clear hfz44_0
                   try clear hfz44_1
                   try clear hfz44_2
                   try clear hfz44_3
                   try clear hfz44_4
                   try clear hx289_0
                   try clear hx293_0
                   try clear p2
                   try clear p28
                   try clear p289
                   try clear p293
                   try clear q2
                   try clear q28
                   try clear q289
                   try clear q293
                   try clear q3
                   obtain ⟨kq, x84_36, rfl, HA, HJ36, HO_45, HO_52, BK300, BK307, HB⟩ := hcut
                   cases kq with
                   | zero => exact absurd HA.out (by simp [parallaxlaw7_TargetTells.j3])
                   | succ kj36 =>
                    have H := HA.out
                    clear HA
                    simp only [parallaxlaw7_TargetTells.j3] at H
                    by_cases c57 : x84_36 = true
                    ·subst c57
                     rw [if_pos rfl] at H
                     exact absurd ((Option.some.inj H).trans HT.out) (by decide)
                    ·replace c57 := Bool.eq_false_iff.mpr c57
                     subst c57
                     rw [if_neg (show ¬ (false = true) by decide)] at H
                     have H' := Aside0.mk H
                     clear H
                     go_wp2
                     go_roundg kj36
                     case measure => have := HJ6.out; have := HK2.out; have := HK3.out; have := HJ36.out; omega
                     case rel => exact ⟨(wrap64 (x54_3 + 1)), (by first | rfl | (simp; done) | (simp [*]; done)), H', ⟨by have := HJ6.out; have := HK2.out; have := HK3.out; have := HJ36.out; omega⟩, ⟨by (with_reducible repeat (first | apply Kd.R_alloc | apply Kd.R_drewN | apply Kd.R_drew)); exact HO_45.out⟩, ⟨by (with_reducible repeat (first | apply Kd.R_alloc | apply Kd.R_drewN | apply Kd.R_drew)); exact HO_52.out⟩, ⟨by repeat (first | (with_reducible first | exact HB.out | apply below_alloc | apply pw_below_drewN | apply below_drew1 | refine below_set ?_ GE300.out | refine below_set ?_ GE307.out) | exact HB.out)⟩⟩
                 ·rw [if_neg c34] at H
                  exact absurd H (by simp)
                ·rw [if_neg c33] at H
                 exact absurd H (by simp)
               ·rw [if_neg c32] at H
                have c32b0 : decide (x54_3 < (y290.length : Int)) = false := decide_eq_false c32
                clear c32
                have HC58 := Aside0.mk H
                clear H
                go_upto_region 16 with (fail)
                go_cut [104] (fun v104 wc => ∃ (kq : Nat) (x104_57 : Bool), v104 = .bool x104_57 ∧ Aside0 (parallaxlaw7_TargetTells.j4 kq a0 a2 a3 y286 (y286.length : Int) x47_2 x104_57 = some r) ∧ Aside0 (kq ≤ k3) ∧ Aside0 (Kd.R Kd.string 9 wc w.heap.size (fun _ => True) (.slice (some ad289) y286.length co25) y286) ∧ Aside0 (Below w.heap.size w wc))
                case first =>
                 have H := HC58.out
                 clear HC58
                 replace H := Option.bind_eq_some_iff.mp H
                 obtain ⟨t310, A590, H⟩ := H
                 (try dsimp only at H)
                 have A59 := Aside0.mk A590
                 clear A590
                 replace H := Option.bind_eq_some_iff.mp H
                 obtain ⟨t311, A600, H⟩ := H
                 (try dsimp only at H)
                 have A60 := Aside0.mk A600
                 clear A600
                 by_cases c61 : (t310 != t311) = true
                 ·rw [if_pos c61] at H
                  have c61b0 : (t310 != t311) = true := c61
                  (try (have c61b1 : decide (t310 = t311) = false := by simpa using c61))
                  (try (have c61b2 : (t310 == t311) = false := by simpa using c61))
                  (try (have c61b3 : ¬ (t310 = t311) := by simpa using c61))
                  clear c61
                  (first | rw [c61b0] | (simp only [i64_w, i32_w]; rw [c61b0]) | skip)
                  have H' := Aside0.mk H
                  clear H
                  go_wp2_with (first | ((with_reducible refine gate_callee (f := 13) rfl ?_); refine goesL_ (some 87) rfl rfl Try.func13 (by kernel_rfl) rfl #[.string (rdOf ByteArray.empty y286 x47_2)] rfl (by (try simp only [List.map_toArray, List.map_cons, List.map_nil]); first | done | rfl | (simp only [List.length_drop, List.length_take]; rfl)) ?_; (with_reducible refine (target_Host.calls k3 (rdOf ByteArray.empty y286 x47_2) t310 _ A59.out).mono ?_); rintro e w62 ⟨rfl, hb⟩; refine ⟨_, rfl, ?_⟩; have n0_ := Aside0.mk (Kd.R_below (by (with_reducible repeat (first | apply Kd.R_alloc | apply Kd.R_drewN | apply Kd.R_drew)); exact HO_45.out) hb); have n1_ := Aside0.mk (Kd.R_below (by (with_reducible repeat (first | apply Kd.R_alloc | apply Kd.R_drewN | apply Kd.R_drew)); exact HO_52.out) hb); have n2_ := Aside0.mk (below_step (by repeat (first | (with_reducible first | exact HB.out | apply below_alloc | apply pw_below_drewN | apply below_drew1) | exact HB.out)) hb); clear HO_45; clear HO_52; clear HB; have HO_45 := n0_; have HO_52 := n1_; have HB := n2_; clear n0_ n1_ n2_; (try clear hb); (try clear hb2); (try clear hk); (try clear hi)) | ((with_reducible refine gate_callee (f := 14) rfl ?_); refine goesL_ (some 89) rfl rfl Try.func14 (by kernel_rfl) rfl #[.string (rdOf ByteArray.empty y286 x47_2)] rfl (by (try simp only [List.map_toArray, List.map_cons, List.map_nil]); first | done | rfl | (simp only [List.length_drop, List.length_take]; rfl)) ?_; (with_reducible refine (parallaxref6_Host.calls k3 (rdOf ByteArray.empty y286 x47_2) t311 _ A60.out).mono ?_); rintro e w63 ⟨rfl, hb⟩; refine ⟨_, rfl, ?_⟩; have n0_ := Aside0.mk (Kd.R_below (by (with_reducible repeat (first | apply Kd.R_alloc | apply Kd.R_drewN | apply Kd.R_drew)); exact HO_45.out) hb); have n1_ := Aside0.mk (Kd.R_below (by (with_reducible repeat (first | apply Kd.R_alloc | apply Kd.R_drewN | apply Kd.R_drew)); exact HO_52.out) hb); have n2_ := Aside0.mk (below_step (by repeat (first | (with_reducible first | exact HB.out | apply below_alloc | apply pw_below_drewN | apply below_drew1) | exact HB.out)) hb); clear HO_45; clear HO_52; clear HB; have HO_45 := n0_; have HO_52 := n1_; have HB := n2_; clear n0_ n1_ n2_; (try clear hb); (try clear hb2); (try clear hk); (try clear hi)) | (go_at_call 13; (with_reducible refine (target_Host.calls k3 (rdOf ByteArray.empty y286 x47_2) t310 _ A59.out).mono ?_); rintro e w62 ⟨rfl, hb⟩; have n0_ := Aside0.mk (Kd.R_below (by (with_reducible repeat (first | apply Kd.R_alloc | apply Kd.R_drewN | apply Kd.R_drew)); exact HO_45.out) hb); have n1_ := Aside0.mk (Kd.R_below (by (with_reducible repeat (first | apply Kd.R_alloc | apply Kd.R_drewN | apply Kd.R_drew)); exact HO_52.out) hb); have n2_ := Aside0.mk (below_step (by repeat (first | (with_reducible first | exact HB.out | apply below_alloc | apply pw_below_drewN | apply below_drew1) | exact HB.out)) hb); clear HO_45; clear HO_52; clear HB; have HO_45 := n0_; have HO_52 := n1_; have HB := n2_; clear n0_ n1_ n2_; (try clear hb); (try clear hb2); (try clear hk); (try clear hi)) | (go_at_call 14; (with_reducible refine (parallaxref6_Host.calls k3 (rdOf ByteArray.empty y286 x47_2) t311 _ A60.out).mono ?_); rintro e w63 ⟨rfl, hb⟩; have n0_ := Aside0.mk (Kd.R_below (by (with_reducible repeat (first | apply Kd.R_alloc | apply Kd.R_drewN | apply Kd.R_drew)); exact HO_45.out) hb); have n1_ := Aside0.mk (Kd.R_below (by (with_reducible repeat (first | apply Kd.R_alloc | apply Kd.R_drewN | apply Kd.R_drew)); exact HO_52.out) hb); have n2_ := Aside0.mk (below_step (by repeat (first | (with_reducible first | exact HB.out | apply below_alloc | apply pw_below_drewN | apply below_drew1) | exact HB.out)) hb); clear HO_45; clear HO_52; clear HB; have HO_45 := n0_; have HO_52 := n1_; have HB := n2_; clear n0_ n1_ n2_; (try clear hb); (try clear hb2); (try clear hk); (try clear hi)))
                  go_meet
                  case rel => exact ⟨_, (true), (by first | rfl | (simp; done) | (simp [*]; done)), H', ⟨by have := HJ6.out; have := HK2.out; have := HK3.out; first | omega | exact Nat.le_refl _⟩, ⟨by (with_reducible repeat (first | apply Kd.R_alloc | apply Kd.R_drewN | apply Kd.R_drew)); exact Kd.R_mono HO_45.out (fun _ hk => trivial)⟩, ⟨by repeat (first | (with_reducible first | exact HB.out | apply below_alloc | apply pw_below_drewN | apply below_drew1) | exact HB.out)⟩⟩
                 ·rw [if_neg c61] at H
                  have c61b0 : (t310 != t311) = false := by simpa using c61
                  (try (have c61b1 : decide (t310 = t311) = true := by simpa using c61))
                  (try (have c61b2 : (t310 == t311) = true := by simpa using c61))
                  clear c61
                  (first | rw [c61b0] | (simp only [i64_w, i32_w]; rw [c61b0]) | skip)
                  replace H := Option.bind_eq_some_iff.mp H
                  obtain ⟨t312, A640, H⟩ := H
                  (try dsimp only at H)
                  have A64 := Aside0.mk A640
                  clear A640
                  replace H := Option.bind_eq_some_iff.mp H
                  obtain ⟨t313, A650, H⟩ := H
                  (try dsimp only at H)
                  have A65 := Aside0.mk A650
                  clear A650
                  by_cases c66 : (t312 != t313) = true
                  ·rw [if_pos c66] at H
                   have c66b0 : (t312 != t313) = true := c66
                   (try (have c66b1 : decide (t312 = t313) = false := by simpa using c66))
                   (try (have c66b2 : (t312 == t313) = false := by simpa using c66))
                   (try (have c66b3 : ¬ (t312 = t313) := by simpa using c66))
                   clear c66
                   have H' := Aside0.mk H
                   clear H
                   go_wp2_with (first | ((with_reducible refine gate_callee (f := 13) rfl ?_); refine goesL_ (some 87) rfl rfl Try.func13 (by kernel_rfl) rfl #[.string (rdOf ByteArray.empty y286 x47_2)] rfl (by (try simp only [List.map_toArray, List.map_cons, List.map_nil]); first | done | rfl | (simp only [List.length_drop, List.length_take]; rfl)) ?_; (with_reducible refine (target_Host.calls k3 (rdOf ByteArray.empty y286 x47_2) t310 _ A59.out).mono ?_); rintro e w67 ⟨rfl, hb⟩; refine ⟨_, rfl, ?_⟩; have n0_ := Aside0.mk (Kd.R_below (by (with_reducible repeat (first | apply Kd.R_alloc | apply Kd.R_drewN | apply Kd.R_drew)); exact HO_45.out) hb); have n1_ := Aside0.mk (Kd.R_below (by (with_reducible repeat (first | apply Kd.R_alloc | apply Kd.R_drewN | apply Kd.R_drew)); exact HO_52.out) hb); have n2_ := Aside0.mk (below_step (by repeat (first | (with_reducible first | exact HB.out | apply below_alloc | apply pw_below_drewN | apply below_drew1) | exact HB.out)) hb); clear HO_45; clear HO_52; clear HB; have HO_45 := n0_; have HO_52 := n1_; have HB := n2_; clear n0_ n1_ n2_; (try clear hb); (try clear hb2); (try clear hk); (try clear hi)) | ((with_reducible refine gate_callee (f := 14) rfl ?_); refine goesL_ (some 89) rfl rfl Try.func14 (by kernel_rfl) rfl #[.string (rdOf ByteArray.empty y286 x47_2)] rfl (by (try simp only [List.map_toArray, List.map_cons, List.map_nil]); first | done | rfl | (simp only [List.length_drop, List.length_take]; rfl)) ?_; (with_reducible refine (parallaxref6_Host.calls k3 (rdOf ByteArray.empty y286 x47_2) t311 _ A60.out).mono ?_); rintro e w68 ⟨rfl, hb⟩; refine ⟨_, rfl, ?_⟩; have n0_ := Aside0.mk (Kd.R_below (by (with_reducible repeat (first | apply Kd.R_alloc | apply Kd.R_drewN | apply Kd.R_drew)); exact HO_45.out) hb); have n1_ := Aside0.mk (Kd.R_below (by (with_reducible repeat (first | apply Kd.R_alloc | apply Kd.R_drewN | apply Kd.R_drew)); exact HO_52.out) hb); have n2_ := Aside0.mk (below_step (by repeat (first | (with_reducible first | exact HB.out | apply below_alloc | apply pw_below_drewN | apply below_drew1) | exact HB.out)) hb); clear HO_45; clear HO_52; clear HB; have HO_45 := n0_; have HO_52 := n1_; have HB := n2_; clear n0_ n1_ n2_; (try clear hb); (try clear hb2); (try clear hk); (try clear hi)) | (go_at_call 15; (with_reducible refine (target_Path.calls k3 (rdOf ByteArray.empty y286 x47_2) t312 _ A64.out).mono ?_); rintro e w69 ⟨rfl, hb⟩; have n0_ := Aside0.mk (Kd.R_below (by (with_reducible repeat (first | apply Kd.R_alloc | apply Kd.R_drewN | apply Kd.R_drew)); exact HO_45.out) hb); have n1_ := Aside0.mk (Kd.R_below (by (with_reducible repeat (first | apply Kd.R_alloc | apply Kd.R_drewN | apply Kd.R_drew)); exact HO_52.out) hb); have n2_ := Aside0.mk (below_step (by repeat (first | (with_reducible first | exact HB.out | apply below_alloc | apply pw_below_drewN | apply below_drew1) | exact HB.out)) hb); clear HO_45; clear HO_52; clear HB; have HO_45 := n0_; have HO_52 := n1_; have HB := n2_; clear n0_ n1_ n2_; (try clear hb); (try clear hb2); (try clear hk); (try clear hi)) | (go_at_call 16; (with_reducible refine (parallaxref6_Path.calls k3 (rdOf ByteArray.empty y286 x47_2) t313 _ A65.out).mono ?_); rintro e w' ⟨rfl, ⟨nd, rfl⟩⟩) | (go_at_call 13; (with_reducible refine (target_Host.calls k3 (rdOf ByteArray.empty y286 x47_2) t310 _ A59.out).mono ?_); rintro e w67 ⟨rfl, hb⟩; have n0_ := Aside0.mk (Kd.R_below (by (with_reducible repeat (first | apply Kd.R_alloc | apply Kd.R_drewN | apply Kd.R_drew)); exact HO_45.out) hb); have n1_ := Aside0.mk (Kd.R_below (by (with_reducible repeat (first | apply Kd.R_alloc | apply Kd.R_drewN | apply Kd.R_drew)); exact HO_52.out) hb); have n2_ := Aside0.mk (below_step (by repeat (first | (with_reducible first | exact HB.out | apply below_alloc | apply pw_below_drewN | apply below_drew1) | exact HB.out)) hb); clear HO_45; clear HO_52; clear HB; have HO_45 := n0_; have HO_52 := n1_; have HB := n2_; clear n0_ n1_ n2_; (try clear hb); (try clear hb2); (try clear hk); (try clear hi)) | (go_at_call 14; (with_reducible refine (parallaxref6_Host.calls k3 (rdOf ByteArray.empty y286 x47_2) t311 _ A60.out).mono ?_); rintro e w68 ⟨rfl, hb⟩; have n0_ := Aside0.mk (Kd.R_below (by (with_reducible repeat (first | apply Kd.R_alloc | apply Kd.R_drewN | apply Kd.R_drew)); exact HO_45.out) hb); have n1_ := Aside0.mk (Kd.R_below (by (with_reducible repeat (first | apply Kd.R_alloc | apply Kd.R_drewN | apply Kd.R_drew)); exact HO_52.out) hb); have n2_ := Aside0.mk (below_step (by repeat (first | (with_reducible first | exact HB.out | apply below_alloc | apply pw_below_drewN | apply below_drew1) | exact HB.out)) hb); clear HO_45; clear HO_52; clear HB; have HO_45 := n0_; have HO_52 := n1_; have HB := n2_; clear n0_ n1_ n2_; (try clear hb); (try clear hb2); (try clear hk); (try clear hi)))
                   go_meet
                   case rel => exact ⟨_, (true), (by first | rfl | (simp; done) | (simp [*]; done)), H', ⟨by have := HJ6.out; have := HK2.out; have := HK3.out; first | omega | exact Nat.le_refl _⟩, ⟨by (with_reducible repeat (first | apply Kd.R_alloc | apply Kd.R_drewN | apply Kd.R_drew)); exact Kd.R_mono HO_45.out (fun _ hk => trivial)⟩, ⟨by repeat (first | (with_reducible first | exact HB.out | apply below_alloc | apply pw_below_drewN | apply below_drew1) | exact HB.out)⟩⟩
                  ·rw [if_neg c66] at H
                   have c66b0 : (t312 != t313) = false := by simpa using c66
                   (try (have c66b1 : decide (t312 = t313) = true := by simpa using c66))
                   (try (have c66b2 : (t312 == t313) = true := by simpa using c66))
                   clear c66
                   replace H := Option.bind_eq_some_iff.mp H
                   obtain ⟨t314, A700, H⟩ := H
                   (try dsimp only at H)
                   have A70 := Aside0.mk A700
                   clear A700
                   replace H := Option.bind_eq_some_iff.mp H
                   obtain ⟨t315, A710, H⟩ := H
                   (try dsimp only at H)
                   have A71 := Aside0.mk A710
                   clear A710
                   have H' := Aside0.mk H
                   clear H
                   go_wp2_with (first | ((with_reducible refine gate_callee (f := 13) rfl ?_); refine goesL_ (some 87) rfl rfl Try.func13 (by kernel_rfl) rfl #[.string (rdOf ByteArray.empty y286 x47_2)] rfl (by (try simp only [List.map_toArray, List.map_cons, List.map_nil]); first | done | rfl | (simp only [List.length_drop, List.length_take]; rfl)) ?_; (with_reducible refine (target_Host.calls k3 (rdOf ByteArray.empty y286 x47_2) t310 _ A59.out).mono ?_); rintro e w72 ⟨rfl, hb⟩; refine ⟨_, rfl, ?_⟩; have n0_ := Aside0.mk (Kd.R_below (by (with_reducible repeat (first | apply Kd.R_alloc | apply Kd.R_drewN | apply Kd.R_drew)); exact HO_45.out) hb); have n1_ := Aside0.mk (Kd.R_below (by (with_reducible repeat (first | apply Kd.R_alloc | apply Kd.R_drewN | apply Kd.R_drew)); exact HO_52.out) hb); have n2_ := Aside0.mk (below_step (by repeat (first | (with_reducible first | exact HB.out | apply below_alloc | apply pw_below_drewN | apply below_drew1) | exact HB.out)) hb); clear HO_45; clear HO_52; clear HB; have HO_45 := n0_; have HO_52 := n1_; have HB := n2_; clear n0_ n1_ n2_; (try clear hb); (try clear hb2); (try clear hk); (try clear hi)) | ((with_reducible refine gate_callee (f := 14) rfl ?_); refine goesL_ (some 89) rfl rfl Try.func14 (by kernel_rfl) rfl #[.string (rdOf ByteArray.empty y286 x47_2)] rfl (by (try simp only [List.map_toArray, List.map_cons, List.map_nil]); first | done | rfl | (simp only [List.length_drop, List.length_take]; rfl)) ?_; (with_reducible refine (parallaxref6_Host.calls k3 (rdOf ByteArray.empty y286 x47_2) t311 _ A60.out).mono ?_); rintro e w73 ⟨rfl, hb⟩; refine ⟨_, rfl, ?_⟩; have n0_ := Aside0.mk (Kd.R_below (by (with_reducible repeat (first | apply Kd.R_alloc | apply Kd.R_drewN | apply Kd.R_drew)); exact HO_45.out) hb); have n1_ := Aside0.mk (Kd.R_below (by (with_reducible repeat (first | apply Kd.R_alloc | apply Kd.R_drewN | apply Kd.R_drew)); exact HO_52.out) hb); have n2_ := Aside0.mk (below_step (by repeat (first | (with_reducible first | exact HB.out | apply below_alloc | apply pw_below_drewN | apply below_drew1) | exact HB.out)) hb); clear HO_45; clear HO_52; clear HB; have HO_45 := n0_; have HO_52 := n1_; have HB := n2_; clear n0_ n1_ n2_; (try clear hb); (try clear hb2); (try clear hk); (try clear hi)) | (go_at_call 15; (with_reducible refine (target_Path.calls k3 (rdOf ByteArray.empty y286 x47_2) t312 _ A64.out).mono ?_); rintro e w74 ⟨rfl, hb⟩; have n0_ := Aside0.mk (Kd.R_below (by (with_reducible repeat (first | apply Kd.R_alloc | apply Kd.R_drewN | apply Kd.R_drew)); exact HO_45.out) hb); have n1_ := Aside0.mk (Kd.R_below (by (with_reducible repeat (first | apply Kd.R_alloc | apply Kd.R_drewN | apply Kd.R_drew)); exact HO_52.out) hb); have n2_ := Aside0.mk (below_step (by repeat (first | (with_reducible first | exact HB.out | apply below_alloc | apply pw_below_drewN | apply below_drew1) | exact HB.out)) hb); clear HO_45; clear HO_52; clear HB; have HO_45 := n0_; have HO_52 := n1_; have HB := n2_; clear n0_ n1_ n2_; (try clear hb); (try clear hb2); (try clear hk); (try clear hi)) | (go_at_call 16; (with_reducible refine (parallaxref6_Path.calls k3 (rdOf ByteArray.empty y286 x47_2) t313 _ A65.out).mono ?_); rintro e w' ⟨rfl, ⟨nd, rfl⟩⟩) | (go_at_call 17; (with_reducible refine (target_Query.calls k3 (rdOf ByteArray.empty y286 x47_2) t314 _ A70.out).mono ?_); rintro e w75 ⟨rfl, hb⟩; have n0_ := Aside0.mk (Kd.R_below (by (with_reducible repeat (first | apply Kd.R_alloc | apply Kd.R_drewN | apply Kd.R_drew)); exact HO_45.out) hb); have n1_ := Aside0.mk (Kd.R_below (by (with_reducible repeat (first | apply Kd.R_alloc | apply Kd.R_drewN | apply Kd.R_drew)); exact HO_52.out) hb); have n2_ := Aside0.mk (below_step (by repeat (first | (with_reducible first | exact HB.out | apply below_alloc | apply pw_below_drewN | apply below_drew1) | exact HB.out)) hb); clear HO_45; clear HO_52; clear HB; have HO_45 := n0_; have HO_52 := n1_; have HB := n2_; clear n0_ n1_ n2_; (try clear hb); (try clear hb2); (try clear hk); (try clear hi)) | (go_at_call 18; (with_reducible refine (parallaxref6_Query.calls k3 (rdOf ByteArray.empty y286 x47_2) t315 _ A71.out).mono ?_); rintro e w' ⟨rfl, ⟨nd, rfl⟩⟩) | (go_at_call 13; (with_reducible refine (target_Host.calls k3 (rdOf ByteArray.empty y286 x47_2) t310 _ A59.out).mono ?_); rintro e w72 ⟨rfl, hb⟩; have n0_ := Aside0.mk (Kd.R_below (by (with_reducible repeat (first | apply Kd.R_alloc | apply Kd.R_drewN | apply Kd.R_drew)); exact HO_45.out) hb); have n1_ := Aside0.mk (Kd.R_below (by (with_reducible repeat (first | apply Kd.R_alloc | apply Kd.R_drewN | apply Kd.R_drew)); exact HO_52.out) hb); have n2_ := Aside0.mk (below_step (by repeat (first | (with_reducible first | exact HB.out | apply below_alloc | apply pw_below_drewN | apply below_drew1) | exact HB.out)) hb); clear HO_45; clear HO_52; clear HB; have HO_45 := n0_; have HO_52 := n1_; have HB := n2_; clear n0_ n1_ n2_; (try clear hb); (try clear hb2); (try clear hk); (try clear hi)) | (go_at_call 14; (with_reducible refine (parallaxref6_Host.calls k3 (rdOf ByteArray.empty y286 x47_2) t311 _ A60.out).mono ?_); rintro e w73 ⟨rfl, hb⟩; have n0_ := Aside0.mk (Kd.R_below (by (with_reducible repeat (first | apply Kd.R_alloc | apply Kd.R_drewN | apply Kd.R_drew)); exact HO_45.out) hb); have n1_ := Aside0.mk (Kd.R_below (by (with_reducible repeat (first | apply Kd.R_alloc | apply Kd.R_drewN | apply Kd.R_drew)); exact HO_52.out) hb); have n2_ := Aside0.mk (below_step (by repeat (first | (with_reducible first | exact HB.out | apply below_alloc | apply pw_below_drewN | apply below_drew1) | exact HB.out)) hb); clear HO_45; clear HO_52; clear HB; have HO_45 := n0_; have HO_52 := n1_; have HB := n2_; clear n0_ n1_ n2_; (try clear hb); (try clear hb2); (try clear hk); (try clear hi)))
                   go_meet
                   case rel => exact ⟨_, ((t314 != t315)), (by first | rfl | (simp; done) | (simp [*]; done)), H', ⟨by have := HJ6.out; have := HK2.out; have := HK3.out; first | omega | exact Nat.le_refl _⟩, ⟨by (with_reducible repeat (first | apply Kd.R_alloc | apply Kd.R_drewN | apply Kd.R_drew)); exact Kd.R_mono HO_45.out (fun _ hk => trivial)⟩, ⟨by repeat (first | (with_reducible first | exact HB.out | apply below_alloc | apply pw_below_drewN | apply below_drew1) | exact HB.out)⟩⟩
                case rest =>
                 clear HC58
                 try clear c1
                 try clear c2
                 try clear p2
                 try clear q2
                 try clear hx2
                 try clear c3
                 try clear q3
                 try clear c4
                 try clear c5
                 try clear c6
                 try clear p6
                 try clear c7
                 try clear c8
                 try clear c9
                 try clear c9b0
                 try clear c9b1
                 try clear c10
                 try clear c10b0
                 try clear c10b1
                 try clear c11
                 try clear c12
                 try clear c13
                 try clear c14
                 try clear c14b0
                 try clear c14b1
                 try clear c14b2
                 try clear c16
                 try clear c16b0
                 try clear c16b1
                 try clear c16b2
                 try clear c18
                 try clear c18b0
                 try clear c18b1
                 try clear c18b2
                 try clear c26
                 try clear c26b0
                 try clear c27
                 try clear c27b0
                 try clear c28
                 try clear c28b0
                 try clear p28
                 try clear q28
                 try clear hx28
                 try clear p29
                 try clear q29
                 try clear hx29
                 try clear c32
                 try clear c32b0
                 try clear c33
                 try clear c33b0
                 try clear c34
                 try clear c34b0
                 try clear c43
                 try clear c45
                 try clear c45b0
                 try clear c48
                 try clear c48b0
                 try clear c48b1
                 try clear c57
                 try clear c61
                 try clear c61b0
                 try clear c61b1
                 try clear c61b2
                 try clear p64
                 try clear c66
                 try clear c66b0
                 try clear c66b1
                 try clear c66b2
                 try clear hcz40_0
                 try clear hcz40_1
                 try clear hcz40_2
                 try clear hcz40_3
                 try clear hcz40_4
                 try clear hcz44_0
                 try clear hcz44_1
                 try clear hcz44_2
                 try clear hcz44_3
                 try clear hcz44_4
                 try clear hfz40_0
                 try clear hfz40_1
                 try clear hfz40_2
                 try clear hfz40_3
                 try clear hfz40_4
                 try clear hfz44_0
                 try clear hfz44_1
                 try clear hfz44_2
                 try clear hfz44_3
                 try clear hfz44_4
                 try clear hx289_0
                 try clear hx293_0
                 try clear p2
                 try clear p28
                 try clear p289
                 try clear p29
                 try clear p293
                 try clear q2
                 try clear q28
                 try clear q289
                 try clear q29
                 try clear q293
                 try clear q3
                 obtain ⟨kq, x104_57, rfl, HA, HJ57, HO_45, HB⟩ := hcut
                 cases kq with
                 | zero => exact absurd HA.out (by simp [parallaxlaw7_TargetTells.j4])
                 | succ kj57 =>
                  have H := HA.out
                  clear HA
                  simp only [parallaxlaw7_TargetTells.j4] at H
                  by_cases c76 : x104_57 = true
                  ·subst c76
                   rw [if_pos rfl] at H
                   exact absurd ((Option.some.inj H).trans HT.out) (by decide)
                  ·replace c76 := Bool.eq_false_iff.mpr c76
                   subst c76
                   rw [if_neg (show ¬ (false = true) by decide)] at H
                   have H' := Aside0.mk H
                   clear H
                   go_wp2
                   go_roundg kj57
                   case measure => have := HJ6.out; have := HK2.out; have := HK3.out; have := HJ57.out; omega
                   case rel => exact ⟨(wrap64 (x47_2 + 1)), (by first | rfl | (simp; done) | (simp [*]; done)), H', ⟨by have := HJ6.out; have := HK2.out; have := HK3.out; have := HJ57.out; omega⟩, ⟨by (with_reducible repeat (first | apply Kd.R_alloc | apply Kd.R_drewN | apply Kd.R_drew)); exact HO_45.out⟩, ⟨by repeat (first | (with_reducible first | exact HB.out | apply below_alloc | apply pw_below_drewN | apply below_drew1) | exact HB.out)⟩⟩
            ·rw [if_neg c28] at H
             exact absurd H (by simp)
           ·rw [if_neg c27] at H
            exact absurd H (by simp)
          ·rw [if_neg c26] at H
           have c26b0 : decide (x47_2 < (y286.length : Int)) = false := decide_eq_false c26
           clear c26
           replace H := Option.bind_eq_some_iff.mp H
           obtain ⟨t317, A770, H⟩ := H
           (try dsimp only at H)
           have A77 := Aside0.mk A770
           clear A770
           replace H := Option.bind_eq_some_iff.mp H
           obtain ⟨t318, A780, H⟩ := H
           (try dsimp only at H)
           have A78 := Aside0.mk A780
           clear A780
           obtain rfl := Option.some.inj H
           try go_wp2_with (first | ((with_reducible refine gate_dst (N := 17) rfl ?_); (try (refine gate_guard (by rfl) ?_; dsimp only)); refine box_event ?hg (N := 17) ?hd (cs := #[.int .i64 0, .string (⟨#[]⟩ : ByteArray), .string (⟨#[]⟩ : ByteArray), .string (⟨#[]⟩ : ByteArray), .bool false]) (t := 27) ?hr ?_; (case hd => rfl); (case hg => rfl); (case hr => first | (go_simp; done) | (go_simp; rfl)); intro gb316 hg w79 hbox hb; have n0_ := Aside0.mk (Kd.R_below (by (with_reducible repeat (first | apply Kd.R_alloc | apply Kd.R_drewN | apply Kd.R_drew)); exact HO_45.out) hb); have n1_ := Aside0.mk (below_step (by repeat (first | (with_reducible first | exact HB.out | apply below_alloc | apply pw_below_drewN | apply below_drew1) | exact HB.out)) hb); have n2_ := Aside0.mk (hbox); have n3_ := Aside0.mk ((by rw [hg]; exact (below_size (by repeat (first | (with_reducible first | exact HB.out | apply below_alloc | apply pw_below_drewN | apply below_drew1) | exact HB.out))) : w.heap.size ≤ gb316)); have n4_ := Aside0.mk ((by rw [hg]; exact (below_size (by repeat (first | (with_reducible first | exact HB.out | apply below_alloc | apply pw_below_drewN | apply below_drew1) | exact HB.out))) : w.heap.size ≤ gb316)); clear HO_45; clear HB; have HO_45 := n0_; have HB := n1_; have BK316 := n2_; have GW316 := n3_; have GE316 := n4_; clear n0_ n1_ n2_ n3_ n4_; clear hb hbox hg; have hcz80_0 : w79.cell? ⟨gb316, 0, none⟩ = some (.int .i64 0) := (blk_cell BK316.out 0).trans rfl; have hcz80_1 : w79.cell? ⟨gb316, 1, none⟩ = some (.string (⟨#[]⟩ : ByteArray)) := (blk_cell BK316.out 1).trans rfl; have hcz80_2 : w79.cell? ⟨gb316, 2, none⟩ = some (.string (⟨#[]⟩ : ByteArray)) := (blk_cell BK316.out 2).trans rfl; have hcz80_3 : w79.cell? ⟨gb316, 3, none⟩ = some (.string (⟨#[]⟩ : ByteArray)) := (blk_cell BK316.out 3).trans rfl; have hcz80_4 : w79.cell? ⟨gb316, 4, none⟩ = some (.bool false) := (blk_cell BK316.out 4).trans rfl; have hfz80_0 := blk_frozen BK316.out 0; have hfz80_1 := blk_frozen BK316.out 1; have hfz80_2 := blk_frozen BK316.out 2; have hfz80_3 := blk_frozen BK316.out 3; have hfz80_4 := blk_frozen BK316.out 4))
           have n0_ : Aside0 (Kd.R Kd.string 9 (((((w79.setCell ⟨gb316, 0, none⟩ (.int .i64 (wrap64 (Int.tmod a3 6)))).setCell ⟨gb316, 1, none⟩ (.string a0)).setCell ⟨gb316, 2, none⟩ (.string a2)).setCell ⟨gb316, 3, none⟩ (.string a0)).setCell ⟨gb316, 4, none⟩ (.bool (decide (a3 > 100)))) w.heap.size (fun _ => True) (.slice Ao25 y286.length co25) y286) := ⟨by (with_reducible repeat (first | apply Kd.R_alloc | apply Kd.R_drewN | apply Kd.R_drew)); exact Kd.R_mono (Kd.R_far (p := ⟨gb316, 4, none⟩) (Kd.R_far (p := ⟨gb316, 3, none⟩) (Kd.R_far (p := ⟨gb316, 2, none⟩) (Kd.R_far (p := ⟨gb316, 1, none⟩) (Kd.R_far (p := ⟨gb316, 0, none⟩) (Kd.R_types HO_45.out BK316.out (by decide)) (fun _ hk => (by first | exact hk.2 | exact True.intro)) (.int .i64 (wrap64 (Int.tmod a3 6)))) (fun _ hk => (by first | exact hk.2 | exact True.intro)) (.string a0)) (fun _ hk => (by first | exact hk.2 | exact True.intro)) (.string a2)) (fun _ hk => (by first | exact hk.2 | exact True.intro)) (.string a0)) (fun _ hk => (by first | exact hk.2 | exact True.intro)) (.bool (decide (a3 > 100)))) (fun _ hk => trivial)⟩
           have n1_ : Aside0 ((((((w79.setCell ⟨gb316, 0, none⟩ (.int .i64 (wrap64 (Int.tmod a3 6)))).setCell ⟨gb316, 1, none⟩ (.string a0)).setCell ⟨gb316, 2, none⟩ (.string a2)).setCell ⟨gb316, 3, none⟩ (.string a0)).setCell ⟨gb316, 4, none⟩ (.bool (decide (a3 > 100)))).heap[gb316]? = some (.cells #[.int .i64 (wrap64 (Int.tmod a3 6)), .string a0, .string a2, .string a0, .bool (decide (a3 > 100))] 27 (0, 0))) := ⟨by (with_reducible repeat (first | refine blk_drewN ?_ _ | refine blk_drew ?_ | refine blk_alloc ?_ _)); refine blk_put (cs := #[.int .i64 (wrap64 (Int.tmod a3 6)), .string a0, .string a2, .string a0, .bool false]) ?_ 4 _ rfl; (with_reducible repeat (first | refine blk_drewN ?_ _ | refine blk_drew ?_ | refine blk_alloc ?_ _)); refine blk_put (cs := #[.int .i64 (wrap64 (Int.tmod a3 6)), .string a0, .string a2, .string (⟨#[]⟩ : ByteArray), .bool false]) ?_ 3 _ rfl; (with_reducible repeat (first | refine blk_drewN ?_ _ | refine blk_drew ?_ | refine blk_alloc ?_ _)); refine blk_put (cs := #[.int .i64 (wrap64 (Int.tmod a3 6)), .string a0, .string (⟨#[]⟩ : ByteArray), .string (⟨#[]⟩ : ByteArray), .bool false]) ?_ 2 _ rfl; (with_reducible repeat (first | refine blk_drewN ?_ _ | refine blk_drew ?_ | refine blk_alloc ?_ _)); refine blk_put (cs := #[.int .i64 (wrap64 (Int.tmod a3 6)), .string (⟨#[]⟩ : ByteArray), .string (⟨#[]⟩ : ByteArray), .string (⟨#[]⟩ : ByteArray), .bool false]) ?_ 1 _ rfl; (with_reducible repeat (first | refine blk_drewN ?_ _ | refine blk_drew ?_ | refine blk_alloc ?_ _)); refine blk_put (cs := #[.int .i64 0, .string (⟨#[]⟩ : ByteArray), .string (⟨#[]⟩ : ByteArray), .string (⟨#[]⟩ : ByteArray), .bool false]) ?_ 0 _ rfl; (with_reducible repeat (first | refine blk_drewN ?_ _ | refine blk_drew ?_ | refine blk_alloc ?_ _)); exact BK316.out⟩
           have n2_ : Aside0 (Below w.heap.size w (((((w79.setCell ⟨gb316, 0, none⟩ (.int .i64 (wrap64 (Int.tmod a3 6)))).setCell ⟨gb316, 1, none⟩ (.string a0)).setCell ⟨gb316, 2, none⟩ (.string a2)).setCell ⟨gb316, 3, none⟩ (.string a0)).setCell ⟨gb316, 4, none⟩ (.bool (decide (a3 > 100))))) := ⟨by repeat (first | (with_reducible first | exact HB.out | apply below_alloc | apply pw_below_drewN | apply below_drew1 | refine below_set ?_ GE316.out) | exact HB.out)⟩
           (try clear HO_45)
           (try clear BK316)
           (try clear HB)
           generalize (((((w79.setCell ⟨gb316, 0, none⟩ (.int .i64 (wrap64 (Int.tmod a3 6)))).setCell ⟨gb316, 1, none⟩ (.string a0)).setCell ⟨gb316, 2, none⟩ (.string a2)).setCell ⟨gb316, 3, none⟩ (.string a0)).setCell ⟨gb316, 4, none⟩ (.bool (decide (a3 > 100)))) = w81 at n0_ n1_ n2_ ⊢
           have HO_45 := n0_
           have BK316 := n1_
           have HB := n2_
           clear n0_ n1_ n2_
           have n0_ := Aside0.mk (Kd.R_drew HO_45.out)
           have n1_ := Aside0.mk (blk_drew BK316.out)
           have n2_ := Aside0.mk (below_drew1 HB.out)
           clear HO_45
           clear BK316
           clear HB
           have HO_45 := n0_
           have BK316 := n1_
           have HB := n2_
           clear n0_ n1_ n2_
           refine start_ (n := 6) (S := fun w' => w'.cell? ⟨gb316, 0, none⟩ = some (.int .i64 (wrap64 (Int.tmod a3 6))) ∧ w'.cell? ⟨gb316, 1, none⟩ = some (.string a0) ∧ w'.cell? ⟨gb316, 2, none⟩ = some (.string a2) ∧ w'.cell? ⟨gb316, 3, none⟩ = some (.string a0) ∧ w'.cell? ⟨gb316, 4, none⟩ = some (.bool (decide (a3 > 100)))) (ds := []) #[false, false, false, false, false, false] (by kernel_rfl) rfl rfl ⟨(blk_cell BK316.out 0).trans rfl, (blk_cell BK316.out 1).trans rfl, (blk_cell BK316.out 2).trans rfl, (blk_cell BK316.out 3).trans rfl, (blk_cell BK316.out 4).trans rfl⟩ (fun hHeld => ?_)
           generalize w81.drew = w82 at HO_45 BK316 HB hHeld ⊢
           refine take_ (i := 0) (N := some 115) (v := ?_) (a' := ?_) #[true, false, false, false, false, false] rfl rfl (by kernel_rfl) (fun _ _ _ h => h) (Or.inl ⟨by rfl, ?_⟩) hHeld ?_ ?_
           rotate_left
           ·rintro w' ⟨s0, s1, s2, s3, s4⟩
            go_simp
            with_reducible rfl
           rotate_left
           ·simp only [Act.put, List.setIfInBounds_toArray, List.set_cons_zero, List.set_cons_succ, i64_w, i32_w]
            rfl
           refine take_ (i := 2) (N := some 117) (v := ?_) (a' := ?_) #[true, false, true, false, false, false] rfl rfl (by kernel_rfl) (fun _ _ _ h => h) (Or.inl ⟨by rfl, ?_⟩) hHeld ?_ ?_
           rotate_left
           ·rintro w' ⟨s0, s1, s2, s3, s4⟩
            go_simp
            with_reducible rfl
           rotate_left
           ·simp only [Act.put, List.setIfInBounds_toArray, List.set_cons_zero, List.set_cons_succ, i64_w, i32_w]
            rfl
           refine one_ (i := 1) (N := some 116) #[true, true, true, false, false, false] rfl rfl (by kernel_rfl) (by decide) (fun K hK => ?_)
           refine goes_ Try.func11 (by kernel_rfl) rfl #[.agg #[.int .i64 (wrap64 (Int.tmod a3 6)), .string a0, .string a2, .string a0, .bool (decide (a3 > 100))]] (by rfl) rfl rfl (by (try simp only [List.map_toArray, List.map_cons, List.map_nil]); first | done | rfl | (simp only [List.length_drop, List.length_take]; rfl)) ?_
           with_reducible refine (target_Put.calls k2 (wrap64 (Int.tmod a3 6)) a0 a2 a0 (decide (a3 > 100)) t317 _ A77.out).mono ?_
           rintro e w83 ⟨rfl, hb⟩
           refine ⟨_, rfl, ?_⟩
           have n0_ := Aside0.mk (Kd.R_below (by (with_reducible repeat (first | apply Kd.R_alloc | apply Kd.R_drewN | apply Kd.R_drew)); exact HO_45.out) hb)
           have n1_ := Aside0.mk (blk_below (g := gb316) (o := .cells #[.int .i64 (wrap64 (Int.tmod a3 6)), .string a0, .string a2, .string a0, .bool (decide (a3 > 100))] 27 (0, 0)) (by (with_reducible repeat (first | refine blk_drewN ?_ _ | refine blk_drew ?_ | refine blk_alloc ?_ _)); exact BK316.out) hb)
           have n2_ := Aside0.mk (below_step (by repeat (first | (with_reducible first | exact HB.out | apply below_alloc | apply pw_below_drewN | apply below_drew1 | refine below_set ?_ GE316.out) | exact HB.out)) hb)
           clear HO_45
           clear BK316
           clear HB
           have HO_45 := n0_
           have BK316 := n1_
           have HB := n2_
           clear n0_ n1_ n2_
           (try clear hb)
           (try clear hb2)
           (try clear hk)
           (try clear hi)
           refine hK.out _ _ ⟨(blk_cell BK316.out 0).trans rfl, (blk_cell BK316.out 1).trans rfl, (blk_cell BK316.out 2).trans rfl, (blk_cell BK316.out 3).trans rfl, (blk_cell BK316.out 4).trans rfl⟩ (fun hHeld => ?_)
           clear hK K
           refine norm_ (a' := ?_) ?_ ?_
           rotate_left
           ·show Act.put _ (some 116) _ = _
            simp only [Act.put, List.setIfInBounds_toArray, List.set_cons_zero, List.set_cons_succ, i64_w, i32_w]
            rfl
           refine one_ (i := 3) (N := some 118) #[true, true, true, true, false, false] rfl rfl (by kernel_rfl) (by decide) (fun K hK => ?_)
           refine goes_ Try.func12 (by kernel_rfl) rfl #[.agg #[.int .i64 (wrap64 (Int.tmod a3 6)), .string a0, .string a2, .string a0, .bool (decide (a3 > 100))]] (by rfl) rfl rfl (by (try simp only [List.map_toArray, List.map_cons, List.map_nil]); first | done | rfl | (simp only [List.length_drop, List.length_take]; rfl)) ?_
           with_reducible refine (parallaxref6_Put.calls k2 (wrap64 (Int.tmod a3 6)) a0 a2 a0 (decide (a3 > 100)) t318 _ A78.out).mono ?_
           rintro e w84 ⟨rfl, hb⟩
           refine ⟨_, rfl, ?_⟩
           have n0_ := Aside0.mk (Kd.R_below (by (with_reducible repeat (first | apply Kd.R_alloc | apply Kd.R_drewN | apply Kd.R_drew)); exact HO_45.out) hb)
           have n1_ := Aside0.mk (blk_below (g := gb316) (o := .cells #[.int .i64 (wrap64 (Int.tmod a3 6)), .string a0, .string a2, .string a0, .bool (decide (a3 > 100))] 27 (0, 0)) (by (with_reducible repeat (first | refine blk_drewN ?_ _ | refine blk_drew ?_ | refine blk_alloc ?_ _)); exact BK316.out) hb)
           have n2_ := Aside0.mk (below_step (by repeat (first | (with_reducible first | exact HB.out | apply below_alloc | apply pw_below_drewN | apply below_drew1 | refine below_set ?_ GE316.out) | exact HB.out)) hb)
           clear HO_45
           clear BK316
           clear HB
           have HO_45 := n0_
           have BK316 := n1_
           have HB := n2_
           clear n0_ n1_ n2_
           (try clear hb)
           (try clear hb2)
           (try clear hk)
           (try clear hi)
           refine hK.out _ _ ⟨(blk_cell BK316.out 0).trans rfl, (blk_cell BK316.out 1).trans rfl, (blk_cell BK316.out 2).trans rfl, (blk_cell BK316.out 3).trans rfl, (blk_cell BK316.out 4).trans rfl⟩ (fun hHeld => ?_)
           clear hK K
           refine norm_ (a' := ?_) ?_ ?_
           rotate_left
           ·show Act.put _ (some 118) _ = _
            simp only [Act.put, List.setIfInBounds_toArray, List.set_cons_zero, List.set_cons_succ, i64_w, i32_w]
            rfl
           refine pure_ (i := 4) (N := some 119) (v := ?_) (a' := ?_) #[true, true, true, true, true, false] rfl rfl (by kernel_rfl) (fun _ _ _ h => h) (Or.inl ⟨by rfl, ?_⟩) ?_ ?_
           rotate_left
           ·intro w'
            go_simp
            with_reducible rfl
           rotate_left
           ·simp only [Act.put, List.setIfInBounds_toArray, List.set_cons_zero, List.set_cons_succ, i64_w, i32_w]
            rfl
           refine pure_ (i := 5) (N := some 8) (v := ?_) (a' := ?_) #[true, true, true, true, true, true] rfl rfl (by kernel_rfl) (fun _ _ _ h => h) (Or.inl ⟨by rfl, ?_⟩) ?_ ?_
           rotate_left
           ·intro w'
            go_simp
            with_reducible rfl
           rotate_left
           ·simp only [Act.put, List.setIfInBounds_toArray, List.set_cons_zero, List.set_cons_succ, i64_w, i32_w]
            rfl
           refine done_ (by kernel_rfl) ?_
           try go_wp2
           go_ret
           exact ⟨by first | rfl | (simp [errW_none, errW_some] <;> rfl) | (simp [*, errW_none, errW_some] <;> rfl), by repeat (first | (with_reducible first | exact HB.out | apply below_alloc | apply pw_below_drewN | apply below_drew1 | refine below_set ?_ GE316.out) | exact HB.out)⟩
       ·rw [if_neg c18] at H
        exact absurd H (by simp)
      ·rw [if_neg c16] at H
       exact absurd H (by simp)
     ·rw [if_neg c14] at H
      exact absurd H (by simp)
 ·replace c6 := Bool.eq_false_iff.mpr c6
  subst c6
  rw [if_neg (show ¬ (false = true) by decide)] at H
  exact absurd ((Option.some.inj H).trans HT.out) (by decide)

/-- THE ONE PURE STATEMENT of parallaxlaw7_TargetTells: yours. -/
def parallaxlaw7_TargetTells.Pure : Prop := ∀ (a0 : ByteArray) (l1 : List Int) (a2 : ByteArray) (a3 : Int), a0.size ≤ 140737488351232 → l1.length ≤ maxLen → l1.length * 1 ≤ 140737488351232 → (∀ x ∈ l1, (Lit.int .u8 x).wf = true) → a2.size ≤ 140737488351232 → (Lit.int .u8 a3).wf = true → ∃ k, parallaxlaw7_TargetTells.f k a0 l1 a2 a3 = some true
theorem parallaxlaw7_TargetTells.walk (P : parallaxlaw7_TargetTells.Pure) (a0 : ByteArray) (a1 : Option Addr) (len1 cap1 : Nat) (z1 : List Int) (a2 : ByteArray) (a3 : Int) (w : World) (w0 : a0.size ≤ 140737488351232) (w1 : (a1 = none ∧ len1 = 0 ∧ cap1 = 0 ∧ z1 = []) ∨ ∃ x, a1 = some x ∧ len1 ≤ cap1 ∧ cap1 ≤ maxLen ∧ z1.length = cap1 ∧ (∀ i, i < z1.length → w.cell? (x.add i) = some (.int .u8 (z1.getD i 0))) ∧ ∀ n ∈ z1, (Lit.int .u8 n).wf = true) (y1 : len1 * 1 ≤ 140737488351232) (w2 : a2.size ≤ 140737488351232) (w3 : (Lit.int .u8 a3).wf = true) :
  Calls Try.prog 3 #[.string a0, .slice a1 len1 cap1, .string a2, .int .u8 a3] w fun e w' => e = .returned (.bool true) ∧ Below w.heap.size w w' := by
 obtain ⟨l1, rfl, hr1, hm1, hw1, hc1⟩ := ReadsInt.ofRowC w1
 obtain ⟨k, h⟩ := P a0 l1 a2 a3 w0 hm1 y1 hw1 w2 w3
 refine (parallaxlaw7_TargetTells.calls k a0 _ _ l1 a2 a3 true w (Kd.C_of_reads (d := (0 : Int)) (h1 := fun _ => rfl) hr1) hc1 w3 rfl h).mono ?_
 rintro e w' ⟨rfl, hd⟩
 exact ⟨rfl, hd⟩

end Go.Proofs.Ytnnehbbfokoklaa.PTargetTells
