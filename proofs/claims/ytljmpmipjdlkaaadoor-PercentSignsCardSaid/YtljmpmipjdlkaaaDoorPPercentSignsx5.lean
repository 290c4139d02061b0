-- Written by a program of this session (wip/tools/myprint.sh)
import Derived.Test.YtljmpmipjdlkaaaDoorPPercentSignsx0
import Derived.Test.YtljmpmipjdlkaaaDoorPPercentSignsx3
import Derived.Test.YtljmpmipjdlkaaaDoorPPercentSignsx4
namespace Go.Proofs.YtljmpmipjdlkaaaDoor.PPercentSigns
open Go.RowKit Go.Proofs.YtljmpmipjdlkaaaDoorW.PrintWords Go.Proofs.YtljmpmipjdlkaaaDoorW.PrintLast Go.Proofs.YtljmpmipjdlkaaaDoorW.PrintMore
attribute [local go_sem] max2_int min2_int max_two min_two max_three min_three max_four min_four   -- for this text's walks alone
set_option linter.unusedVariables false
set_option linter.unusedSimpArgs false

/-! ### parallaxlaw19_PercentSigns: function 5 -/
mutual
def parallaxlaw19_PercentSigns.j0 : Nat → Int → ByteArray → Option (Bool)
  | 0, _, _ => none
  | k + 1, x0, x5 => if 0 ≤ (x0 / 16) then (if (x0 / 16) ≤ (((x0 / 16) + 1) % 256) then (if (((x0 / 16) + 1) % 256) ≤ (x5.size : Int) then (if 3 + (x5.extract ((x0 / 16) : Int).toNat ((((x0 / 16) + 1) % 256) : Int).toNat).size ≤ 9223372036854775807 then (if 0 ≤ (Go.bits .and .u8 x0 15) then (if (Go.bits .and .u8 x0 15) ≤ (((Go.bits .and .u8 x0 15) + 1) % 256) then (if (((Go.bits .and .u8 x0 15) + 1) % 256) ≤ (x5.size : Int) then (if ((⟨#[47, 97, 37]⟩ : ByteArray) ++ (x5.extract ((x0 / 16) : Int).toNat ((((x0 / 16) + 1) % 256) : Int).toNat)).size + (x5.extract ((Go.bits .and .u8 x0 15) : Int).toNat ((((Go.bits .and .u8 x0 15) + 1) % 256) : Int).toNat).size ≤ 9223372036854775807 then (if (((⟨#[47, 97, 37]⟩ : ByteArray) ++ (x5.extract ((x0 / 16) : Int).toNat ((((x0 / 16) + 1) % 256) : Int).toNat)) ++ (x5.extract ((Go.bits .and .u8 x0 15) : Int).toNat ((((Go.bits .and .u8 x0 15) + 1) % 256) : Int).toNat)).size + 1 ≤ 9223372036854775807 then (if x0 ≥ 97 then (if x0 ≤ 122 then (parallaxlaw19_PercentSigns.j1 k x0 ((((⟨#[47, 97, 37]⟩ : ByteArray) ++ (x5.extract ((x0 / 16) : Int).toNat ((((x0 / 16) + 1) % 256) : Int).toNat)) ++ (x5.extract ((Go.bits .and .u8 x0 15) : Int).toNat ((((Go.bits .and .u8 x0 15) + 1) % 256) : Int).toNat)) ++ (⟨#[122]⟩ : ByteArray)) true) else (if x0 ≥ 65 then (if x0 ≤ 90 then (parallaxlaw19_PercentSigns.j1 k x0 ((((⟨#[47, 97, 37]⟩ : ByteArray) ++ (x5.extract ((x0 / 16) : Int).toNat ((((x0 / 16) + 1) % 256) : Int).toNat)) ++ (x5.extract ((Go.bits .and .u8 x0 15) : Int).toNat ((((Go.bits .and .u8 x0 15) + 1) % 256) : Int).toNat)) ++ (⟨#[122]⟩ : ByteArray)) true) else (if x0 ≥ 48 then (if x0 ≤ 57 then (parallaxlaw19_PercentSigns.j1 k x0 ((((⟨#[47, 97, 37]⟩ : ByteArray) ++ (x5.extract ((x0 / 16) : Int).toNat ((((x0 / 16) + 1) % 256) : Int).toNat)) ++ (x5.extract ((Go.bits .and .u8 x0 15) : Int).toNat ((((Go.bits .and .u8 x0 15) + 1) % 256) : Int).toNat)) ++ (⟨#[122]⟩ : ByteArray)) true) else (if x0 = 45 then (parallaxlaw19_PercentSigns.j1 k x0 ((((⟨#[47, 97, 37]⟩ : ByteArray) ++ (x5.extract ((x0 / 16) : Int).toNat ((((x0 / 16) + 1) % 256) : Int).toNat)) ++ (x5.extract ((Go.bits .and .u8 x0 15) : Int).toNat ((((Go.bits .and .u8 x0 15) + 1) % 256) : Int).toNat)) ++ (⟨#[122]⟩ : ByteArray)) true) else (if x0 = 46 then (parallaxlaw19_PercentSigns.j1 k x0 ((((⟨#[47, 97, 37]⟩ : ByteArray) ++ (x5.extract ((x0 / 16) : Int).toNat ((((x0 / 16) + 1) % 256) : Int).toNat)) ++ (x5.extract ((Go.bits .and .u8 x0 15) : Int).toNat ((((Go.bits .and .u8 x0 15) + 1) % 256) : Int).toNat)) ++ (⟨#[122]⟩ : ByteArray)) true) else (if x0 = 95 then (parallaxlaw19_PercentSigns.j1 k x0 ((((⟨#[47, 97, 37]⟩ : ByteArray) ++ (x5.extract ((x0 / 16) : Int).toNat ((((x0 / 16) + 1) % 256) : Int).toNat)) ++ (x5.extract ((Go.bits .and .u8 x0 15) : Int).toNat ((((Go.bits .and .u8 x0 15) + 1) % 256) : Int).toNat)) ++ (⟨#[122]⟩ : ByteArray)) true) else (parallaxlaw19_PercentSigns.j1 k x0 ((((⟨#[47, 97, 37]⟩ : ByteArray) ++ (x5.extract ((x0 / 16) : Int).toNat ((((x0 / 16) + 1) % 256) : Int).toNat)) ++ (x5.extract ((Go.bits .and .u8 x0 15) : Int).toNat ((((Go.bits .and .u8 x0 15) + 1) % 256) : Int).toNat)) ++ (⟨#[122]⟩ : ByteArray)) (x0 == 126)))))) else (if x0 = 45 then (parallaxlaw19_PercentSigns.j1 k x0 ((((⟨#[47, 97, 37]⟩ : ByteArray) ++ (x5.extract ((x0 / 16) : Int).toNat ((((x0 / 16) + 1) % 256) : Int).toNat)) ++ (x5.extract ((Go.bits .and .u8 x0 15) : Int).toNat ((((Go.bits .and .u8 x0 15) + 1) % 256) : Int).toNat)) ++ (⟨#[122]⟩ : ByteArray)) true) else (if x0 = 46 then (parallaxlaw19_PercentSigns.j1 k x0 ((((⟨#[47, 97, 37]⟩ : ByteArray) ++ (x5.extract ((x0 / 16) : Int).toNat ((((x0 / 16) + 1) % 256) : Int).toNat)) ++ (x5.extract ((Go.bits .and .u8 x0 15) : Int).toNat ((((Go.bits .and .u8 x0 15) + 1) % 256) : Int).toNat)) ++ (⟨#[122]⟩ : ByteArray)) true) else (if x0 = 95 then (parallaxlaw19_PercentSigns.j1 k x0 ((((⟨#[47, 97, 37]⟩ : ByteArray) ++ (x5.extract ((x0 / 16) : Int).toNat ((((x0 / 16) + 1) % 256) : Int).toNat)) ++ (x5.extract ((Go.bits .and .u8 x0 15) : Int).toNat ((((Go.bits .and .u8 x0 15) + 1) % 256) : Int).toNat)) ++ (⟨#[122]⟩ : ByteArray)) true) else (parallaxlaw19_PercentSigns.j1 k x0 ((((⟨#[47, 97, 37]⟩ : ByteArray) ++ (x5.extract ((x0 / 16) : Int).toNat ((((x0 / 16) + 1) % 256) : Int).toNat)) ++ (x5.extract ((Go.bits .and .u8 x0 15) : Int).toNat ((((Go.bits .and .u8 x0 15) + 1) % 256) : Int).toNat)) ++ (⟨#[122]⟩ : ByteArray)) (x0 == 126))))))) else (if x0 ≥ 48 then (if x0 ≤ 57 then (parallaxlaw19_PercentSigns.j1 k x0 ((((⟨#[47, 97, 37]⟩ : ByteArray) ++ (x5.extract ((x0 / 16) : Int).toNat ((((x0 / 16) + 1) % 256) : Int).toNat)) ++ (x5.extract ((Go.bits .and .u8 x0 15) : Int).toNat ((((Go.bits .and .u8 x0 15) + 1) % 256) : Int).toNat)) ++ (⟨#[122]⟩ : ByteArray)) true) else (if x0 = 45 then (parallaxlaw19_PercentSigns.j1 k x0 ((((⟨#[47, 97, 37]⟩ : ByteArray) ++ (x5.extract ((x0 / 16) : Int).toNat ((((x0 / 16) + 1) % 256) : Int).toNat)) ++ (x5.extract ((Go.bits .and .u8 x0 15) : Int).toNat ((((Go.bits .and .u8 x0 15) + 1) % 256) : Int).toNat)) ++ (⟨#[122]⟩ : ByteArray)) true) else (if x0 = 46 then (parallaxlaw19_PercentSigns.j1 k x0 ((((⟨#[47, 97, 37]⟩ : ByteArray) ++ (x5.extract ((x0 / 16) : Int).toNat ((((x0 / 16) + 1) % 256) : Int).toNat)) ++ (x5.extract ((Go.bits .and .u8 x0 15) : Int).toNat ((((Go.bits .and .u8 x0 15) + 1) % 256) : Int).toNat)) ++ (⟨#[122]⟩ : ByteArray)) true) else (if x0 = 95 then (parallaxlaw19_PercentSigns.j1 k x0 ((((⟨#[47, 97, 37]⟩ : ByteArray) ++ (x5.extract ((x0 / 16) : Int).toNat ((((x0 / 16) + 1) % 256) : Int).toNat)) ++ (x5.extract ((Go.bits .and .u8 x0 15) : Int).toNat ((((Go.bits .and .u8 x0 15) + 1) % 256) : Int).toNat)) ++ (⟨#[122]⟩ : ByteArray)) true) else (parallaxlaw19_PercentSigns.j1 k x0 ((((⟨#[47, 97, 37]⟩ : ByteArray) ++ (x5.extract ((x0 / 16) : Int).toNat ((((x0 / 16) + 1) % 256) : Int).toNat)) ++ (x5.extract ((Go.bits .and .u8 x0 15) : Int).toNat ((((Go.bits .and .u8 x0 15) + 1) % 256) : Int).toNat)) ++ (⟨#[122]⟩ : ByteArray)) (x0 == 126)))))) else (if x0 = 45 then (parallaxlaw19_PercentSigns.j1 k x0 ((((⟨#[47, 97, 37]⟩ : ByteArray) ++ (x5.extract ((x0 / 16) : Int).toNat ((((x0 / 16) + 1) % 256) : Int).toNat)) ++ (x5.extract ((Go.bits .and .u8 x0 15) : Int).toNat ((((Go.bits .and .u8 x0 15) + 1) % 256) : Int).toNat)) ++ (⟨#[122]⟩ : ByteArray)) true) else (if x0 = 46 then (parallaxlaw19_PercentSigns.j1 k x0 ((((⟨#[47, 97, 37]⟩ : ByteArray) ++ (x5.extract ((x0 / 16) : Int).toNat ((((x0 / 16) + 1) % 256) : Int).toNat)) ++ (x5.extract ((Go.bits .and .u8 x0 15) : Int).toNat ((((Go.bits .and .u8 x0 15) + 1) % 256) : Int).toNat)) ++ (⟨#[122]⟩ : ByteArray)) true) else (if x0 = 95 then (parallaxlaw19_PercentSigns.j1 k x0 ((((⟨#[47, 97, 37]⟩ : ByteArray) ++ (x5.extract ((x0 / 16) : Int).toNat ((((x0 / 16) + 1) % 256) : Int).toNat)) ++ (x5.extract ((Go.bits .and .u8 x0 15) : Int).toNat ((((Go.bits .and .u8 x0 15) + 1) % 256) : Int).toNat)) ++ (⟨#[122]⟩ : ByteArray)) true) else (parallaxlaw19_PercentSigns.j1 k x0 ((((⟨#[47, 97, 37]⟩ : ByteArray) ++ (x5.extract ((x0 / 16) : Int).toNat ((((x0 / 16) + 1) % 256) : Int).toNat)) ++ (x5.extract ((Go.bits .and .u8 x0 15) : Int).toNat ((((Go.bits .and .u8 x0 15) + 1) % 256) : Int).toNat)) ++ (⟨#[122]⟩ : ByteArray)) (x0 == 126)))))))) else (if x0 ≥ 65 then (if x0 ≤ 90 then (parallaxlaw19_PercentSigns.j1 k x0 ((((⟨#[47, 97, 37]⟩ : ByteArray) ++ (x5.extract ((x0 / 16) : Int).toNat ((((x0 / 16) + 1) % 256) : Int).toNat)) ++ (x5.extract ((Go.bits .and .u8 x0 15) : Int).toNat ((((Go.bits .and .u8 x0 15) + 1) % 256) : Int).toNat)) ++ (⟨#[122]⟩ : ByteArray)) true) else (if x0 ≥ 48 then (if x0 ≤ 57 then (parallaxlaw19_PercentSigns.j1 k x0 ((((⟨#[47, 97, 37]⟩ : ByteArray) ++ (x5.extract ((x0 / 16) : Int).toNat ((((x0 / 16) + 1) % 256) : Int).toNat)) ++ (x5.extract ((Go.bits .and .u8 x0 15) : Int).toNat ((((Go.bits .and .u8 x0 15) + 1) % 256) : Int).toNat)) ++ (⟨#[122]⟩ : ByteArray)) true) else (if x0 = 45 then (parallaxlaw19_PercentSigns.j1 k x0 ((((⟨#[47, 97, 37]⟩ : ByteArray) ++ (x5.extract ((x0 / 16) : Int).toNat ((((x0 / 16) + 1) % 256) : Int).toNat)) ++ (x5.extract ((Go.bits .and .u8 x0 15) : Int).toNat ((((Go.bits .and .u8 x0 15) + 1) % 256) : Int).toNat)) ++ (⟨#[122]⟩ : ByteArray)) true) else (if x0 = 46 then (parallaxlaw19_PercentSigns.j1 k x0 ((((⟨#[47, 97, 37]⟩ : ByteArray) ++ (x5.extract ((x0 / 16) : Int).toNat ((((x0 / 16) + 1) % 256) : Int).toNat)) ++ (x5.extract ((Go.bits .and .u8 x0 15) : Int).toNat ((((Go.bits .and .u8 x0 15) + 1) % 256) : Int).toNat)) ++ (⟨#[122]⟩ : ByteArray)) true) else (if x0 = 95 then (parallaxlaw19_PercentSigns.j1 k x0 ((((⟨#[47, 97, 37]⟩ : ByteArray) ++ (x5.extract ((x0 / 16) : Int).toNat ((((x0 / 16) + 1) % 256) : Int).toNat)) ++ (x5.extract ((Go.bits .and .u8 x0 15) : Int).toNat ((((Go.bits .and .u8 x0 15) + 1) % 256) : Int).toNat)) ++ (⟨#[122]⟩ : ByteArray)) true) else (parallaxlaw19_PercentSigns.j1 k x0 ((((⟨#[47, 97, 37]⟩ : ByteArray) ++ (x5.extract ((x0 / 16) : Int).toNat ((((x0 / 16) + 1) % 256) : Int).toNat)) ++ (x5.extract ((Go.bits .and .u8 x0 15) : Int).toNat ((((Go.bits .and .u8 x0 15) + 1) % 256) : Int).toNat)) ++ (⟨#[122]⟩ : ByteArray)) (x0 == 126)))))) else (if x0 = 45 then (parallaxlaw19_PercentSigns.j1 k x0 ((((⟨#[47, 97, 37]⟩ : ByteArray) ++ (x5.extract ((x0 / 16) : Int).toNat ((((x0 / 16) + 1) % 256) : Int).toNat)) ++ (x5.extract ((Go.bits .and .u8 x0 15) : Int).toNat ((((Go.bits .and .u8 x0 15) + 1) % 256) : Int).toNat)) ++ (⟨#[122]⟩ : ByteArray)) true) else (if x0 = 46 then (parallaxlaw19_PercentSigns.j1 k x0 ((((⟨#[47, 97, 37]⟩ : ByteArray) ++ (x5.extract ((x0 / 16) : Int).toNat ((((x0 / 16) + 1) % 256) : Int).toNat)) ++ (x5.extract ((Go.bits .and .u8 x0 15) : Int).toNat ((((Go.bits .and .u8 x0 15) + 1) % 256) : Int).toNat)) ++ (⟨#[122]⟩ : ByteArray)) true) else (if x0 = 95 then (parallaxlaw19_PercentSigns.j1 k x0 ((((⟨#[47, 97, 37]⟩ : ByteArray) ++ (x5.extract ((x0 / 16) : Int).toNat ((((x0 / 16) + 1) % 256) : Int).toNat)) ++ (x5.extract ((Go.bits .and .u8 x0 15) : Int).toNat ((((Go.bits .and .u8 x0 15) + 1) % 256) : Int).toNat)) ++ (⟨#[122]⟩ : ByteArray)) true) else (parallaxlaw19_PercentSigns.j1 k x0 ((((⟨#[47, 97, 37]⟩ : ByteArray) ++ (x5.extract ((x0 / 16) : Int).toNat ((((x0 / 16) + 1) % 256) : Int).toNat)) ++ (x5.extract ((Go.bits .and .u8 x0 15) : Int).toNat ((((Go.bits .and .u8 x0 15) + 1) % 256) : Int).toNat)) ++ (⟨#[122]⟩ : ByteArray)) (x0 == 126))))))) else (if x0 ≥ 48 then (if x0 ≤ 57 then (parallaxlaw19_PercentSigns.j1 k x0 ((((⟨#[47, 97, 37]⟩ : ByteArray) ++ (x5.extract ((x0 / 16) : Int).toNat ((((x0 / 16) + 1) % 256) : Int).toNat)) ++ (x5.extract ((Go.bits .and .u8 x0 15) : Int).toNat ((((Go.bits .and .u8 x0 15) + 1) % 256) : Int).toNat)) ++ (⟨#[122]⟩ : ByteArray)) true) else (if x0 = 45 then (parallaxlaw19_PercentSigns.j1 k x0 ((((⟨#[47, 97, 37]⟩ : ByteArray) ++ (x5.extract ((x0 / 16) : Int).toNat ((((x0 / 16) + 1) % 256) : Int).toNat)) ++ (x5.extract ((Go.bits .and .u8 x0 15) : Int).toNat ((((Go.bits .and .u8 x0 15) + 1) % 256) : Int).toNat)) ++ (⟨#[122]⟩ : ByteArray)) true) else (if x0 = 46 then (parallaxlaw19_PercentSigns.j1 k x0 ((((⟨#[47, 97, 37]⟩ : ByteArray) ++ (x5.extract ((x0 / 16) : Int).toNat ((((x0 / 16) + 1) % 256) : Int).toNat)) ++ (x5.extract ((Go.bits .and .u8 x0 15) : Int).toNat ((((Go.bits .and .u8 x0 15) + 1) % 256) : Int).toNat)) ++ (⟨#[122]⟩ : ByteArray)) true) else (if x0 = 95 then (parallaxlaw19_PercentSigns.j1 k x0 ((((⟨#[47, 97, 37]⟩ : ByteArray) ++ (x5.extract ((x0 / 16) : Int).toNat ((((x0 / 16) + 1) % 256) : Int).toNat)) ++ (x5.extract ((Go.bits .and .u8 x0 15) : Int).toNat ((((Go.bits .and .u8 x0 15) + 1) % 256) : Int).toNat)) ++ (⟨#[122]⟩ : ByteArray)) true) else (parallaxlaw19_PercentSigns.j1 k x0 ((((⟨#[47, 97, 37]⟩ : ByteArray) ++ (x5.extract ((x0 / 16) : Int).toNat ((((x0 / 16) + 1) % 256) : Int).toNat)) ++ (x5.extract ((Go.bits .and .u8 x0 15) : Int).toNat ((((Go.bits .and .u8 x0 15) + 1) % 256) : Int).toNat)) ++ (⟨#[122]⟩ : ByteArray)) (x0 == 126)))))) else (if x0 = 45 then (parallaxlaw19_PercentSigns.j1 k x0 ((((⟨#[47, 97, 37]⟩ : ByteArray) ++ (x5.extract ((x0 / 16) : Int).toNat ((((x0 / 16) + 1) % 256) : Int).toNat)) ++ (x5.extract ((Go.bits .and .u8 x0 15) : Int).toNat ((((Go.bits .and .u8 x0 15) + 1) % 256) : Int).toNat)) ++ (⟨#[122]⟩ : ByteArray)) true) else (if x0 = 46 then (parallaxlaw19_PercentSigns.j1 k x0 ((((⟨#[47, 97, 37]⟩ : ByteArray) ++ (x5.extract ((x0 / 16) : Int).toNat ((((x0 / 16) + 1) % 256) : Int).toNat)) ++ (x5.extract ((Go.bits .and .u8 x0 15) : Int).toNat ((((Go.bits .and .u8 x0 15) + 1) % 256) : Int).toNat)) ++ (⟨#[122]⟩ : ByteArray)) true) else (if x0 = 95 then (parallaxlaw19_PercentSigns.j1 k x0 ((((⟨#[47, 97, 37]⟩ : ByteArray) ++ (x5.extract ((x0 / 16) : Int).toNat ((((x0 / 16) + 1) % 256) : Int).toNat)) ++ (x5.extract ((Go.bits .and .u8 x0 15) : Int).toNat ((((Go.bits .and .u8 x0 15) + 1) % 256) : Int).toNat)) ++ (⟨#[122]⟩ : ByteArray)) true) else (parallaxlaw19_PercentSigns.j1 k x0 ((((⟨#[47, 97, 37]⟩ : ByteArray) ++ (x5.extract ((x0 / 16) : Int).toNat ((((x0 / 16) + 1) % 256) : Int).toNat)) ++ (x5.extract ((Go.bits .and .u8 x0 15) : Int).toNat ((((Go.bits .and .u8 x0 15) + 1) % 256) : Int).toNat)) ++ (⟨#[122]⟩ : ByteArray)) (x0 == 126)))))))) else (none)) else (none)) else (none)) else (none)) else (none)) else (none)) else (none)) else (none)) else (none)
def parallaxlaw19_PercentSigns.j1 : Nat → Int → ByteArray → Bool → Option (Bool)
  | 0, _, _, _ => none
  | k + 1, x0, x6, x7 => if 0 ≤ (x0 / 16) then (if (x0 / 16) ≤ (((x0 / 16) + 1) % 256) then (if (((x0 / 16) + 1) % 256) ≤ 16 then (if 3 + ((⟨#[48, 49, 50, 51, 52, 53, 54, 55, 56, 57, 65, 66, 67, 68, 69, 70]⟩ : ByteArray).extract ((x0 / 16) : Int).toNat ((((x0 / 16) + 1) % 256) : Int).toNat).size ≤ 9223372036854775807 then (if 0 ≤ (Go.bits .and .u8 x0 15) then (if (Go.bits .and .u8 x0 15) ≤ (((Go.bits .and .u8 x0 15) + 1) % 256) then (if (((Go.bits .and .u8 x0 15) + 1) % 256) ≤ 16 then (if ((⟨#[47, 97, 37]⟩ : ByteArray) ++ ((⟨#[48, 49, 50, 51, 52, 53, 54, 55, 56, 57, 65, 66, 67, 68, 69, 70]⟩ : ByteArray).extract ((x0 / 16) : Int).toNat ((((x0 / 16) + 1) % 256) : Int).toNat)).size + ((⟨#[48, 49, 50, 51, 52, 53, 54, 55, 56, 57, 65, 66, 67, 68, 69, 70]⟩ : ByteArray).extract ((Go.bits .and .u8 x0 15) : Int).toNat ((((Go.bits .and .u8 x0 15) + 1) % 256) : Int).toNat).size ≤ 9223372036854775807 then (if (((⟨#[47, 97, 37]⟩ : ByteArray) ++ ((⟨#[48, 49, 50, 51, 52, 53, 54, 55, 56, 57, 65, 66, 67, 68, 69, 70]⟩ : ByteArray).extract ((x0 / 16) : Int).toNat ((((x0 / 16) + 1) % 256) : Int).toNat)) ++ ((⟨#[48, 49, 50, 51, 52, 53, 54, 55, 56, 57, 65, 66, 67, 68, 69, 70]⟩ : ByteArray).extract ((Go.bits .and .u8 x0 15) : Int).toNat ((((Go.bits .and .u8 x0 15) + 1) % 256) : Int).toNat)).size + 1 ≤ 9223372036854775807 then (if x7 = true then ((some (([x0] : List Int) : List Int)).bind fun y222 => (if 2 + (strOfNums y222).size ≤ 9223372036854775807 then (if ((⟨#[47, 97]⟩ : ByteArray) ++ (strOfNums y222)).size + 1 ≤ 9223372036854775807 then (parallaxlaw19_PercentSigns.j2 k x0 x6 (((⟨#[47, 97]⟩ : ByteArray) ++ (strOfNums y222)) ++ (⟨#[122]⟩ : ByteArray))) else (none)) else (none))) else (parallaxlaw19_PercentSigns.j2 k x0 x6 ((((⟨#[47, 97, 37]⟩ : ByteArray) ++ ((⟨#[48, 49, 50, 51, 52, 53, 54, 55, 56, 57, 65, 66, 67, 68, 69, 70]⟩ : ByteArray).extract ((x0 / 16) : Int).toNat ((((x0 / 16) + 1) % 256) : Int).toNat)) ++ ((⟨#[48, 49, 50, 51, 52, 53, 54, 55, 56, 57, 65, 66, 67, 68, 69, 70]⟩ : ByteArray).extract ((Go.bits .and .u8 x0 15) : Int).toNat ((((Go.bits .and .u8 x0 15) + 1) % 256) : Int).toNat)) ++ (⟨#[122]⟩ : ByteArray)))) else (none)) else (none)) else (none)) else (none)) else (none)) else (none)) else (none)) else (none)) else (none)
def parallaxlaw19_PercentSigns.j2 : Nat → Int → ByteArray → ByteArray → Option (Bool)
  | 0, _, _, _ => none
  | k + 1, x0, x6, x8 => (percent_Norm.f k x6).bind fun bt225 => ((percent_Decode.f k x6).bind fun bt227 => ((percent_Decode.f k bt225.1).bind fun bt229 => (if bt225.2 = true then (if bt225.1.toList = x8.toList then (if bt227.2 = true then (if bt229.2 = true then (if bt227.1.toList = bt229.1.toList then ((some (([x0] : List Int) : List Int)).bind fun y231 => (if 2 + (strOfNums y231).size ≤ 9223372036854775807 then (if ((⟨#[47, 97]⟩ : ByteArray) ++ (strOfNums y231)).size + 1 ≤ 9223372036854775807 then (parallaxlaw19_PercentSigns.j3 k (bt227.1.toList == (((⟨#[47, 97]⟩ : ByteArray) ++ (strOfNums y231)) ++ (⟨#[122]⟩ : ByteArray)).toList)) else (none)) else (none))) else (parallaxlaw19_PercentSigns.j3 k false)) else (parallaxlaw19_PercentSigns.j3 k false)) else (parallaxlaw19_PercentSigns.j3 k false)) else (parallaxlaw19_PercentSigns.j3 k false)) else (parallaxlaw19_PercentSigns.j3 k false))))
def parallaxlaw19_PercentSigns.j3 : Nat → Bool → Option (Bool)
  | 0, _ => none
  | k + 1, x4 => some x4
end
def parallaxlaw19_PercentSigns.f (k : Nat) (a0 : Int) (a1 : Bool) : Option (Bool) := (parallaxlaw19_known.f k).bind fun t221 => (if t221 = true then (if a1 = true then (parallaxlaw19_PercentSigns.j0 k a0 (⟨#[48, 49, 50, 51, 52, 53, 54, 55, 56, 57, 65, 66, 67, 68, 69, 70]⟩ : ByteArray)) else (parallaxlaw19_PercentSigns.j0 k a0 (⟨#[48, 49, 50, 51, 52, 53, 54, 55, 56, 57, 97, 98, 99, 100, 101, 102]⟩ : ByteArray))) else (some false))
theorem parallaxlaw19_PercentSigns.mono_l : ∀ k, (∀ y0 y1, LeO (parallaxlaw19_PercentSigns.j0 k y0 y1) (parallaxlaw19_PercentSigns.j0 (k + 1) y0 y1)) ∧ (∀ y0 y1 y2, LeO (parallaxlaw19_PercentSigns.j1 k y0 y1 y2) (parallaxlaw19_PercentSigns.j1 (k + 1) y0 y1 y2)) ∧ (∀ y0 y1 y2, LeO (parallaxlaw19_PercentSigns.j2 k y0 y1 y2) (parallaxlaw19_PercentSigns.j2 (k + 1) y0 y1 y2)) ∧ (∀ y0, LeO (parallaxlaw19_PercentSigns.j3 k y0) (parallaxlaw19_PercentSigns.j3 (k + 1) y0))
  | 0 => ⟨fun _ _ r h => by simp [parallaxlaw19_PercentSigns.j0] at h, fun _ _ _ r h => by simp [parallaxlaw19_PercentSigns.j1] at h, fun _ _ _ r h => by simp [parallaxlaw19_PercentSigns.j2] at h, fun _ r h => by simp [parallaxlaw19_PercentSigns.j3] at h⟩
  | k + 1 => by
    obtain ⟨ih0, ih1, ih2, ih3⟩ := parallaxlaw19_PercentSigns.mono_l k
    refine ⟨?_, ?_, ?_, ?_⟩
    · intro y0 y1
      unfold parallaxlaw19_PercentSigns.j0
      repeat' first
      | (with_reducible exact ih0 _ _)
      | (with_reducible exact ih1 _ _ _)
      | (with_reducible exact ih2 _ _ _)
      | (with_reducible exact ih3 _)
      | (with_reducible exact parallaxlaw19_known.mono _)
      | (with_reducible exact percent_Decode.mono _ _)
      | (with_reducible exact percent_Norm.mono _ _)
      | (with_reducible exact LeO.refl _)
      | (with_reducible exact LeO.none _)
      | (with_reducible refine LeO.ite ?_ ?_)
      | (with_reducible refine LeO.bind ?_ (fun _ => ?_))
      | exact ih0 _ _
      | exact ih1 _ _ _
      | exact ih2 _ _ _
      | exact ih3 _
      | exact parallaxlaw19_known.mono _
      | exact percent_Decode.mono _ _
      | exact percent_Norm.mono _ _
      | exact LeO.none _
      | refine LeO.ite ?_ ?_
      | refine LeO.bind ?_ (fun _ => ?_)
    · intro y0 y1 y2
      unfold parallaxlaw19_PercentSigns.j1
      repeat' first
      | (with_reducible exact ih0 _ _)
      | (with_reducible exact ih1 _ _ _)
      | (with_reducible exact ih2 _ _ _)
      | (with_reducible exact ih3 _)
      | (with_reducible exact parallaxlaw19_known.mono _)
      | (with_reducible exact percent_Decode.mono _ _)
      | (with_reducible exact percent_Norm.mono _ _)
      | (with_reducible exact LeO.refl _)
      | (with_reducible exact LeO.none _)
      | (with_reducible refine LeO.ite ?_ ?_)
      | (with_reducible refine LeO.bind ?_ (fun _ => ?_))
      | exact ih0 _ _
      | exact ih1 _ _ _
      | exact ih2 _ _ _
      | exact ih3 _
      | exact parallaxlaw19_known.mono _
      | exact percent_Decode.mono _ _
      | exact percent_Norm.mono _ _
      | exact LeO.none _
      | refine LeO.ite ?_ ?_
      | refine LeO.bind ?_ (fun _ => ?_)
    · intro y0 y1 y2
      unfold parallaxlaw19_PercentSigns.j2
      repeat' first
      | (with_reducible exact ih0 _ _)
      | (with_reducible exact ih1 _ _ _)
      | (with_reducible exact ih2 _ _ _)
      | (with_reducible exact ih3 _)
      | (with_reducible exact parallaxlaw19_known.mono _)
      | (with_reducible exact percent_Decode.mono _ _)
      | (with_reducible exact percent_Norm.mono _ _)
      | (with_reducible exact LeO.refl _)
      | (with_reducible exact LeO.none _)
      | (with_reducible refine LeO.ite ?_ ?_)
      | (with_reducible refine LeO.bind ?_ (fun _ => ?_))
      | exact ih0 _ _
      | exact ih1 _ _ _
      | exact ih2 _ _ _
      | exact ih3 _
      | exact parallaxlaw19_known.mono _
      | exact percent_Decode.mono _ _
      | exact percent_Norm.mono _ _
      | exact LeO.none _
      | refine LeO.ite ?_ ?_
      | refine LeO.bind ?_ (fun _ => ?_)
    · intro y0
      unfold parallaxlaw19_PercentSigns.j3
      repeat' first
      | (with_reducible exact ih0 _ _)
      | (with_reducible exact ih1 _ _ _)
      | (with_reducible exact ih2 _ _ _)
      | (with_reducible exact ih3 _)
      | (with_reducible exact parallaxlaw19_known.mono _)
      | (with_reducible exact percent_Decode.mono _ _)
      | (with_reducible exact percent_Norm.mono _ _)
      | (with_reducible exact LeO.refl _)
      | (with_reducible exact LeO.none _)
      | (with_reducible refine LeO.ite ?_ ?_)
      | (with_reducible refine LeO.bind ?_ (fun _ => ?_))
      | exact ih0 _ _
      | exact ih1 _ _ _
      | exact ih2 _ _ _
      | exact ih3 _
      | exact parallaxlaw19_known.mono _
      | exact percent_Decode.mono _ _
      | exact percent_Norm.mono _ _
      | exact LeO.none _
      | refine LeO.ite ?_ ?_
      | refine LeO.bind ?_ (fun _ => ?_)
theorem parallaxlaw19_PercentSigns.mono : ∀ a0 a1 k, LeO (parallaxlaw19_PercentSigns.f k a0 a1) (parallaxlaw19_PercentSigns.f (k + 1) a0 a1) := by
  intro a0 a1 k
  obtain ⟨ih0, ih1, ih2, ih3⟩ := parallaxlaw19_PercentSigns.mono_l k
  unfold parallaxlaw19_PercentSigns.f
  repeat' first
      | (with_reducible exact ih0 _ _)
      | (with_reducible exact ih1 _ _ _)
      | (with_reducible exact ih2 _ _ _)
      | (with_reducible exact ih3 _)
      | (with_reducible exact parallaxlaw19_known.mono _)
      | (with_reducible exact percent_Decode.mono _ _)
      | (with_reducible exact percent_Norm.mono _ _)
      | (with_reducible exact LeO.refl _)
      | (with_reducible exact LeO.none _)
      | (with_reducible refine LeO.ite ?_ ?_)
      | (with_reducible refine LeO.bind ?_ (fun _ => ?_))
      | exact ih0 _ _
      | exact ih1 _ _ _
      | exact ih2 _ _ _
      | exact ih3 _
      | exact parallaxlaw19_known.mono _
      | exact percent_Decode.mono _ _
      | exact percent_Norm.mono _ _
      | exact LeO.none _
      | refine LeO.ite ?_ ?_
      | refine LeO.bind ?_ (fun _ => ?_)
set_option maxHeartbeats 8000000 in
set_option maxRecDepth 100000 in
theorem parallaxlaw19_PercentSigns.calls (k : Nat) (a0 : Int) (a1 : Bool) (r : Bool) (w : World) (hq0 : (Lit.int .u8 a0).wf = true) (hT : r = true) (h : parallaxlaw19_PercentSigns.f k a0 a1 = some r) :
    Calls Tryd.prog 5 #[.int .u8 a0, .bool a1] w fun e w' => e = .returned (.bool r) ∧ Below w.heap.size w w' := by
  have HQ0 := Aside0.mk hq0
  clear hq0
  have HT := Aside0.mk hT
  clear hT
  have HB := Aside0.mk (Below.refl w.heap.size w)
  have H : ((parallaxlaw19_known.f k).bind fun t221 => (if t221 = true then (if a1 = true then (parallaxlaw19_PercentSigns.j0 k a0 (⟨#[48, 49, 50, 51, 52, 53, 54, 55, 56, 57, 65, 66, 67, 68, 69, 70]⟩ : ByteArray)) else (parallaxlaw19_PercentSigns.j0 k a0 (⟨#[48, 49, 50, 51, 52, 53, 54, 55, 56, 57, 97, 98, 99, 100, 101, 102]⟩ : ByteArray))) else (some false))) = some r := h
  clear h
  replace H := Option.bind_eq_some_iff.mp H
  obtain ⟨t221, A30, H⟩ := H
  (try dsimp only at H)
  have A3 := Aside0.mk A30
  clear A30
  by_cases c4 : t221 = true
  · subst c4
    rw [if_pos rfl] at H
    have HC5 := Aside0.mk H
    clear H
    go_enter Tryd.func5, Tryd.ntmps5
    go_upto_if 17 with (first | (go_at_call 7; (with_reducible refine (parallaxlaw19_known.calls k  true _ rfl A3.out).mono ?_); rintro e w6 ⟨rfl, hb⟩; have n0_ := Aside0.mk (below_step (by repeat (first | (with_reducible first | exact HB.out | apply below_alloc | apply pw_below_drewN | apply below_drew1) | exact HB.out)) hb); clear HB; have HB := n0_; clear n0_; (try clear hb); (try clear hb2); (try clear hk); (try clear hi)))
    repeat (go_quiet (first | (go_at_call 7; (with_reducible refine (parallaxlaw19_known.calls k  true _ rfl A3.out).mono ?_); rintro e w6 ⟨rfl, hb⟩; have n0_ := Aside0.mk (below_step (by repeat (first | (with_reducible first | exact HB.out | apply below_alloc | apply pw_below_drewN | apply below_drew1) | exact HB.out)) hb); clear HB; have HB := n0_; clear n0_; (try clear hb); (try clear hb2); (try clear hk); (try clear hi))); go_upto_if 17 with (first | (go_at_call 7; (with_reducible refine (parallaxlaw19_known.calls k  true _ rfl A3.out).mono ?_); rintro e w6 ⟨rfl, hb⟩; have n0_ := Aside0.mk (below_step (by repeat (first | (with_reducible first | exact HB.out | apply below_alloc | apply pw_below_drewN | apply below_drew1) | exact HB.out)) hb); clear HB; have HB := n0_; clear n0_; (try clear hb); (try clear hb2); (try clear hk); (try clear hi))))
    (try simp only [Act.put, List.setIfInBounds_toArray, List.set_cons_zero, List.set_cons_succ])
    go_cut [5] (fun v5 wc => ∃ (kq : Nat) (x5_4 : ByteArray), v5 = .string x5_4 ∧ Aside0 (parallaxlaw19_PercentSigns.j0 kq a0 x5_4 = some r) ∧ Aside0 (kq ≤ k) ∧ Aside0 (Below w.heap.size w wc))
    case first =>
      have H := HC5.out
      clear HC5
      by_cases c7 : a1 = true
      · subst c7
        rw [if_pos rfl] at H
        have H' := Aside0.mk H
        clear H
        go_wp2
        repeat (go_quiet (fail); try go_wp2)
        go_meet
        case rel => exact ⟨_, ((⟨#[48, 49, 50, 51, 52, 53, 54, 55, 56, 57, 65, 66, 67, 68, 69, 70]⟩ : ByteArray)), (by first | rfl | (simp; done) | (simp [*]; done)), H', ⟨by first | omega | exact Nat.le_refl _⟩, ⟨by repeat (first | (with_reducible first | exact HB.out | apply below_alloc | apply pw_below_drewN | apply below_drew1) | exact HB.out)⟩⟩
      · replace c7 := Bool.eq_false_iff.mpr c7
        subst c7
        rw [if_neg (show ¬ (false = true) by decide)] at H
        have H' := Aside0.mk H
        clear H
        go_wp2
        repeat (go_quiet (fail); try go_wp2)
        go_meet
        case rel => exact ⟨_, ((⟨#[48, 49, 50, 51, 52, 53, 54, 55, 56, 57, 97, 98, 99, 100, 101, 102]⟩ : ByteArray)), (by first | rfl | (simp; done) | (simp [*]; done)), H', ⟨by first | omega | exact Nat.le_refl _⟩, ⟨by repeat (first | (with_reducible first | exact HB.out | apply below_alloc | apply pw_below_drewN | apply below_drew1) | exact HB.out)⟩⟩
    case rest =>
      clear HC5
      try clear p2
      try clear c4
      try clear c5
      try clear c7
      obtain ⟨kq, x5_4, rfl, HA, HJ4, HB⟩ := hcut
      cases kq with
      | zero => exact absurd HA.out (by simp [parallaxlaw19_PercentSigns.j0])
      | succ kj4 =>
        have H := HA.out
        clear HA
        simp only [parallaxlaw19_PercentSigns.j0] at H
        obtain ⟨ji8, hji8⟩ : ∃ j_ : Int, (a0 / 16) = j_ := ⟨_, rfl⟩
        replace H : (if 0 ≤ (ji8) then (if (ji8) ≤ (((ji8) + 1) % 256) then (if (((ji8) + 1) % 256) ≤ (x5_4.size : Int) then (if 3 + (x5_4.extract ((ji8) : Int).toNat ((((ji8) + 1) % 256) : Int).toNat).size ≤ 9223372036854775807 then (if 0 ≤ (Go.bits .and .u8 a0 15) then (if (Go.bits .and .u8 a0 15) ≤ (((Go.bits .and .u8 a0 15) + 1) % 256) then (if (((Go.bits .and .u8 a0 15) + 1) % 256) ≤ (x5_4.size : Int) then (if ((⟨#[47, 97, 37]⟩ : ByteArray) ++ (x5_4.extract ((ji8) : Int).toNat ((((ji8) + 1) % 256) : Int).toNat)).size + (x5_4.extract ((Go.bits .and .u8 a0 15) : Int).toNat ((((Go.bits .and .u8 a0 15) + 1) % 256) : Int).toNat).size ≤ 9223372036854775807 then (if (((⟨#[47, 97, 37]⟩ : ByteArray) ++ (x5_4.extract ((ji8) : Int).toNat ((((ji8) + 1) % 256) : Int).toNat)) ++ (x5_4.extract ((Go.bits .and .u8 a0 15) : Int).toNat ((((Go.bits .and .u8 a0 15) + 1) % 256) : Int).toNat)).size + 1 ≤ 9223372036854775807 then (if a0 ≥ 97 then (if a0 ≤ 122 then (parallaxlaw19_PercentSigns.j1 kj4 a0 ((((⟨#[47, 97, 37]⟩ : ByteArray) ++ (x5_4.extract ((ji8) : Int).toNat ((((ji8) + 1) % 256) : Int).toNat)) ++ (x5_4.extract ((Go.bits .and .u8 a0 15) : Int).toNat ((((Go.bits .and .u8 a0 15) + 1) % 256) : Int).toNat)) ++ (⟨#[122]⟩ : ByteArray)) true) else (if a0 ≥ 65 then (if a0 ≤ 90 then (parallaxlaw19_PercentSigns.j1 kj4 a0 ((((⟨#[47, 97, 37]⟩ : ByteArray) ++ (x5_4.extract ((ji8) : Int).toNat ((((ji8) + 1) % 256) : Int).toNat)) ++ (x5_4.extract ((Go.bits .and .u8 a0 15) : Int).toNat ((((Go.bits .and .u8 a0 15) + 1) % 256) : Int).toNat)) ++ (⟨#[122]⟩ : ByteArray)) true) else (if a0 ≥ 48 then (if a0 ≤ 57 then (parallaxlaw19_PercentSigns.j1 kj4 a0 ((((⟨#[47, 97, 37]⟩ : ByteArray) ++ (x5_4.extract ((ji8) : Int).toNat ((((ji8) + 1) % 256) : Int).toNat)) ++ (x5_4.extract ((Go.bits .and .u8 a0 15) : Int).toNat ((((Go.bits .and .u8 a0 15) + 1) % 256) : Int).toNat)) ++ (⟨#[122]⟩ : ByteArray)) true) else (if a0 = 45 then (parallaxlaw19_PercentSigns.j1 kj4 a0 ((((⟨#[47, 97, 37]⟩ : ByteArray) ++ (x5_4.extract ((ji8) : Int).toNat ((((ji8) + 1) % 256) : Int).toNat)) ++ (x5_4.extract ((Go.bits .and .u8 a0 15) : Int).toNat ((((Go.bits .and .u8 a0 15) + 1) % 256) : Int).toNat)) ++ (⟨#[122]⟩ : ByteArray)) true) else (if a0 = 46 then (parallaxlaw19_PercentSigns.j1 kj4 a0 ((((⟨#[47, 97, 37]⟩ : ByteArray) ++ (x5_4.extract ((ji8) : Int).toNat ((((ji8) + 1) % 256) : Int).toNat)) ++ (x5_4.extract ((Go.bits .and .u8 a0 15) : Int).toNat ((((Go.bits .and .u8 a0 15) + 1) % 256) : Int).toNat)) ++ (⟨#[122]⟩ : ByteArray)) true) else (if a0 = 95 then (parallaxlaw19_PercentSigns.j1 kj4 a0 ((((⟨#[47, 97, 37]⟩ : ByteArray) ++ (x5_4.extract ((ji8) : Int).toNat ((((ji8) + 1) % 256) : Int).toNat)) ++ (x5_4.extract ((Go.bits .and .u8 a0 15) : Int).toNat ((((Go.bits .and .u8 a0 15) + 1) % 256) : Int).toNat)) ++ (⟨#[122]⟩ : ByteArray)) true) else (parallaxlaw19_PercentSigns.j1 kj4 a0 ((((⟨#[47, 97, 37]⟩ : ByteArray) ++ (x5_4.extract ((ji8) : Int).toNat ((((ji8) + 1) % 256) : Int).toNat)) ++ (x5_4.extract ((Go.bits .and .u8 a0 15) : Int).toNat ((((Go.bits .and .u8 a0 15) + 1) % 256) : Int).toNat)) ++ (⟨#[122]⟩ : ByteArray)) (a0 == 126)))))) else (if a0 = 45 then (parallaxlaw19_PercentSigns.j1 kj4 a0 ((((⟨#[47, 97, 37]⟩ : ByteArray) ++ (x5_4.extract ((ji8) : Int).toNat ((((ji8) + 1) % 256) : Int).toNat)) ++ (x5_4.extract ((Go.bits .and .u8 a0 15) : Int).toNat ((((Go.bits .and .u8 a0 15) + 1) % 256) : Int).toNat)) ++ (⟨#[122]⟩ : ByteArray)) true) else (if a0 = 46 then (parallaxlaw19_PercentSigns.j1 kj4 a0 ((((⟨#[47, 97, 37]⟩ : ByteArray) ++ (x5_4.extract ((ji8) : Int).toNat ((((ji8) + 1) % 256) : Int).toNat)) ++ (x5_4.extract ((Go.bits .and .u8 a0 15) : Int).toNat ((((Go.bits .and .u8 a0 15) + 1) % 256) : Int).toNat)) ++ (⟨#[122]⟩ : ByteArray)) true) else (if a0 = 95 then (parallaxlaw19_PercentSigns.j1 kj4 a0 ((((⟨#[47, 97, 37]⟩ : ByteArray) ++ (x5_4.extract ((ji8) : Int).toNat ((((ji8) + 1) % 256) : Int).toNat)) ++ (x5_4.extract ((Go.bits .and .u8 a0 15) : Int).toNat ((((Go.bits .and .u8 a0 15) + 1) % 256) : Int).toNat)) ++ (⟨#[122]⟩ : ByteArray)) true) else (parallaxlaw19_PercentSigns.j1 kj4 a0 ((((⟨#[47, 97, 37]⟩ : ByteArray) ++ (x5_4.extract ((ji8) : Int).toNat ((((ji8) + 1) % 256) : Int).toNat)) ++ (x5_4.extract ((Go.bits .and .u8 a0 15) : Int).toNat ((((Go.bits .and .u8 a0 15) + 1) % 256) : Int).toNat)) ++ (⟨#[122]⟩ : ByteArray)) (a0 == 126))))))) else (if a0 ≥ 48 then (if a0 ≤ 57 then (parallaxlaw19_PercentSigns.j1 kj4 a0 ((((⟨#[47, 97, 37]⟩ : ByteArray) ++ (x5_4.extract ((ji8) : Int).toNat ((((ji8) + 1) % 256) : Int).toNat)) ++ (x5_4.extract ((Go.bits .and .u8 a0 15) : Int).toNat ((((Go.bits .and .u8 a0 15) + 1) % 256) : Int).toNat)) ++ (⟨#[122]⟩ : ByteArray)) true) else (if a0 = 45 then (parallaxlaw19_PercentSigns.j1 kj4 a0 ((((⟨#[47, 97, 37]⟩ : ByteArray) ++ (x5_4.extract ((ji8) : Int).toNat ((((ji8) + 1) % 256) : Int).toNat)) ++ (x5_4.extract ((Go.bits .and .u8 a0 15) : Int).toNat ((((Go.bits .and .u8 a0 15) + 1) % 256) : Int).toNat)) ++ (⟨#[122]⟩ : ByteArray)) true) else (if a0 = 46 then (parallaxlaw19_PercentSigns.j1 kj4 a0 ((((⟨#[47, 97, 37]⟩ : ByteArray) ++ (x5_4.extract ((ji8) : Int).toNat ((((ji8) + 1) % 256) : Int).toNat)) ++ (x5_4.extract ((Go.bits .and .u8 a0 15) : Int).toNat ((((Go.bits .and .u8 a0 15) + 1) % 256) : Int).toNat)) ++ (⟨#[122]⟩ : ByteArray)) true) else (if a0 = 95 then (parallaxlaw19_PercentSigns.j1 kj4 a0 ((((⟨#[47, 97, 37]⟩ : ByteArray) ++ (x5_4.extract ((ji8) : Int).toNat ((((ji8) + 1) % 256) : Int).toNat)) ++ (x5_4.extract ((Go.bits .and .u8 a0 15) : Int).toNat ((((Go.bits .and .u8 a0 15) + 1) % 256) : Int).toNat)) ++ (⟨#[122]⟩ : ByteArray)) true) else (parallaxlaw19_PercentSigns.j1 kj4 a0 ((((⟨#[47, 97, 37]⟩ : ByteArray) ++ (x5_4.extract ((ji8) : Int).toNat ((((ji8) + 1) % 256) : Int).toNat)) ++ (x5_4.extract ((Go.bits .and .u8 a0 15) : Int).toNat ((((Go.bits .and .u8 a0 15) + 1) % 256) : Int).toNat)) ++ (⟨#[122]⟩ : ByteArray)) (a0 == 126)))))) else (if a0 = 45 then (parallaxlaw19_PercentSigns.j1 kj4 a0 ((((⟨#[47, 97, 37]⟩ : ByteArray) ++ (x5_4.extract ((ji8) : Int).toNat ((((ji8) + 1) % 256) : Int).toNat)) ++ (x5_4.extract ((Go.bits .and .u8 a0 15) : Int).toNat ((((Go.bits .and .u8 a0 15) + 1) % 256) : Int).toNat)) ++ (⟨#[122]⟩ : ByteArray)) true) else (if a0 = 46 then (parallaxlaw19_PercentSigns.j1 kj4 a0 ((((⟨#[47, 97, 37]⟩ : ByteArray) ++ (x5_4.extract ((ji8) : Int).toNat ((((ji8) + 1) % 256) : Int).toNat)) ++ (x5_4.extract ((Go.bits .and .u8 a0 15) : Int).toNat ((((Go.bits .and .u8 a0 15) + 1) % 256) : Int).toNat)) ++ (⟨#[122]⟩ : ByteArray)) true) else (if a0 = 95 then (parallaxlaw19_PercentSigns.j1 kj4 a0 ((((⟨#[47, 97, 37]⟩ : ByteArray) ++ (x5_4.extract ((ji8) : Int).toNat ((((ji8) + 1) % 256) : Int).toNat)) ++ (x5_4.extract ((Go.bits .and .u8 a0 15) : Int).toNat ((((Go.bits .and .u8 a0 15) + 1) % 256) : Int).toNat)) ++ (⟨#[122]⟩ : ByteArray)) true) else (parallaxlaw19_PercentSigns.j1 kj4 a0 ((((⟨#[47, 97, 37]⟩ : ByteArray) ++ (x5_4.extract ((ji8) : Int).toNat ((((ji8) + 1) % 256) : Int).toNat)) ++ (x5_4.extract ((Go.bits .and .u8 a0 15) : Int).toNat ((((Go.bits .and .u8 a0 15) + 1) % 256) : Int).toNat)) ++ (⟨#[122]⟩ : ByteArray)) (a0 == 126)))))))) else (if a0 ≥ 65 then (if a0 ≤ 90 then (parallaxlaw19_PercentSigns.j1 kj4 a0 ((((⟨#[47, 97, 37]⟩ : ByteArray) ++ (x5_4.extract ((ji8) : Int).toNat ((((ji8) + 1) % 256) : Int).toNat)) ++ (x5_4.extract ((Go.bits .and .u8 a0 15) : Int).toNat ((((Go.bits .and .u8 a0 15) + 1) % 256) : Int).toNat)) ++ (⟨#[122]⟩ : ByteArray)) true) else (if a0 ≥ 48 then (if a0 ≤ 57 then (parallaxlaw19_PercentSigns.j1 kj4 a0 ((((⟨#[47, 97, 37]⟩ : ByteArray) ++ (x5_4.extract ((ji8) : Int).toNat ((((ji8) + 1) % 256) : Int).toNat)) ++ (x5_4.extract ((Go.bits .and .u8 a0 15) : Int).toNat ((((Go.bits .and .u8 a0 15) + 1) % 256) : Int).toNat)) ++ (⟨#[122]⟩ : ByteArray)) true) else (if a0 = 45 then (parallaxlaw19_PercentSigns.j1 kj4 a0 ((((⟨#[47, 97, 37]⟩ : ByteArray) ++ (x5_4.extract ((ji8) : Int).toNat ((((ji8) + 1) % 256) : Int).toNat)) ++ (x5_4.extract ((Go.bits .and .u8 a0 15) : Int).toNat ((((Go.bits .and .u8 a0 15) + 1) % 256) : Int).toNat)) ++ (⟨#[122]⟩ : ByteArray)) true) else (if a0 = 46 then (parallaxlaw19_PercentSigns.j1 kj4 a0 ((((⟨#[47, 97, 37]⟩ : ByteArray) ++ (x5_4.extract ((ji8) : Int).toNat ((((ji8) + 1) % 256) : Int).toNat)) ++ (x5_4.extract ((Go.bits .and .u8 a0 15) : Int).toNat ((((Go.bits .and .u8 a0 15) + 1) % 256) : Int).toNat)) ++ (⟨#[122]⟩ : ByteArray)) true) else (if a0 = 95 then (parallaxlaw19_PercentSigns.j1 kj4 a0 ((((⟨#[47, 97, 37]⟩ : ByteArray) ++ (x5_4.extract ((ji8) : Int).toNat ((((ji8) + 1) % 256) : Int).toNat)) ++ (x5_4.extract ((Go.bits .and .u8 a0 15) : Int).toNat ((((Go.bits .and .u8 a0 15) + 1) % 256) : Int).toNat)) ++ (⟨#[122]⟩ : ByteArray)) true) else (parallaxlaw19_PercentSigns.j1 kj4 a0 ((((⟨#[47, 97, 37]⟩ : ByteArray) ++ (x5_4.extract ((ji8) : Int).toNat ((((ji8) + 1) % 256) : Int).toNat)) ++ (x5_4.extract ((Go.bits .and .u8 a0 15) : Int).toNat ((((Go.bits .and .u8 a0 15) + 1) % 256) : Int).toNat)) ++ (⟨#[122]⟩ : ByteArray)) (a0 == 126)))))) else (if a0 = 45 then (parallaxlaw19_PercentSigns.j1 kj4 a0 ((((⟨#[47, 97, 37]⟩ : ByteArray) ++ (x5_4.extract ((ji8) : Int).toNat ((((ji8) + 1) % 256) : Int).toNat)) ++ (x5_4.extract ((Go.bits .and .u8 a0 15) : Int).toNat ((((Go.bits .and .u8 a0 15) + 1) % 256) : Int).toNat)) ++ (⟨#[122]⟩ : ByteArray)) true) else (if a0 = 46 then (parallaxlaw19_PercentSigns.j1 kj4 a0 ((((⟨#[47, 97, 37]⟩ : ByteArray) ++ (x5_4.extract ((ji8) : Int).toNat ((((ji8) + 1) % 256) : Int).toNat)) ++ (x5_4.extract ((Go.bits .and .u8 a0 15) : Int).toNat ((((Go.bits .and .u8 a0 15) + 1) % 256) : Int).toNat)) ++ (⟨#[122]⟩ : ByteArray)) true) else (if a0 = 95 then (parallaxlaw19_PercentSigns.j1 kj4 a0 ((((⟨#[47, 97, 37]⟩ : ByteArray) ++ (x5_4.extract ((ji8) : Int).toNat ((((ji8) + 1) % 256) : Int).toNat)) ++ (x5_4.extract ((Go.bits .and .u8 a0 15) : Int).toNat ((((Go.bits .and .u8 a0 15) + 1) % 256) : Int).toNat)) ++ (⟨#[122]⟩ : ByteArray)) true) else (parallaxlaw19_PercentSigns.j1 kj4 a0 ((((⟨#[47, 97, 37]⟩ : ByteArray) ++ (x5_4.extract ((ji8) : Int).toNat ((((ji8) + 1) % 256) : Int).toNat)) ++ (x5_4.extract ((Go.bits .and .u8 a0 15) : Int).toNat ((((Go.bits .and .u8 a0 15) + 1) % 256) : Int).toNat)) ++ (⟨#[122]⟩ : ByteArray)) (a0 == 126))))))) else (if a0 ≥ 48 then (if a0 ≤ 57 then (parallaxlaw19_PercentSigns.j1 kj4 a0 ((((⟨#[47, 97, 37]⟩ : ByteArray) ++ (x5_4.extract ((ji8) : Int).toNat ((((ji8) + 1) % 256) : Int).toNat)) ++ (x5_4.extract ((Go.bits .and .u8 a0 15) : Int).toNat ((((Go.bits .and .u8 a0 15) + 1) % 256) : Int).toNat)) ++ (⟨#[122]⟩ : ByteArray)) true) else (if a0 = 45 then (parallaxlaw19_PercentSigns.j1 kj4 a0 ((((⟨#[47, 97, 37]⟩ : ByteArray) ++ (x5_4.extract ((ji8) : Int).toNat ((((ji8) + 1) % 256) : Int).toNat)) ++ (x5_4.extract ((Go.bits .and .u8 a0 15) : Int).toNat ((((Go.bits .and .u8 a0 15) + 1) % 256) : Int).toNat)) ++ (⟨#[122]⟩ : ByteArray)) true) else (if a0 = 46 then (parallaxlaw19_PercentSigns.j1 kj4 a0 ((((⟨#[47, 97, 37]⟩ : ByteArray) ++ (x5_4.extract ((ji8) : Int).toNat ((((ji8) + 1) % 256) : Int).toNat)) ++ (x5_4.extract ((Go.bits .and .u8 a0 15) : Int).toNat ((((Go.bits .and .u8 a0 15) + 1) % 256) : Int).toNat)) ++ (⟨#[122]⟩ : ByteArray)) true) else (if a0 = 95 then (parallaxlaw19_PercentSigns.j1 kj4 a0 ((((⟨#[47, 97, 37]⟩ : ByteArray) ++ (x5_4.extract ((ji8) : Int).toNat ((((ji8) + 1) % 256) : Int).toNat)) ++ (x5_4.extract ((Go.bits .and .u8 a0 15) : Int).toNat ((((Go.bits .and .u8 a0 15) + 1) % 256) : Int).toNat)) ++ (⟨#[122]⟩ : ByteArray)) true) else (parallaxlaw19_PercentSigns.j1 kj4 a0 ((((⟨#[47, 97, 37]⟩ : ByteArray) ++ (x5_4.extract ((ji8) : Int).toNat ((((ji8) + 1) % 256) : Int).toNat)) ++ (x5_4.extract ((Go.bits .and .u8 a0 15) : Int).toNat ((((Go.bits .and .u8 a0 15) + 1) % 256) : Int).toNat)) ++ (⟨#[122]⟩ : ByteArray)) (a0 == 126)))))) else (if a0 = 45 then (parallaxlaw19_PercentSigns.j1 kj4 a0 ((((⟨#[47, 97, 37]⟩ : ByteArray) ++ (x5_4.extract ((ji8) : Int).toNat ((((ji8) + 1) % 256) : Int).toNat)) ++ (x5_4.extract ((Go.bits .and .u8 a0 15) : Int).toNat ((((Go.bits .and .u8 a0 15) + 1) % 256) : Int).toNat)) ++ (⟨#[122]⟩ : ByteArray)) true) else (if a0 = 46 then (parallaxlaw19_PercentSigns.j1 kj4 a0 ((((⟨#[47, 97, 37]⟩ : ByteArray) ++ (x5_4.extract ((ji8) : Int).toNat ((((ji8) + 1) % 256) : Int).toNat)) ++ (x5_4.extract ((Go.bits .and .u8 a0 15) : Int).toNat ((((Go.bits .and .u8 a0 15) + 1) % 256) : Int).toNat)) ++ (⟨#[122]⟩ : ByteArray)) true) else (if a0 = 95 then (parallaxlaw19_PercentSigns.j1 kj4 a0 ((((⟨#[47, 97, 37]⟩ : ByteArray) ++ (x5_4.extract ((ji8) : Int).toNat ((((ji8) + 1) % 256) : Int).toNat)) ++ (x5_4.extract ((Go.bits .and .u8 a0 15) : Int).toNat ((((Go.bits .and .u8 a0 15) + 1) % 256) : Int).toNat)) ++ (⟨#[122]⟩ : ByteArray)) true) else (parallaxlaw19_PercentSigns.j1 kj4 a0 ((((⟨#[47, 97, 37]⟩ : ByteArray) ++ (x5_4.extract ((ji8) : Int).toNat ((((ji8) + 1) % 256) : Int).toNat)) ++ (x5_4.extract ((Go.bits .and .u8 a0 15) : Int).toNat ((((Go.bits .and .u8 a0 15) + 1) % 256) : Int).toNat)) ++ (⟨#[122]⟩ : ByteArray)) (a0 == 126)))))))) else (none)) else (none)) else (none)) else (none)) else (none)) else (none)) else (none)) else (none)) else (none)) = some r := by first | (rw [hji8] at H; exact H) | (simp only [hji8] at H ⊢; exact H)
        by_cases c9 : 0 ≤ (ji8)
        · rw [if_pos c9] at H
          have c9b0 := eq_true c9
          have c9b1 : decide (0 ≤ (ji8)) = true := decide_eq_true c9
          clear c9
          by_cases c10 : (ji8) ≤ (((ji8) + 1) % 256)
          · rw [if_pos c10] at H
            have c10b0 := eq_true c10
            have c10b1 : decide ((ji8) ≤ (((ji8) + 1) % 256)) = true := decide_eq_true c10
            by_cases c11 : (((ji8) + 1) % 256) ≤ (x5_4.size : Int)
            · rw [if_pos c11] at H
              have c11b0 := eq_true c11
              have c11b1 : decide ((((ji8) + 1) % 256) ≤ (x5_4.size : Int)) = true := decide_eq_true c11
              by_cases c12 : 3 + (x5_4.extract ((ji8) : Int).toNat ((((ji8) + 1) % 256) : Int).toNat).size ≤ 9223372036854775807
              · rw [if_pos c12] at H
                have c12b0 := eq_true c12
                (try (have c12b0n := c12b0; simp only [ByteArray.size_extract, Nat.min_self, Int.toNat_natCast] at c12b0n))
                have c12b1 : decide (3 + (x5_4.extract ((ji8) : Int).toNat ((((ji8) + 1) % 256) : Int).toNat).size ≤ 9223372036854775807) = true := decide_eq_true c12
                (try (have c12b1n := c12b1; simp only [ByteArray.size_extract, Nat.min_self, Int.toNat_natCast] at c12b1n))
                try have c12b2 : (9223372036854775807 < 3 + (x5_4.extract ((ji8) : Int).toNat ((((ji8) + 1) % 256) : Int).toNat).size) = False := eq_false (Nat.not_lt.2 c12)
                (try (have c12b2n := c12b2; simp only [ByteArray.size_extract, Nat.min_self, Int.toNat_natCast] at c12b2n))
                by_cases c13 : 0 ≤ (Go.bits .and .u8 a0 15)
                · rw [if_pos c13] at H
                  have c13b0 := eq_true c13
                  have c13b1 : decide (0 ≤ (Go.bits .and .u8 a0 15)) = true := decide_eq_true c13
                  clear c13
                  by_cases c14 : (Go.bits .and .u8 a0 15) ≤ (((Go.bits .and .u8 a0 15) + 1) % 256)
                  · rw [if_pos c14] at H
                    have c14b0 := eq_true c14
                    have c14b1 : decide ((Go.bits .and .u8 a0 15) ≤ (((Go.bits .and .u8 a0 15) + 1) % 256)) = true := decide_eq_true c14
                    by_cases c15 : (((Go.bits .and .u8 a0 15) + 1) % 256) ≤ (x5_4.size : Int)
                    · rw [if_pos c15] at H
                      have c15b0 := eq_true c15
                      have c15b1 : decide ((((Go.bits .and .u8 a0 15) + 1) % 256) ≤ (x5_4.size : Int)) = true := decide_eq_true c15
                      by_cases c16 : ((⟨#[47, 97, 37]⟩ : ByteArray) ++ (x5_4.extract ((ji8) : Int).toNat ((((ji8) + 1) % 256) : Int).toNat)).size + (x5_4.extract ((Go.bits .and .u8 a0 15) : Int).toNat ((((Go.bits .and .u8 a0 15) + 1) % 256) : Int).toNat).size ≤ 9223372036854775807
                      · rw [if_pos c16] at H
                        have c16b0 := eq_true c16
                        (try (have c16b0n := c16b0; simp only [ByteArray.size_extract, Nat.min_self, Int.toNat_natCast] at c16b0n))
                        have c16b1 : decide (((⟨#[47, 97, 37]⟩ : ByteArray) ++ (x5_4.extract ((ji8) : Int).toNat ((((ji8) + 1) % 256) : Int).toNat)).size + (x5_4.extract ((Go.bits .and .u8 a0 15) : Int).toNat ((((Go.bits .and .u8 a0 15) + 1) % 256) : Int).toNat).size ≤ 9223372036854775807) = true := decide_eq_true c16
                        (try (have c16b1n := c16b1; simp only [ByteArray.size_extract, Nat.min_self, Int.toNat_natCast] at c16b1n))
                        try have c16b2 : (9223372036854775807 < ((⟨#[47, 97, 37]⟩ : ByteArray) ++ (x5_4.extract ((ji8) : Int).toNat ((((ji8) + 1) % 256) : Int).toNat)).size + (x5_4.extract ((Go.bits .and .u8 a0 15) : Int).toNat ((((Go.bits .and .u8 a0 15) + 1) % 256) : Int).toNat).size) = False := eq_false (Nat.not_lt.2 c16)
                        (try (have c16b2n := c16b2; simp only [ByteArray.size_extract, Nat.min_self, Int.toNat_natCast] at c16b2n))
                        (try (have c16b3 : (9223372036854775807 < 3 + (x5_4.extract ((ji8) : Int).toNat ((((ji8) + 1) % 256) : Int).toNat).size + (x5_4.extract ((Go.bits .and .u8 a0 15) : Int).toNat ((((Go.bits .and .u8 a0 15) + 1) % 256) : Int).toNat).size) = False := eq_false (by have h_ := c16; simp only [ByteArray.size_append] at h_; exact Nat.not_lt.mpr h_)))
                        (try (have c16b4 : decide (3 + (x5_4.extract ((ji8) : Int).toNat ((((ji8) + 1) % 256) : Int).toNat).size + (x5_4.extract ((Go.bits .and .u8 a0 15) : Int).toNat ((((Go.bits .and .u8 a0 15) + 1) % 256) : Int).toNat).size ≤ 9223372036854775807) = true := decide_eq_true (by have h_ := c16; simp only [ByteArray.size_append] at h_; exact h_)))
                        by_cases c17 : (((⟨#[47, 97, 37]⟩ : ByteArray) ++ (x5_4.extract ((ji8) : Int).toNat ((((ji8) + 1) % 256) : Int).toNat)) ++ (x5_4.extract ((Go.bits .and .u8 a0 15) : Int).toNat ((((Go.bits .and .u8 a0 15) + 1) % 256) : Int).toNat)).size + 1 ≤ 9223372036854775807
                        · rw [if_pos c17] at H
                          have c17b0 := eq_true c17
                          (try (have c17b0n := c17b0; simp only [ByteArray.size_extract, Nat.min_self, Int.toNat_natCast] at c17b0n))
                          have c17b1 : decide ((((⟨#[47, 97, 37]⟩ : ByteArray) ++ (x5_4.extract ((ji8) : Int).toNat ((((ji8) + 1) % 256) : Int).toNat)) ++ (x5_4.extract ((Go.bits .and .u8 a0 15) : Int).toNat ((((Go.bits .and .u8 a0 15) + 1) % 256) : Int).toNat)).size + 1 ≤ 9223372036854775807) = true := decide_eq_true c17
                          (try (have c17b1n := c17b1; simp only [ByteArray.size_extract, Nat.min_self, Int.toNat_natCast] at c17b1n))
                          try have c17b2 : (9223372036854775807 < (((⟨#[47, 97, 37]⟩ : ByteArray) ++ (x5_4.extract ((ji8) : Int).toNat ((((ji8) + 1) % 256) : Int).toNat)) ++ (x5_4.extract ((Go.bits .and .u8 a0 15) : Int).toNat ((((Go.bits .and .u8 a0 15) + 1) % 256) : Int).toNat)).size + 1) = False := eq_false (Nat.not_lt.2 c17)
                          (try (have c17b2n := c17b2; simp only [ByteArray.size_extract, Nat.min_self, Int.toNat_natCast] at c17b2n))
                          (try (have c17b3 : (9223372036854775807 < (3 + (x5_4.extract ((ji8) : Int).toNat ((((ji8) + 1) % 256) : Int).toNat).size) + (x5_4.extract ((Go.bits .and .u8 a0 15) : Int).toNat ((((Go.bits .and .u8 a0 15) + 1) % 256) : Int).toNat).size + 1) = False := eq_false (by have h_ := c17; simp only [ByteArray.size_append] at h_; exact Nat.not_lt.mpr h_)))
                          (try (have c17b4 : decide ((3 + (x5_4.extract ((ji8) : Int).toNat ((((ji8) + 1) % 256) : Int).toNat).size) + (x5_4.extract ((Go.bits .and .u8 a0 15) : Int).toNat ((((Go.bits .and .u8 a0 15) + 1) % 256) : Int).toNat).size + 1 ≤ 9223372036854775807) = true := decide_eq_true (by have h_ := c17; simp only [ByteArray.size_append] at h_; exact h_)))
                          have HC18 := Aside0.mk H
                          clear H
                          go_upto_region 7 with (fail)
                          repeat (go_quiet (fail); go_upto_region 7 with (fail))
                          have H_ := HC18.out
                          clear HC18
                          generalize hT_ : ((((⟨#[47, 97, 37]⟩ : ByteArray) ++ (x5_4.extract ((ji8) : Int).toNat ((((ji8) + 1) % 256) : Int).toNat)) ++ (x5_4.extract ((Go.bits .and .u8 a0 15) : Int).toNat ((((Go.bits .and .u8 a0 15) + 1) % 256) : Int).toNat)) ++ (⟨#[122]⟩ : ByteArray)) = T_ at H_ ⊢
                          have HC18 := Aside0.mk H_
                          clear H_
                          go_cut [7] (fun v7 wc => ∃ (kq : Nat) (x7_17 : Bool), v7 = .bool x7_17 ∧ Aside0 (parallaxlaw19_PercentSigns.j1 kq a0 T_ x7_17 = some r) ∧ Aside0 (kq ≤ kj4) ∧ Aside0 (Below w.heap.size w wc))
                          case first => as_aux_lemma =>
                            have H := HC18.out
                            clear HC18
                            by_cases c19 : a0 ≥ 97
                            · rw [if_pos c19] at H
                              have c19b0 : decide (97 ≤ a0) = true := decide_eq_true c19
                              clear c19
                              (first | rw [c19b0] | (simp only [i64_w, i32_w]; rw [c19b0]) | skip)
                              by_cases c20 : a0 ≤ 122
                              · rw [if_pos c20] at H
                                have c20b0 : decide (a0 ≤ 122) = true := decide_eq_true c20
                                clear c20
                                have H' := Aside0.mk H
                                clear H
                                go_wp2
                                repeat (go_quiet (fail); try go_wp2)
                                go_meet
                                case rel => exact ⟨_, (true), (by first | rfl | (simp; done) | (simp [*]; done)), H', ⟨by have := HJ4.out; first | omega | exact Nat.le_refl _⟩, ⟨by repeat (first | (with_reducible first | exact HB.out | apply below_alloc | apply pw_below_drewN | apply below_drew1) | exact HB.out)⟩⟩
                              · rw [if_neg c20] at H
                                have c20b0 : decide (a0 ≤ 122) = false := decide_eq_false c20
                                clear c20
                                by_cases c21 : a0 ≥ 65
                                · rw [if_pos c21] at H
                                  have c21b0 : decide (65 ≤ a0) = true := decide_eq_true c21
                                  clear c21
                                  by_cases c22 : a0 ≤ 90
                                  · rw [if_pos c22] at H
                                    have c22b0 : decide (a0 ≤ 90) = true := decide_eq_true c22
                                    clear c22
                                    have H' := Aside0.mk H
                                    clear H
                                    go_wp2
                                    repeat (go_quiet (fail); try go_wp2)
                                    go_meet
                                    case rel => exact ⟨_, (true), (by first | rfl | (simp; done) | (simp [*]; done)), H', ⟨by have := HJ4.out; first | omega | exact Nat.le_refl _⟩, ⟨by repeat (first | (with_reducible first | exact HB.out | apply below_alloc | apply pw_below_drewN | apply below_drew1) | exact HB.out)⟩⟩
                                  · rw [if_neg c22] at H
                                    have c22b0 : decide (a0 ≤ 90) = false := decide_eq_false c22
                                    clear c22
                                    by_cases c23 : a0 ≥ 48
                                    · rw [if_pos c23] at H
                                      have c23b0 : decide (48 ≤ a0) = true := decide_eq_true c23
                                      clear c23
                                      by_cases c24 : a0 ≤ 57
                                      · rw [if_pos c24] at H
                                        have c24b0 : decide (a0 ≤ 57) = true := decide_eq_true c24
                                        clear c24
                                        have H' := Aside0.mk H
                                        clear H
                                        go_wp2
                                        repeat (go_quiet (fail); try go_wp2)
                                        go_meet
                                        case rel => exact ⟨_, (true), (by first | rfl | (simp; done) | (simp [*]; done)), H', ⟨by have := HJ4.out; first | omega | exact Nat.le_refl _⟩, ⟨by repeat (first | (with_reducible first | exact HB.out | apply below_alloc | apply pw_below_drewN | apply below_drew1) | exact HB.out)⟩⟩
                                      · rw [if_neg c24] at H
                                        have c24b0 : decide (a0 ≤ 57) = false := decide_eq_false c24
                                        clear c24
                                        by_cases c25 : a0 = 45
                                        · rw [if_pos c25] at H
                                          have c25b0 : (a0 == 45) = true := beq_iff_eq.mpr c25
                                          have c25b1 : (a0 != 45) = false := bne_eq_false_iff_eq.mpr c25
                                          clear c25
                                          have H' := Aside0.mk H
                                          clear H
                                          go_wp2
                                          repeat (go_quiet (fail); try go_wp2)
                                          go_meet
                                          case rel => exact ⟨_, (true), (by first | rfl | (simp; done) | (simp [*]; done)), H', ⟨by have := HJ4.out; first | omega | exact Nat.le_refl _⟩, ⟨by repeat (first | (with_reducible first | exact HB.out | apply below_alloc | apply pw_below_drewN | apply below_drew1) | exact HB.out)⟩⟩
                                        · rw [if_neg c25] at H
                                          have c25b0 : (a0 == 45) = false := beq_eq_false_iff_ne.mpr c25
                                          have c25b1 : (a0 != 45) = true := bne_iff_ne.mpr c25
                                          by_cases c26 : a0 = 46
                                          · rw [if_pos c26] at H
                                            have c26b0 : (a0 == 46) = true := beq_iff_eq.mpr c26
                                            have c26b1 : (a0 != 46) = false := bne_eq_false_iff_eq.mpr c26
                                            clear c26
                                            have H' := Aside0.mk H
                                            clear H
                                            go_wp2
                                            repeat (go_quiet (fail); try go_wp2)
                                            go_meet
                                            case rel => exact ⟨_, (true), (by first | rfl | (simp; done) | (simp [*]; done)), H', ⟨by have := HJ4.out; first | omega | exact Nat.le_refl _⟩, ⟨by repeat (first | (with_reducible first | exact HB.out | apply below_alloc | apply pw_below_drewN | apply below_drew1) | exact HB.out)⟩⟩
                                          · rw [if_neg c26] at H
                                            have c26b0 : (a0 == 46) = false := beq_eq_false_iff_ne.mpr c26
                                            have c26b1 : (a0 != 46) = true := bne_iff_ne.mpr c26
                                            by_cases c27 : a0 = 95
                                            · rw [if_pos c27] at H
                                              have c27b0 : (a0 == 95) = true := beq_iff_eq.mpr c27
                                              have c27b1 : (a0 != 95) = false := bne_eq_false_iff_eq.mpr c27
                                              clear c27
                                              have H' := Aside0.mk H
                                              clear H
                                              go_wp2
                                              repeat (go_quiet (fail); try go_wp2)
                                              go_meet
                                              case rel => exact ⟨_, (true), (by first | rfl | (simp; done) | (simp [*]; done)), H', ⟨by have := HJ4.out; first | omega | exact Nat.le_refl _⟩, ⟨by repeat (first | (with_reducible first | exact HB.out | apply below_alloc | apply pw_below_drewN | apply below_drew1) | exact HB.out)⟩⟩
                                            · rw [if_neg c27] at H
                                              have c27b0 : (a0 == 95) = false := beq_eq_false_iff_ne.mpr c27
                                              have c27b1 : (a0 != 95) = true := bne_iff_ne.mpr c27
                                              have H' := Aside0.mk H
                                              clear H
                                              go_wp2
                                              repeat (go_quiet (fail); try go_wp2)
                                              go_meet
                                              case rel => exact ⟨_, ((a0 == 126)), (by first | rfl | (simp; done) | (simp [*]; done)), H', ⟨by have := HJ4.out; first | omega | exact Nat.le_refl _⟩, ⟨by repeat (first | (with_reducible first | exact HB.out | apply below_alloc | apply pw_below_drewN | apply below_drew1) | exact HB.out)⟩⟩
                                    · rw [if_neg c23] at H
                                      have c23b0 : decide (48 ≤ a0) = false := decide_eq_false c23
                                      clear c23
                                      by_cases c28 : a0 = 45
                                      · rw [if_pos c28] at H
                                        have c28b0 : (a0 == 45) = true := beq_iff_eq.mpr c28
                                        have c28b1 : (a0 != 45) = false := bne_eq_false_iff_eq.mpr c28
                                        clear c28
                                        have H' := Aside0.mk H
                                        clear H
                                        go_wp2
                                        repeat (go_quiet (fail); try go_wp2)
                                        go_meet
                                        case rel => exact ⟨_, (true), (by first | rfl | (simp; done) | (simp [*]; done)), H', ⟨by have := HJ4.out; first | omega | exact Nat.le_refl _⟩, ⟨by repeat (first | (with_reducible first | exact HB.out | apply below_alloc | apply pw_below_drewN | apply below_drew1) | exact HB.out)⟩⟩
                                      · rw [if_neg c28] at H
                                        have c28b0 : (a0 == 45) = false := beq_eq_false_iff_ne.mpr c28
                                        have c28b1 : (a0 != 45) = true := bne_iff_ne.mpr c28
                                        by_cases c29 : a0 = 46
                                        · rw [if_pos c29] at H
                                          have c29b0 : (a0 == 46) = true := beq_iff_eq.mpr c29
                                          have c29b1 : (a0 != 46) = false := bne_eq_false_iff_eq.mpr c29
                                          clear c29
                                          have H' := Aside0.mk H
                                          clear H
                                          go_wp2
                                          repeat (go_quiet (fail); try go_wp2)
                                          go_meet
                                          case rel => exact ⟨_, (true), (by first | rfl | (simp; done) | (simp [*]; done)), H', ⟨by have := HJ4.out; first | omega | exact Nat.le_refl _⟩, ⟨by repeat (first | (with_reducible first | exact HB.out | apply below_alloc | apply pw_below_drewN | apply below_drew1) | exact HB.out)⟩⟩
                                        · rw [if_neg c29] at H
                                          have c29b0 : (a0 == 46) = false := beq_eq_false_iff_ne.mpr c29
                                          have c29b1 : (a0 != 46) = true := bne_iff_ne.mpr c29
                                          by_cases c30 : a0 = 95
                                          · rw [if_pos c30] at H
                                            have c30b0 : (a0 == 95) = true := beq_iff_eq.mpr c30
                                            have c30b1 : (a0 != 95) = false := bne_eq_false_iff_eq.mpr c30
                                            clear c30
                                            have H' := Aside0.mk H
                                            clear H
                                            go_wp2
                                            repeat (go_quiet (fail); try go_wp2)
                                            go_meet
                                            case rel => exact ⟨_, (true), (by first | rfl | (simp; done) | (simp [*]; done)), H', ⟨by have := HJ4.out; first | omega | exact Nat.le_refl _⟩, ⟨by repeat (first | (with_reducible first | exact HB.out | apply below_alloc | apply pw_below_drewN | apply below_drew1) | exact HB.out)⟩⟩
                                          · rw [if_neg c30] at H
                                            have c30b0 : (a0 == 95) = false := beq_eq_false_iff_ne.mpr c30
                                            have c30b1 : (a0 != 95) = true := bne_iff_ne.mpr c30
                                            have H' := Aside0.mk H
                                            clear H
                                            go_wp2
                                            repeat (go_quiet (fail); try go_wp2)
                                            go_meet
                                            case rel => exact ⟨_, ((a0 == 126)), (by first | rfl | (simp; done) | (simp [*]; done)), H', ⟨by have := HJ4.out; first | omega | exact Nat.le_refl _⟩, ⟨by repeat (first | (with_reducible first | exact HB.out | apply below_alloc | apply pw_below_drewN | apply below_drew1) | exact HB.out)⟩⟩
                                · rw [if_neg c21] at H
                                  have c21b0 : decide (65 ≤ a0) = false := decide_eq_false c21
                                  clear c21
                                  by_cases c31 : a0 ≥ 48
                                  · rw [if_pos c31] at H
                                    have c31b0 : decide (48 ≤ a0) = true := decide_eq_true c31
                                    clear c31
                                    by_cases c32 : a0 ≤ 57
                                    · rw [if_pos c32] at H
                                      have c32b0 : decide (a0 ≤ 57) = true := decide_eq_true c32
                                      clear c32
                                      have H' := Aside0.mk H
                                      clear H
                                      go_wp2
                                      repeat (go_quiet (fail); try go_wp2)
                                      go_meet
                                      case rel => exact ⟨_, (true), (by first | rfl | (simp; done) | (simp [*]; done)), H', ⟨by have := HJ4.out; first | omega | exact Nat.le_refl _⟩, ⟨by repeat (first | (with_reducible first | exact HB.out | apply below_alloc | apply pw_below_drewN | apply below_drew1) | exact HB.out)⟩⟩
                                    · rw [if_neg c32] at H
                                      have c32b0 : decide (a0 ≤ 57) = false := decide_eq_false c32
                                      clear c32
                                      by_cases c33 : a0 = 45
                                      · rw [if_pos c33] at H
                                        have c33b0 : (a0 == 45) = true := beq_iff_eq.mpr c33
                                        have c33b1 : (a0 != 45) = false := bne_eq_false_iff_eq.mpr c33
                                        clear c33
                                        have H' := Aside0.mk H
                                        clear H
                                        go_wp2
                                        repeat (go_quiet (fail); try go_wp2)
                                        go_meet
                                        case rel => exact ⟨_, (true), (by first | rfl | (simp; done) | (simp [*]; done)), H', ⟨by have := HJ4.out; first | omega | exact Nat.le_refl _⟩, ⟨by repeat (first | (with_reducible first | exact HB.out | apply below_alloc | apply pw_below_drewN | apply below_drew1) | exact HB.out)⟩⟩
                                      · rw [if_neg c33] at H
                                        have c33b0 : (a0 == 45) = false := beq_eq_false_iff_ne.mpr c33
                                        have c33b1 : (a0 != 45) = true := bne_iff_ne.mpr c33
                                        by_cases c34 : a0 = 46
                                        · rw [if_pos c34] at H
                                          have c34b0 : (a0 == 46) = true := beq_iff_eq.mpr c34
                                          have c34b1 : (a0 != 46) = false := bne_eq_false_iff_eq.mpr c34
                                          clear c34
                                          have H' := Aside0.mk H
                                          clear H
                                          go_wp2
                                          repeat (go_quiet (fail); try go_wp2)
                                          go_meet
                                          case rel => exact ⟨_, (true), (by first | rfl | (simp; done) | (simp [*]; done)), H', ⟨by have := HJ4.out; first | omega | exact Nat.le_refl _⟩, ⟨by repeat (first | (with_reducible first | exact HB.out | apply below_alloc | apply pw_below_drewN | apply below_drew1) | exact HB.out)⟩⟩
                                        · rw [if_neg c34] at H
                                          have c34b0 : (a0 == 46) = false := beq_eq_false_iff_ne.mpr c34
                                          have c34b1 : (a0 != 46) = true := bne_iff_ne.mpr c34
                                          by_cases c35 : a0 = 95
                                          · rw [if_pos c35] at H
                                            have c35b0 : (a0 == 95) = true := beq_iff_eq.mpr c35
                                            have c35b1 : (a0 != 95) = false := bne_eq_false_iff_eq.mpr c35
                                            clear c35
                                            have H' := Aside0.mk H
                                            clear H
                                            go_wp2
                                            repeat (go_quiet (fail); try go_wp2)
                                            go_meet
                                            case rel => exact ⟨_, (true), (by first | rfl | (simp; done) | (simp [*]; done)), H', ⟨by have := HJ4.out; first | omega | exact Nat.le_refl _⟩, ⟨by repeat (first | (with_reducible first | exact HB.out | apply below_alloc | apply pw_below_drewN | apply below_drew1) | exact HB.out)⟩⟩
                                          · rw [if_neg c35] at H
                                            have c35b0 : (a0 == 95) = false := beq_eq_false_iff_ne.mpr c35
                                            have c35b1 : (a0 != 95) = true := bne_iff_ne.mpr c35
                                            have H' := Aside0.mk H
                                            clear H
                                            go_wp2
                                            repeat (go_quiet (fail); try go_wp2)
                                            go_meet
                                            case rel => exact ⟨_, ((a0 == 126)), (by first | rfl | (simp; done) | (simp [*]; done)), H', ⟨by have := HJ4.out; first | omega | exact Nat.le_refl _⟩, ⟨by repeat (first | (with_reducible first | exact HB.out | apply below_alloc | apply pw_below_drewN | apply below_drew1) | exact HB.out)⟩⟩
                                  · rw [if_neg c31] at H
                                    have c31b0 : decide (48 ≤ a0) = false := decide_eq_false c31
                                    clear c31
                                    by_cases c36 : a0 = 45
                                    · rw [if_pos c36] at H
                                      have c36b0 : (a0 == 45) = true := beq_iff_eq.mpr c36
                                      have c36b1 : (a0 != 45) = false := bne_eq_false_iff_eq.mpr c36
                                      clear c36
                                      have H' := Aside0.mk H
                                      clear H
                                      go_wp2
                                      repeat (go_quiet (fail); try go_wp2)
                                      go_meet
                                      case rel => exact ⟨_, (true), (by first | rfl | (simp; done) | (simp [*]; done)), H', ⟨by have := HJ4.out; first | omega | exact Nat.le_refl _⟩, ⟨by repeat (first | (with_reducible first | exact HB.out | apply below_alloc | apply pw_below_drewN | apply below_drew1) | exact HB.out)⟩⟩
                                    · rw [if_neg c36] at H
                                      have c36b0 : (a0 == 45) = false := beq_eq_false_iff_ne.mpr c36
                                      have c36b1 : (a0 != 45) = true := bne_iff_ne.mpr c36
                                      by_cases c37 : a0 = 46
                                      · rw [if_pos c37] at H
                                        have c37b0 : (a0 == 46) = true := beq_iff_eq.mpr c37
                                        have c37b1 : (a0 != 46) = false := bne_eq_false_iff_eq.mpr c37
                                        clear c37
                                        have H' := Aside0.mk H
                                        clear H
                                        go_wp2
                                        repeat (go_quiet (fail); try go_wp2)
                                        go_meet
                                        case rel => exact ⟨_, (true), (by first | rfl | (simp; done) | (simp [*]; done)), H', ⟨by have := HJ4.out; first | omega | exact Nat.le_refl _⟩, ⟨by repeat (first | (with_reducible first | exact HB.out | apply below_alloc | apply pw_below_drewN | apply below_drew1) | exact HB.out)⟩⟩
                                      · rw [if_neg c37] at H
                                        have c37b0 : (a0 == 46) = false := beq_eq_false_iff_ne.mpr c37
                                        have c37b1 : (a0 != 46) = true := bne_iff_ne.mpr c37
                                        by_cases c38 : a0 = 95
                                        · rw [if_pos c38] at H
                                          have c38b0 : (a0 == 95) = true := beq_iff_eq.mpr c38
                                          have c38b1 : (a0 != 95) = false := bne_eq_false_iff_eq.mpr c38
                                          clear c38
                                          have H' := Aside0.mk H
                                          clear H
                                          go_wp2
                                          repeat (go_quiet (fail); try go_wp2)
                                          go_meet
                                          case rel => exact ⟨_, (true), (by first | rfl | (simp; done) | (simp [*]; done)), H', ⟨by have := HJ4.out; first | omega | exact Nat.le_refl _⟩, ⟨by repeat (first | (with_reducible first | exact HB.out | apply below_alloc | apply pw_below_drewN | apply below_drew1) | exact HB.out)⟩⟩
                                        · rw [if_neg c38] at H
                                          have c38b0 : (a0 == 95) = false := beq_eq_false_iff_ne.mpr c38
                                          have c38b1 : (a0 != 95) = true := bne_iff_ne.mpr c38
                                          have H' := Aside0.mk H
                                          clear H
                                          go_wp2
                                          repeat (go_quiet (fail); try go_wp2)
                                          go_meet
                                          case rel => exact ⟨_, ((a0 == 126)), (by first | rfl | (simp; done) | (simp [*]; done)), H', ⟨by have := HJ4.out; first | omega | exact Nat.le_refl _⟩, ⟨by repeat (first | (with_reducible first | exact HB.out | apply below_alloc | apply pw_below_drewN | apply below_drew1) | exact HB.out)⟩⟩
                            · rw [if_neg c19] at H
                              have c19b0 : decide (97 ≤ a0) = false := decide_eq_false c19
                              clear c19
                              (first | rw [c19b0] | (simp only [i64_w, i32_w]; rw [c19b0]) | skip)
                              by_cases c39 : a0 ≥ 65
                              · rw [if_pos c39] at H
                                have c39b0 : decide (65 ≤ a0) = true := decide_eq_true c39
                                clear c39
                                by_cases c40 : a0 ≤ 90
                                · rw [if_pos c40] at H
                                  have c40b0 : decide (a0 ≤ 90) = true := decide_eq_true c40
                                  clear c40
                                  have H' := Aside0.mk H
                                  clear H
                                  go_wp2
                                  repeat (go_quiet (fail); try go_wp2)
                                  go_meet
                                  case rel => exact ⟨_, (true), (by first | rfl | (simp; done) | (simp [*]; done)), H', ⟨by have := HJ4.out; first | omega | exact Nat.le_refl _⟩, ⟨by repeat (first | (with_reducible first | exact HB.out | apply below_alloc | apply pw_below_drewN | apply below_drew1) | exact HB.out)⟩⟩
                                · rw [if_neg c40] at H
                                  have c40b0 : decide (a0 ≤ 90) = false := decide_eq_false c40
                                  clear c40
                                  by_cases c41 : a0 ≥ 48
                                  · rw [if_pos c41] at H
                                    have c41b0 : decide (48 ≤ a0) = true := decide_eq_true c41
                                    clear c41
                                    by_cases c42 : a0 ≤ 57
                                    · rw [if_pos c42] at H
                                      have c42b0 : decide (a0 ≤ 57) = true := decide_eq_true c42
                                      clear c42
                                      have H' := Aside0.mk H
                                      clear H
                                      go_wp2
                                      repeat (go_quiet (fail); try go_wp2)
                                      go_meet
                                      case rel => exact ⟨_, (true), (by first | rfl | (simp; done) | (simp [*]; done)), H', ⟨by have := HJ4.out; first | omega | exact Nat.le_refl _⟩, ⟨by repeat (first | (with_reducible first | exact HB.out | apply below_alloc | apply pw_below_drewN | apply below_drew1) | exact HB.out)⟩⟩
                                    · rw [if_neg c42] at H
                                      have c42b0 : decide (a0 ≤ 57) = false := decide_eq_false c42
                                      clear c42
                                      by_cases c43 : a0 = 45
                                      · rw [if_pos c43] at H
                                        have c43b0 : (a0 == 45) = true := beq_iff_eq.mpr c43
                                        have c43b1 : (a0 != 45) = false := bne_eq_false_iff_eq.mpr c43
                                        clear c43
                                        have H' := Aside0.mk H
                                        clear H
                                        go_wp2
                                        repeat (go_quiet (fail); try go_wp2)
                                        go_meet
                                        case rel => exact ⟨_, (true), (by first | rfl | (simp; done) | (simp [*]; done)), H', ⟨by have := HJ4.out; first | omega | exact Nat.le_refl _⟩, ⟨by repeat (first | (with_reducible first | exact HB.out | apply below_alloc | apply pw_below_drewN | apply below_drew1) | exact HB.out)⟩⟩
                                      · rw [if_neg c43] at H
                                        have c43b0 : (a0 == 45) = false := beq_eq_false_iff_ne.mpr c43
                                        have c43b1 : (a0 != 45) = true := bne_iff_ne.mpr c43
                                        by_cases c44 : a0 = 46
                                        · rw [if_pos c44] at H
                                          have c44b0 : (a0 == 46) = true := beq_iff_eq.mpr c44
                                          have c44b1 : (a0 != 46) = false := bne_eq_false_iff_eq.mpr c44
                                          clear c44
                                          have H' := Aside0.mk H
                                          clear H
                                          go_wp2
                                          repeat (go_quiet (fail); try go_wp2)
                                          go_meet
                                          case rel => exact ⟨_, (true), (by first | rfl | (simp; done) | (simp [*]; done)), H', ⟨by have := HJ4.out; first | omega | exact Nat.le_refl _⟩, ⟨by repeat (first | (with_reducible first | exact HB.out | apply below_alloc | apply pw_below_drewN | apply below_drew1) | exact HB.out)⟩⟩
                                        · rw [if_neg c44] at H
                                          have c44b0 : (a0 == 46) = false := beq_eq_false_iff_ne.mpr c44
                                          have c44b1 : (a0 != 46) = true := bne_iff_ne.mpr c44
                                          by_cases c45 : a0 = 95
                                          · rw [if_pos c45] at H
                                            have c45b0 : (a0 == 95) = true := beq_iff_eq.mpr c45
                                            have c45b1 : (a0 != 95) = false := bne_eq_false_iff_eq.mpr c45
                                            clear c45
                                            have H' := Aside0.mk H
                                            clear H
                                            go_wp2
                                            repeat (go_quiet (fail); try go_wp2)
                                            go_meet
                                            case rel => exact ⟨_, (true), (by first | rfl | (simp; done) | (simp [*]; done)), H', ⟨by have := HJ4.out; first | omega | exact Nat.le_refl _⟩, ⟨by repeat (first | (with_reducible first | exact HB.out | apply below_alloc | apply pw_below_drewN | apply below_drew1) | exact HB.out)⟩⟩
                                          · rw [if_neg c45] at H
                                            have c45b0 : (a0 == 95) = false := beq_eq_false_iff_ne.mpr c45
                                            have c45b1 : (a0 != 95) = true := bne_iff_ne.mpr c45
                                            have H' := Aside0.mk H
                                            clear H
                                            go_wp2
                                            repeat (go_quiet (fail); try go_wp2)
                                            go_meet
                                            case rel => exact ⟨_, ((a0 == 126)), (by first | rfl | (simp; done) | (simp [*]; done)), H', ⟨by have := HJ4.out; first | omega | exact Nat.le_refl _⟩, ⟨by repeat (first | (with_reducible first | exact HB.out | apply below_alloc | apply pw_below_drewN | apply below_drew1) | exact HB.out)⟩⟩
                                  · rw [if_neg c41] at H
                                    have c41b0 : decide (48 ≤ a0) = false := decide_eq_false c41
                                    clear c41
                                    by_cases c46 : a0 = 45
                                    · rw [if_pos c46] at H
                                      have c46b0 : (a0 == 45) = true := beq_iff_eq.mpr c46
                                      have c46b1 : (a0 != 45) = false := bne_eq_false_iff_eq.mpr c46
                                      clear c46
                                      have H' := Aside0.mk H
                                      clear H
                                      go_wp2
                                      repeat (go_quiet (fail); try go_wp2)
                                      go_meet
                                      case rel => exact ⟨_, (true), (by first | rfl | (simp; done) | (simp [*]; done)), H', ⟨by have := HJ4.out; first | omega | exact Nat.le_refl _⟩, ⟨by repeat (first | (with_reducible first | exact HB.out | apply below_alloc | apply pw_below_drewN | apply below_drew1) | exact HB.out)⟩⟩
                                    · rw [if_neg c46] at H
                                      have c46b0 : (a0 == 45) = false := beq_eq_false_iff_ne.mpr c46
                                      have c46b1 : (a0 != 45) = true := bne_iff_ne.mpr c46
                                      by_cases c47 : a0 = 46
                                      · rw [if_pos c47] at H
                                        have c47b0 : (a0 == 46) = true := beq_iff_eq.mpr c47
                                        have c47b1 : (a0 != 46) = false := bne_eq_false_iff_eq.mpr c47
                                        clear c47
                                        have H' := Aside0.mk H
                                        clear H
                                        go_wp2
                                        repeat (go_quiet (fail); try go_wp2)
                                        go_meet
                                        case rel => exact ⟨_, (true), (by first | rfl | (simp; done) | (simp [*]; done)), H', ⟨by have := HJ4.out; first | omega | exact Nat.le_refl _⟩, ⟨by repeat (first | (with_reducible first | exact HB.out | apply below_alloc | apply pw_below_drewN | apply below_drew1) | exact HB.out)⟩⟩
                                      · rw [if_neg c47] at H
                                        have c47b0 : (a0 == 46) = false := beq_eq_false_iff_ne.mpr c47
                                        have c47b1 : (a0 != 46) = true := bne_iff_ne.mpr c47
                                        by_cases c48 : a0 = 95
                                        · rw [if_pos c48] at H
                                          have c48b0 : (a0 == 95) = true := beq_iff_eq.mpr c48
                                          have c48b1 : (a0 != 95) = false := bne_eq_false_iff_eq.mpr c48
                                          clear c48
                                          have H' := Aside0.mk H
                                          clear H
                                          go_wp2
                                          repeat (go_quiet (fail); try go_wp2)
                                          go_meet
                                          case rel => exact ⟨_, (true), (by first | rfl | (simp; done) | (simp [*]; done)), H', ⟨by have := HJ4.out; first | omega | exact Nat.le_refl _⟩, ⟨by repeat (first | (with_reducible first | exact HB.out | apply below_alloc | apply pw_below_drewN | apply below_drew1) | exact HB.out)⟩⟩
                                        · rw [if_neg c48] at H
                                          have c48b0 : (a0 == 95) = false := beq_eq_false_iff_ne.mpr c48
                                          have c48b1 : (a0 != 95) = true := bne_iff_ne.mpr c48
                                          have H' := Aside0.mk H
                                          clear H
                                          go_wp2
                                          repeat (go_quiet (fail); try go_wp2)
                                          go_meet
                                          case rel => exact ⟨_, ((a0 == 126)), (by first | rfl | (simp; done) | (simp [*]; done)), H', ⟨by have := HJ4.out; first | omega | exact Nat.le_refl _⟩, ⟨by repeat (first | (with_reducible first | exact HB.out | apply below_alloc | apply pw_below_drewN | apply below_drew1) | exact HB.out)⟩⟩
                              · rw [if_neg c39] at H
                                have c39b0 : decide (65 ≤ a0) = false := decide_eq_false c39
                                clear c39
                                by_cases c49 : a0 ≥ 48
                                · rw [if_pos c49] at H
                                  have c49b0 : decide (48 ≤ a0) = true := decide_eq_true c49
                                  clear c49
                                  by_cases c50 : a0 ≤ 57
                                  · rw [if_pos c50] at H
                                    have c50b0 : decide (a0 ≤ 57) = true := decide_eq_true c50
                                    clear c50
                                    have H' := Aside0.mk H
                                    clear H
                                    go_wp2
                                    repeat (go_quiet (fail); try go_wp2)
                                    go_meet
                                    case rel => exact ⟨_, (true), (by first | rfl | (simp; done) | (simp [*]; done)), H', ⟨by have := HJ4.out; first | omega | exact Nat.le_refl _⟩, ⟨by repeat (first | (with_reducible first | exact HB.out | apply below_alloc | apply pw_below_drewN | apply below_drew1) | exact HB.out)⟩⟩
                                  · rw [if_neg c50] at H
                                    have c50b0 : decide (a0 ≤ 57) = false := decide_eq_false c50
                                    clear c50
                                    by_cases c51 : a0 = 45
                                    · rw [if_pos c51] at H
                                      have c51b0 : (a0 == 45) = true := beq_iff_eq.mpr c51
                                      have c51b1 : (a0 != 45) = false := bne_eq_false_iff_eq.mpr c51
                                      clear c51
                                      have H' := Aside0.mk H
                                      clear H
                                      go_wp2
                                      repeat (go_quiet (fail); try go_wp2)
                                      go_meet
                                      case rel => exact ⟨_, (true), (by first | rfl | (simp; done) | (simp [*]; done)), H', ⟨by have := HJ4.out; first | omega | exact Nat.le_refl _⟩, ⟨by repeat (first | (with_reducible first | exact HB.out | apply below_alloc | apply pw_below_drewN | apply below_drew1) | exact HB.out)⟩⟩
                                    · rw [if_neg c51] at H
                                      have c51b0 : (a0 == 45) = false := beq_eq_false_iff_ne.mpr c51
                                      have c51b1 : (a0 != 45) = true := bne_iff_ne.mpr c51
                                      by_cases c52 : a0 = 46
                                      · rw [if_pos c52] at H
                                        have c52b0 : (a0 == 46) = true := beq_iff_eq.mpr c52
                                        have c52b1 : (a0 != 46) = false := bne_eq_false_iff_eq.mpr c52
                                        clear c52
                                        have H' := Aside0.mk H
                                        clear H
                                        go_wp2
                                        repeat (go_quiet (fail); try go_wp2)
                                        go_meet
                                        case rel => exact ⟨_, (true), (by first | rfl | (simp; done) | (simp [*]; done)), H', ⟨by have := HJ4.out; first | omega | exact Nat.le_refl _⟩, ⟨by repeat (first | (with_reducible first | exact HB.out | apply below_alloc | apply pw_below_drewN | apply below_drew1) | exact HB.out)⟩⟩
                                      · rw [if_neg c52] at H
                                        have c52b0 : (a0 == 46) = false := beq_eq_false_iff_ne.mpr c52
                                        have c52b1 : (a0 != 46) = true := bne_iff_ne.mpr c52
                                        by_cases c53 : a0 = 95
                                        · rw [if_pos c53] at H
                                          have c53b0 : (a0 == 95) = true := beq_iff_eq.mpr c53
                                          have c53b1 : (a0 != 95) = false := bne_eq_false_iff_eq.mpr c53
                                          clear c53
                                          have H' := Aside0.mk H
                                          clear H
                                          go_wp2
                                          repeat (go_quiet (fail); try go_wp2)
                                          go_meet
                                          case rel => exact ⟨_, (true), (by first | rfl | (simp; done) | (simp [*]; done)), H', ⟨by have := HJ4.out; first | omega | exact Nat.le_refl _⟩, ⟨by repeat (first | (with_reducible first | exact HB.out | apply below_alloc | apply pw_below_drewN | apply below_drew1) | exact HB.out)⟩⟩
                                        · rw [if_neg c53] at H
                                          have c53b0 : (a0 == 95) = false := beq_eq_false_iff_ne.mpr c53
                                          have c53b1 : (a0 != 95) = true := bne_iff_ne.mpr c53
                                          have H' := Aside0.mk H
                                          clear H
                                          go_wp2
                                          repeat (go_quiet (fail); try go_wp2)
                                          go_meet
                                          case rel => exact ⟨_, ((a0 == 126)), (by first | rfl | (simp; done) | (simp [*]; done)), H', ⟨by have := HJ4.out; first | omega | exact Nat.le_refl _⟩, ⟨by repeat (first | (with_reducible first | exact HB.out | apply below_alloc | apply pw_below_drewN | apply below_drew1) | exact HB.out)⟩⟩
                                · rw [if_neg c49] at H
                                  have c49b0 : decide (48 ≤ a0) = false := decide_eq_false c49
                                  clear c49
                                  by_cases c54 : a0 = 45
                                  · rw [if_pos c54] at H
                                    have c54b0 : (a0 == 45) = true := beq_iff_eq.mpr c54
                                    have c54b1 : (a0 != 45) = false := bne_eq_false_iff_eq.mpr c54
                                    clear c54
                                    have H' := Aside0.mk H
                                    clear H
                                    go_wp2
                                    repeat (go_quiet (fail); try go_wp2)
                                    go_meet
                                    case rel => exact ⟨_, (true), (by first | rfl | (simp; done) | (simp [*]; done)), H', ⟨by have := HJ4.out; first | omega | exact Nat.le_refl _⟩, ⟨by repeat (first | (with_reducible first | exact HB.out | apply below_alloc | apply pw_below_drewN | apply below_drew1) | exact HB.out)⟩⟩
                                  · rw [if_neg c54] at H
                                    have c54b0 : (a0 == 45) = false := beq_eq_false_iff_ne.mpr c54
                                    have c54b1 : (a0 != 45) = true := bne_iff_ne.mpr c54
                                    by_cases c55 : a0 = 46
                                    · rw [if_pos c55] at H
                                      have c55b0 : (a0 == 46) = true := beq_iff_eq.mpr c55
                                      have c55b1 : (a0 != 46) = false := bne_eq_false_iff_eq.mpr c55
                                      clear c55
                                      have H' := Aside0.mk H
                                      clear H
                                      go_wp2
                                      repeat (go_quiet (fail); try go_wp2)
                                      go_meet
                                      case rel => exact ⟨_, (true), (by first | rfl | (simp; done) | (simp [*]; done)), H', ⟨by have := HJ4.out; first | omega | exact Nat.le_refl _⟩, ⟨by repeat (first | (with_reducible first | exact HB.out | apply below_alloc | apply pw_below_drewN | apply below_drew1) | exact HB.out)⟩⟩
                                    · rw [if_neg c55] at H
                                      have c55b0 : (a0 == 46) = false := beq_eq_false_iff_ne.mpr c55
                                      have c55b1 : (a0 != 46) = true := bne_iff_ne.mpr c55
                                      by_cases c56 : a0 = 95
                                      · rw [if_pos c56] at H
                                        have c56b0 : (a0 == 95) = true := beq_iff_eq.mpr c56
                                        have c56b1 : (a0 != 95) = false := bne_eq_false_iff_eq.mpr c56
                                        clear c56
                                        have H' := Aside0.mk H
                                        clear H
                                        go_wp2
                                        repeat (go_quiet (fail); try go_wp2)
                                        go_meet
                                        case rel => exact ⟨_, (true), (by first | rfl | (simp; done) | (simp [*]; done)), H', ⟨by have := HJ4.out; first | omega | exact Nat.le_refl _⟩, ⟨by repeat (first | (with_reducible first | exact HB.out | apply below_alloc | apply pw_below_drewN | apply below_drew1) | exact HB.out)⟩⟩
                                      · rw [if_neg c56] at H
                                        have c56b0 : (a0 == 95) = false := beq_eq_false_iff_ne.mpr c56
                                        have c56b1 : (a0 != 95) = true := bne_iff_ne.mpr c56
                                        have H' := Aside0.mk H
                                        clear H
                                        go_wp2
                                        repeat (go_quiet (fail); try go_wp2)
                                        go_meet
                                        case rel => exact ⟨_, ((a0 == 126)), (by first | rfl | (simp; done) | (simp [*]; done)), H', ⟨by have := HJ4.out; first | omega | exact Nat.le_refl _⟩, ⟨by repeat (first | (with_reducible first | exact HB.out | apply below_alloc | apply pw_below_drewN | apply below_drew1) | exact HB.out)⟩⟩
                          case rest => as_aux_lemma =>
                            clear HC18
                            try clear c1
                            try clear c2
                            try clear p2
                            try clear c3
                            try clear c4
                            try clear c5
                            try clear c7
                            try clear c9
                            try clear c9b0
                            try clear c9b1
                            try clear c10
                            try clear c10b0
                            try clear c10b1
                            try clear c11
                            try clear c11b0
                            try clear c11b1
                            try clear c12
                            try clear c12b0
                            try clear c12b1
                            try clear c12b2
                            try clear c13
                            try clear c13b0
                            try clear c13b1
                            try clear c14
                            try clear c14b0
                            try clear c14b1
                            try clear c15
                            try clear c15b0
                            try clear c15b1
                            try clear c16
                            try clear c16b0
                            try clear c16b1
                            try clear c16b2
                            try clear c17
                            try clear c17b0
                            try clear c17b1
                            try clear c17b2
                            try clear c19
                            try clear c19b0
                            try clear c20
                            try clear c20b0
                            try clear c21
                            try clear c21b0
                            try clear c22
                            try clear c22b0
                            try clear c23
                            try clear c23b0
                            try clear c24
                            try clear c24b0
                            try clear c25
                            try clear c25b0
                            try clear c25b1
                            try clear c26
                            try clear c26b0
                            try clear c26b1
                            try clear c27
                            try clear c27b0
                            try clear c27b1
                            try clear c28
                            try clear c28b0
                            try clear c28b1
                            try clear c29
                            try clear c29b0
                            try clear c29b1
                            try clear c30
                            try clear c30b0
                            try clear c30b1
                            try clear c31
                            try clear c31b0
                            try clear c32
                            try clear c32b0
                            try clear c33
                            try clear c33b0
                            try clear c33b1
                            try clear c34
                            try clear c34b0
                            try clear c34b1
                            try clear c35
                            try clear c35b0
                            try clear c35b1
                            try clear c36
                            try clear c36b0
                            try clear c36b1
                            try clear c37
                            try clear c37b0
                            try clear c37b1
                            try clear c38
                            try clear c38b0
                            try clear c38b1
                            try clear c39
                            try clear c39b0
                            try clear c40
                            try clear c40b0
                            try clear c41
                            try clear c41b0
                            try clear c42
                            try clear c42b0
                            try clear c43
                            try clear c43b0
                            try clear c43b1
                            try clear c44
                            try clear c44b0
                            try clear c44b1
                            try clear c45
                            try clear c45b0
                            try clear c45b1
                            try clear c46
                            try clear c46b0
                            try clear c46b1
                            try clear c47
                            try clear c47b0
                            try clear c47b1
                            try clear c48
                            try clear c48b0
                            try clear c48b1
                            try clear c49
                            try clear c49b0
                            try clear c50
                            try clear c50b0
                            try clear c51
                            try clear c51b0
                            try clear c51b1
                            try clear c52
                            try clear c52b0
                            try clear c52b1
                            try clear c53
                            try clear c53b0
                            try clear c53b1
                            try clear c54
                            try clear c54b0
                            try clear c54b1
                            try clear c55
                            try clear c55b0
                            try clear c55b1
                            try clear c56
                            try clear c56b0
                            try clear c56b1
                            try clear p2
                            obtain ⟨kq, x7_17, rfl, HA, HJ17, HB⟩ := hcut
                            cases kq with
                            | zero => exact absurd HA.out (by simp [parallaxlaw19_PercentSigns.j1])
                            | succ kj17 =>
                              have H := HA.out
                              clear HA
                              simp only [parallaxlaw19_PercentSigns.j1] at H
                              skip
                              replace H : (if 0 ≤ (ji8) then (if (ji8) ≤ (((ji8) + 1) % 256) then (if (((ji8) + 1) % 256) ≤ 16 then (if 3 + ((⟨#[48, 49, 50, 51, 52, 53, 54, 55, 56, 57, 65, 66, 67, 68, 69, 70]⟩ : ByteArray).extract ((ji8) : Int).toNat ((((ji8) + 1) % 256) : Int).toNat).size ≤ 9223372036854775807 then (if 0 ≤ (Go.bits .and .u8 a0 15) then (if (Go.bits .and .u8 a0 15) ≤ (((Go.bits .and .u8 a0 15) + 1) % 256) then (if (((Go.bits .and .u8 a0 15) + 1) % 256) ≤ 16 then (if ((⟨#[47, 97, 37]⟩ : ByteArray) ++ ((⟨#[48, 49, 50, 51, 52, 53, 54, 55, 56, 57, 65, 66, 67, 68, 69, 70]⟩ : ByteArray).extract ((ji8) : Int).toNat ((((ji8) + 1) % 256) : Int).toNat)).size + ((⟨#[48, 49, 50, 51, 52, 53, 54, 55, 56, 57, 65, 66, 67, 68, 69, 70]⟩ : ByteArray).extract ((Go.bits .and .u8 a0 15) : Int).toNat ((((Go.bits .and .u8 a0 15) + 1) % 256) : Int).toNat).size ≤ 9223372036854775807 then (if (((⟨#[47, 97, 37]⟩ : ByteArray) ++ ((⟨#[48, 49, 50, 51, 52, 53, 54, 55, 56, 57, 65, 66, 67, 68, 69, 70]⟩ : ByteArray).extract ((ji8) : Int).toNat ((((ji8) + 1) % 256) : Int).toNat)) ++ ((⟨#[48, 49, 50, 51, 52, 53, 54, 55, 56, 57, 65, 66, 67, 68, 69, 70]⟩ : ByteArray).extract ((Go.bits .and .u8 a0 15) : Int).toNat ((((Go.bits .and .u8 a0 15) + 1) % 256) : Int).toNat)).size + 1 ≤ 9223372036854775807 then (if x7_17 = true then ((some (([a0] : List Int) : List Int)).bind fun y222 => (if 2 + (strOfNums y222).size ≤ 9223372036854775807 then (if ((⟨#[47, 97]⟩ : ByteArray) ++ (strOfNums y222)).size + 1 ≤ 9223372036854775807 then (parallaxlaw19_PercentSigns.j2 kj17 a0 T_ (((⟨#[47, 97]⟩ : ByteArray) ++ (strOfNums y222)) ++ (⟨#[122]⟩ : ByteArray))) else (none)) else (none))) else (parallaxlaw19_PercentSigns.j2 kj17 a0 T_ ((((⟨#[47, 97, 37]⟩ : ByteArray) ++ ((⟨#[48, 49, 50, 51, 52, 53, 54, 55, 56, 57, 65, 66, 67, 68, 69, 70]⟩ : ByteArray).extract ((ji8) : Int).toNat ((((ji8) + 1) % 256) : Int).toNat)) ++ ((⟨#[48, 49, 50, 51, 52, 53, 54, 55, 56, 57, 65, 66, 67, 68, 69, 70]⟩ : ByteArray).extract ((Go.bits .and .u8 a0 15) : Int).toNat ((((Go.bits .and .u8 a0 15) + 1) % 256) : Int).toNat)) ++ (⟨#[122]⟩ : ByteArray)))) else (none)) else (none)) else (none)) else (none)) else (none)) else (none)) else (none)) else (none)) else (none)) = some r := by first | (rw [hji8] at H; exact H) | (simp only [hji8] at H ⊢; exact H)
                              by_cases c58 : 0 ≤ (ji8)
                              · rw [if_pos c58] at H
                                have c58b0 := eq_true c58
                                have c58b1 : decide (0 ≤ (ji8)) = true := decide_eq_true c58
                                clear c58
                                by_cases c59 : (ji8) ≤ (((ji8) + 1) % 256)
                                · rw [if_pos c59] at H
                                  have c59b0 := eq_true c59
                                  have c59b1 : decide ((ji8) ≤ (((ji8) + 1) % 256)) = true := decide_eq_true c59
                                  by_cases c60 : (((ji8) + 1) % 256) ≤ 16
                                  · rw [if_pos c60] at H
                                    have c60b0 := eq_true c60
                                    have c60b1 : decide ((((ji8) + 1) % 256) ≤ 16) = true := decide_eq_true c60
                                    by_cases c61 : 3 + ((⟨#[48, 49, 50, 51, 52, 53, 54, 55, 56, 57, 65, 66, 67, 68, 69, 70]⟩ : ByteArray).extract ((ji8) : Int).toNat ((((ji8) + 1) % 256) : Int).toNat).size ≤ 9223372036854775807
                                    · rw [if_pos c61] at H
                                      have c61b0 := eq_true c61
                                      (try (have c61b0n := c61b0; simp only [ByteArray.size_extract, Nat.min_self, Int.toNat_natCast] at c61b0n))
                                      have c61b1 : decide (3 + ((⟨#[48, 49, 50, 51, 52, 53, 54, 55, 56, 57, 65, 66, 67, 68, 69, 70]⟩ : ByteArray).extract ((ji8) : Int).toNat ((((ji8) + 1) % 256) : Int).toNat).size ≤ 9223372036854775807) = true := decide_eq_true c61
                                      (try (have c61b1n := c61b1; simp only [ByteArray.size_extract, Nat.min_self, Int.toNat_natCast] at c61b1n))
                                      try have c61b2 : (9223372036854775807 < 3 + ((⟨#[48, 49, 50, 51, 52, 53, 54, 55, 56, 57, 65, 66, 67, 68, 69, 70]⟩ : ByteArray).extract ((ji8) : Int).toNat ((((ji8) + 1) % 256) : Int).toNat).size) = False := eq_false (Nat.not_lt.2 c61)
                                      (try (have c61b2n := c61b2; simp only [ByteArray.size_extract, Nat.min_self, Int.toNat_natCast] at c61b2n))
                                      by_cases c62 : 0 ≤ (Go.bits .and .u8 a0 15)
                                      · rw [if_pos c62] at H
                                        have c62b0 := eq_true c62
                                        have c62b1 : decide (0 ≤ (Go.bits .and .u8 a0 15)) = true := decide_eq_true c62
                                        clear c62
                                        by_cases c63 : (Go.bits .and .u8 a0 15) ≤ (((Go.bits .and .u8 a0 15) + 1) % 256)
                                        · rw [if_pos c63] at H
                                          have c63b0 := eq_true c63
                                          have c63b1 : decide ((Go.bits .and .u8 a0 15) ≤ (((Go.bits .and .u8 a0 15) + 1) % 256)) = true := decide_eq_true c63
                                          by_cases c64 : (((Go.bits .and .u8 a0 15) + 1) % 256) ≤ 16
                                          · rw [if_pos c64] at H
                                            have c64b0 := eq_true c64
                                            have c64b1 : decide ((((Go.bits .and .u8 a0 15) + 1) % 256) ≤ 16) = true := decide_eq_true c64
                                            by_cases c65 : ((⟨#[47, 97, 37]⟩ : ByteArray) ++ ((⟨#[48, 49, 50, 51, 52, 53, 54, 55, 56, 57, 65, 66, 67, 68, 69, 70]⟩ : ByteArray).extract ((ji8) : Int).toNat ((((ji8) + 1) % 256) : Int).toNat)).size + ((⟨#[48, 49, 50, 51, 52, 53, 54, 55, 56, 57, 65, 66, 67, 68, 69, 70]⟩ : ByteArray).extract ((Go.bits .and .u8 a0 15) : Int).toNat ((((Go.bits .and .u8 a0 15) + 1) % 256) : Int).toNat).size ≤ 9223372036854775807
                                            · rw [if_pos c65] at H
                                              have c65b0 := eq_true c65
                                              (try (have c65b0n := c65b0; simp only [ByteArray.size_extract, Nat.min_self, Int.toNat_natCast] at c65b0n))
                                              have c65b1 : decide (((⟨#[47, 97, 37]⟩ : ByteArray) ++ ((⟨#[48, 49, 50, 51, 52, 53, 54, 55, 56, 57, 65, 66, 67, 68, 69, 70]⟩ : ByteArray).extract ((ji8) : Int).toNat ((((ji8) + 1) % 256) : Int).toNat)).size + ((⟨#[48, 49, 50, 51, 52, 53, 54, 55, 56, 57, 65, 66, 67, 68, 69, 70]⟩ : ByteArray).extract ((Go.bits .and .u8 a0 15) : Int).toNat ((((Go.bits .and .u8 a0 15) + 1) % 256) : Int).toNat).size ≤ 9223372036854775807) = true := decide_eq_true c65
                                              (try (have c65b1n := c65b1; simp only [ByteArray.size_extract, Nat.min_self, Int.toNat_natCast] at c65b1n))
                                              try have c65b2 : (9223372036854775807 < ((⟨#[47, 97, 37]⟩ : ByteArray) ++ ((⟨#[48, 49, 50, 51, 52, 53, 54, 55, 56, 57, 65, 66, 67, 68, 69, 70]⟩ : ByteArray).extract ((ji8) : Int).toNat ((((ji8) + 1) % 256) : Int).toNat)).size + ((⟨#[48, 49, 50, 51, 52, 53, 54, 55, 56, 57, 65, 66, 67, 68, 69, 70]⟩ : ByteArray).extract ((Go.bits .and .u8 a0 15) : Int).toNat ((((Go.bits .and .u8 a0 15) + 1) % 256) : Int).toNat).size) = False := eq_false (Nat.not_lt.2 c65)
                                              (try (have c65b2n := c65b2; simp only [ByteArray.size_extract, Nat.min_self, Int.toNat_natCast] at c65b2n))
                                              (try (have c65b3 : (9223372036854775807 < 3 + ((⟨#[48, 49, 50, 51, 52, 53, 54, 55, 56, 57, 65, 66, 67, 68, 69, 70]⟩ : ByteArray).extract ((ji8) : Int).toNat ((((ji8) + 1) % 256) : Int).toNat).size + ((⟨#[48, 49, 50, 51, 52, 53, 54, 55, 56, 57, 65, 66, 67, 68, 69, 70]⟩ : ByteArray).extract ((Go.bits .and .u8 a0 15) : Int).toNat ((((Go.bits .and .u8 a0 15) + 1) % 256) : Int).toNat).size) = False := eq_false (by have h_ := c65; simp only [ByteArray.size_append] at h_; exact Nat.not_lt.mpr h_)))
                                              (try (have c65b4 : decide (3 + ((⟨#[48, 49, 50, 51, 52, 53, 54, 55, 56, 57, 65, 66, 67, 68, 69, 70]⟩ : ByteArray).extract ((ji8) : Int).toNat ((((ji8) + 1) % 256) : Int).toNat).size + ((⟨#[48, 49, 50, 51, 52, 53, 54, 55, 56, 57, 65, 66, 67, 68, 69, 70]⟩ : ByteArray).extract ((Go.bits .and .u8 a0 15) : Int).toNat ((((Go.bits .and .u8 a0 15) + 1) % 256) : Int).toNat).size ≤ 9223372036854775807) = true := decide_eq_true (by have h_ := c65; simp only [ByteArray.size_append] at h_; exact h_)))
                                              by_cases c66 : (((⟨#[47, 97, 37]⟩ : ByteArray) ++ ((⟨#[48, 49, 50, 51, 52, 53, 54, 55, 56, 57, 65, 66, 67, 68, 69, 70]⟩ : ByteArray).extract ((ji8) : Int).toNat ((((ji8) + 1) % 256) : Int).toNat)) ++ ((⟨#[48, 49, 50, 51, 52, 53, 54, 55, 56, 57, 65, 66, 67, 68, 69, 70]⟩ : ByteArray).extract ((Go.bits .and .u8 a0 15) : Int).toNat ((((Go.bits .and .u8 a0 15) + 1) % 256) : Int).toNat)).size + 1 ≤ 9223372036854775807
                                              · rw [if_pos c66] at H
                                                have c66b0 := eq_true c66
                                                (try (have c66b0n := c66b0; simp only [ByteArray.size_extract, Nat.min_self, Int.toNat_natCast] at c66b0n))
                                                have c66b1 : decide ((((⟨#[47, 97, 37]⟩ : ByteArray) ++ ((⟨#[48, 49, 50, 51, 52, 53, 54, 55, 56, 57, 65, 66, 67, 68, 69, 70]⟩ : ByteArray).extract ((ji8) : Int).toNat ((((ji8) + 1) % 256) : Int).toNat)) ++ ((⟨#[48, 49, 50, 51, 52, 53, 54, 55, 56, 57, 65, 66, 67, 68, 69, 70]⟩ : ByteArray).extract ((Go.bits .and .u8 a0 15) : Int).toNat ((((Go.bits .and .u8 a0 15) + 1) % 256) : Int).toNat)).size + 1 ≤ 9223372036854775807) = true := decide_eq_true c66
                                                (try (have c66b1n := c66b1; simp only [ByteArray.size_extract, Nat.min_self, Int.toNat_natCast] at c66b1n))
                                                try have c66b2 : (9223372036854775807 < (((⟨#[47, 97, 37]⟩ : ByteArray) ++ ((⟨#[48, 49, 50, 51, 52, 53, 54, 55, 56, 57, 65, 66, 67, 68, 69, 70]⟩ : ByteArray).extract ((ji8) : Int).toNat ((((ji8) + 1) % 256) : Int).toNat)) ++ ((⟨#[48, 49, 50, 51, 52, 53, 54, 55, 56, 57, 65, 66, 67, 68, 69, 70]⟩ : ByteArray).extract ((Go.bits .and .u8 a0 15) : Int).toNat ((((Go.bits .and .u8 a0 15) + 1) % 256) : Int).toNat)).size + 1) = False := eq_false (Nat.not_lt.2 c66)
                                                (try (have c66b2n := c66b2; simp only [ByteArray.size_extract, Nat.min_self, Int.toNat_natCast] at c66b2n))
                                                (try (have c66b3 : (9223372036854775807 < (3 + ((⟨#[48, 49, 50, 51, 52, 53, 54, 55, 56, 57, 65, 66, 67, 68, 69, 70]⟩ : ByteArray).extract ((ji8) : Int).toNat ((((ji8) + 1) % 256) : Int).toNat).size) + ((⟨#[48, 49, 50, 51, 52, 53, 54, 55, 56, 57, 65, 66, 67, 68, 69, 70]⟩ : ByteArray).extract ((Go.bits .and .u8 a0 15) : Int).toNat ((((Go.bits .and .u8 a0 15) + 1) % 256) : Int).toNat).size + 1) = False := eq_false (by have h_ := c66; simp only [ByteArray.size_append] at h_; exact Nat.not_lt.mpr h_)))
                                                (try (have c66b4 : decide ((3 + ((⟨#[48, 49, 50, 51, 52, 53, 54, 55, 56, 57, 65, 66, 67, 68, 69, 70]⟩ : ByteArray).extract ((ji8) : Int).toNat ((((ji8) + 1) % 256) : Int).toNat).size) + ((⟨#[48, 49, 50, 51, 52, 53, 54, 55, 56, 57, 65, 66, 67, 68, 69, 70]⟩ : ByteArray).extract ((Go.bits .and .u8 a0 15) : Int).toNat ((((Go.bits .and .u8 a0 15) + 1) % 256) : Int).toNat).size + 1 ≤ 9223372036854775807) = true := decide_eq_true (by have h_ := c66; simp only [ByteArray.size_append] at h_; exact h_)))
                                                have HC67 := Aside0.mk H
                                                clear H
                                                go_upto_if 88 with (fail)
                                                repeat (go_quiet (fail); go_upto_if 88 with (fail))
                                                go_cut [8] (fun v8 wc => ∃ (kq : Nat) (x8_66 : ByteArray), v8 = .string x8_66 ∧ Aside0 (parallaxlaw19_PercentSigns.j2 kq a0 T_ x8_66 = some r) ∧ Aside0 (kq ≤ kj17) ∧ Aside0 (Below w.heap.size w wc))
                                                case first =>
                                                  have H := HC67.out
                                                  clear HC67
                                                  by_cases c68 : x7_17 = true
                                                  · subst c68
                                                    rw [if_pos rfl] at H
                                                    obtain ⟨y222, hy222⟩ : ∃ y_ : List Int, y_ = (([a0] : List Int)) := ⟨_, rfl⟩
                                                    replace H : (if 2 + (strOfNums y222).size ≤ 9223372036854775807 then (if ((⟨#[47, 97]⟩ : ByteArray) ++ (strOfNums y222)).size + 1 ≤ 9223372036854775807 then (parallaxlaw19_PercentSigns.j2 kj17 a0 T_ (((⟨#[47, 97]⟩ : ByteArray) ++ (strOfNums y222)) ++ (⟨#[122]⟩ : ByteArray))) else (none)) else (none)) = some r := by first | (rw [hy222]; with_reducible exact H) | (have H2_ := (Option.bind_some _ _).symm.trans H; rw [hy222]; with_reducible exact H2_) | (have H2_ := (Option.bind_some _ _).symm.trans H; with_reducible exact H2_) | with_reducible exact H | (rw [hy222]; exact H) | exact H
                                                    have Ny222 := Aside0.mk hy222
                                                    clear hy222
                                                    by_cases c69 : 2 + (strOfNums y222).size ≤ 9223372036854775807
                                                    · rw [if_pos c69] at H
                                                      have c69b0 := eq_true c69
                                                      have c69b1 : decide (2 + (strOfNums y222).size ≤ 9223372036854775807) = true := decide_eq_true c69
                                                      try have c69b2 : (9223372036854775807 < 2 + (strOfNums y222).size) = False := eq_false (Nat.not_lt.2 c69)
                                                      by_cases c70 : ((⟨#[47, 97]⟩ : ByteArray) ++ (strOfNums y222)).size + 1 ≤ 9223372036854775807
                                                      · rw [if_pos c70] at H
                                                        have c70b0 := eq_true c70
                                                        have c70b1 : decide (((⟨#[47, 97]⟩ : ByteArray) ++ (strOfNums y222)).size + 1 ≤ 9223372036854775807) = true := decide_eq_true c70
                                                        try have c70b2 : (9223372036854775807 < ((⟨#[47, 97]⟩ : ByteArray) ++ (strOfNums y222)).size + 1) = False := eq_false (Nat.not_lt.2 c70)
                                                        (try (have c70b3 : (9223372036854775807 < 2 + (strOfNums y222).size + 1) = False := eq_false (by have h_ := c70; simp only [ByteArray.size_append] at h_; exact Nat.not_lt.mpr h_)))
                                                        (try (have c70b4 : decide (2 + (strOfNums y222).size + 1 ≤ 9223372036854775807) = true := decide_eq_true (by have h_ := c70; simp only [ByteArray.size_append] at h_; exact h_)))
                                                        have H' := Aside0.mk H
                                                        clear H
                                                        go_wp2_with (first | ((with_reducible refine gate_dst (N := 90) rfl ?_); (try (refine gate_guard (by rfl) ?_; dsimp only)); refine Kd.R_lit (Kd.int .u8) _ 5 ?hg (N := 90) ?hd (xs := ([a0] : List Int)) (inner := [.int .u8 a0]) (ok := fun _ => True) (okp := fun _ => True) ?hr ?hp (fun _ hk => hk) trivial (Below.refl _ _) (Nat.le_refl _) (by simp) ?_; (case hd => rfl); (case hg => rfl); (case hr => first | (go_simp; done) | (go_simp; rfl)); (case hp => exact (Reps.one (show Kd.M (Kd.int .u8) _ _ _ a0 [.int .u8 a0] from rfl) (Reps.none _ _))); intro v223 w71 ho72 hb hg_ hnew_; clear hg_ hnew_; (first | rw [← Ny222.out] at ho72 | (simp only [Int.reduceToNat] at ho72; rw [← Ny222.out] at ho72)); have n0_ := Aside0.mk (Kd.R_lower ho72 (below_size (by repeat (first | (with_reducible first | exact HB.out | apply below_alloc | apply pw_below_drewN | apply below_drew1) | exact HB.out)))); have n1_ := Aside0.mk (below_step (by repeat (first | (with_reducible first | exact HB.out | apply below_alloc | apply pw_below_drewN | apply below_drew1) | exact HB.out)) hb); clear HB; have HO224 := n0_; have HB := n1_; clear n0_ n1_; clear hb ho72; have hcv73 := own_string (P := Tryd.prog) Tryd.underlying22 Tryd.underlying5 Tryd.underlying9 (Kd.own_of_R HO224.out)))
                                                        repeat (go_quiet (first | ((with_reducible refine gate_dst (N := 90) rfl ?_); (try (refine gate_guard (by rfl) ?_; dsimp only)); refine Kd.R_lit (Kd.int .u8) _ 5 ?hg (N := 90) ?hd (xs := ([a0] : List Int)) (inner := [.int .u8 a0]) (ok := fun _ => True) (okp := fun _ => True) ?hr ?hp (fun _ hk => hk) trivial (Below.refl _ _) (Nat.le_refl _) (by simp) ?_; (case hd => rfl); (case hg => rfl); (case hr => first | (go_simp; done) | (go_simp; rfl)); (case hp => exact (Reps.one (show Kd.M (Kd.int .u8) _ _ _ a0 [.int .u8 a0] from rfl) (Reps.none _ _))); intro v223 w71 ho72 hb hg_ hnew_; clear hg_ hnew_; (first | rw [← Ny222.out] at ho72 | (simp only [Int.reduceToNat] at ho72; rw [← Ny222.out] at ho72)); have n0_ := Aside0.mk (Kd.R_lower ho72 (below_size (by repeat (first | (with_reducible first | exact HB.out | apply below_alloc | apply pw_below_drewN | apply below_drew1) | exact HB.out)))); have n1_ := Aside0.mk (below_step (by repeat (first | (with_reducible first | exact HB.out | apply below_alloc | apply pw_below_drewN | apply below_drew1) | exact HB.out)) hb); clear HB; have HO224 := n0_; have HB := n1_; clear n0_ n1_; clear hb ho72; have hcv73 := own_string (P := Tryd.prog) Tryd.underlying22 Tryd.underlying5 Tryd.underlying9 (Kd.own_of_R HO224.out))); try go_wp2_with (first | ((with_reducible refine gate_dst (N := 90) rfl ?_); (try (refine gate_guard (by rfl) ?_; dsimp only)); refine Kd.R_lit (Kd.int .u8) _ 5 ?hg (N := 90) ?hd (xs := ([a0] : List Int)) (inner := [.int .u8 a0]) (ok := fun _ => True) (okp := fun _ => True) ?hr ?hp (fun _ hk => hk) trivial (Below.refl _ _) (Nat.le_refl _) (by simp) ?_; (case hd => rfl); (case hg => rfl); (case hr => first | (go_simp; done) | (go_simp; rfl)); (case hp => exact (Reps.one (show Kd.M (Kd.int .u8) _ _ _ a0 [.int .u8 a0] from rfl) (Reps.none _ _))); intro v223 w71 ho72 hb hg_ hnew_; clear hg_ hnew_; (first | rw [← Ny222.out] at ho72 | (simp only [Int.reduceToNat] at ho72; rw [← Ny222.out] at ho72)); have n0_ := Aside0.mk (Kd.R_lower ho72 (below_size (by repeat (first | (with_reducible first | exact HB.out | apply below_alloc | apply pw_below_drewN | apply below_drew1) | exact HB.out)))); have n1_ := Aside0.mk (below_step (by repeat (first | (with_reducible first | exact HB.out | apply below_alloc | apply pw_below_drewN | apply below_drew1) | exact HB.out)) hb); clear HB; have HO224 := n0_; have HB := n1_; clear n0_ n1_; clear hb ho72; have hcv73 := own_string (P := Tryd.prog) Tryd.underlying22 Tryd.underlying5 Tryd.underlying9 (Kd.own_of_R HO224.out))))
                                                        go_meet
                                                        case rel => exact ⟨_, (((⟨#[47, 97]⟩ : ByteArray) ++ (strOfNums y222)) ++ (⟨#[122]⟩ : ByteArray)), (by first | rfl | (simp; done) | (simp [*]; done)), H', ⟨by have := HJ4.out; have := HJ17.out; first | omega | exact Nat.le_refl _⟩, ⟨by repeat (first | (with_reducible first | exact HB.out | apply below_alloc | apply pw_below_drewN | apply below_drew1) | exact HB.out)⟩⟩
                                                      · rw [if_neg c70] at H
                                                        exact absurd H (by simp)
                                                    · rw [if_neg c69] at H
                                                      exact absurd H (by simp)
                                                  · replace c68 := Bool.eq_false_iff.mpr c68
                                                    subst c68
                                                    rw [if_neg (show ¬ (false = true) by decide)] at H
                                                    have H' := Aside0.mk H
                                                    clear H
                                                    go_wp2
                                                    repeat (go_quiet (fail); try go_wp2)
                                                    go_meet
                                                    case rel => exact ⟨_, ((((⟨#[47, 97, 37]⟩ : ByteArray) ++ ((⟨#[48, 49, 50, 51, 52, 53, 54, 55, 56, 57, 65, 66, 67, 68, 69, 70]⟩ : ByteArray).extract ((ji8) : Int).toNat ((((ji8) + 1) % 256) : Int).toNat)) ++ ((⟨#[48, 49, 50, 51, 52, 53, 54, 55, 56, 57, 65, 66, 67, 68, 69, 70]⟩ : ByteArray).extract ((Go.bits .and .u8 a0 15) : Int).toNat ((((Go.bits .and .u8 a0 15) + 1) % 256) : Int).toNat)) ++ (⟨#[122]⟩ : ByteArray)), (by first | rfl | (simp; done) | (simp only [← hji8] <;> (first | rfl | simp)) | (simp [*]; done)), H', ⟨by have := HJ4.out; have := HJ17.out; first | omega | exact Nat.le_refl _⟩, ⟨by repeat (first | (with_reducible first | exact HB.out | apply below_alloc | apply pw_below_drewN | apply below_drew1) | exact HB.out)⟩⟩
                                                case rest =>
                                                  clear HC67
                                                  try clear c1
                                                  try clear c2
                                                  try clear p2
                                                  try clear c3
                                                  try clear c4
                                                  try clear c5
                                                  try clear c6
                                                  try clear c7
                                                  try clear hcv7
                                                  try clear c9
                                                  try clear c9b0
                                                  try clear c9b1
                                                  try clear c10
                                                  try clear c10b0
                                                  try clear c10b1
                                                  try clear c11
                                                  try clear c11b0
                                                  try clear c11b1
                                                  try clear c12
                                                  try clear c12b0
                                                  try clear c12b1
                                                  try clear c12b2
                                                  try clear c13
                                                  try clear c13b0
                                                  try clear c13b1
                                                  try clear c14
                                                  try clear c14b0
                                                  try clear c14b1
                                                  try clear c15
                                                  try clear c15b0
                                                  try clear c15b1
                                                  try clear c16
                                                  try clear c16b0
                                                  try clear c16b1
                                                  try clear c16b2
                                                  try clear c17
                                                  try clear c17b0
                                                  try clear c17b1
                                                  try clear c17b2
                                                  try clear c19
                                                  try clear c19b0
                                                  try clear c20
                                                  try clear c20b0
                                                  try clear c21
                                                  try clear c21b0
                                                  try clear c22
                                                  try clear c22b0
                                                  try clear c23
                                                  try clear c23b0
                                                  try clear c24
                                                  try clear c24b0
                                                  try clear c25
                                                  try clear c25b0
                                                  try clear c25b1
                                                  try clear c26
                                                  try clear c26b0
                                                  try clear c26b1
                                                  try clear c27
                                                  try clear c27b0
                                                  try clear c27b1
                                                  try clear c28
                                                  try clear c28b0
                                                  try clear c28b1
                                                  try clear c29
                                                  try clear c29b0
                                                  try clear c29b1
                                                  try clear c30
                                                  try clear c30b0
                                                  try clear c30b1
                                                  try clear c31
                                                  try clear c31b0
                                                  try clear c32
                                                  try clear c32b0
                                                  try clear c33
                                                  try clear c33b0
                                                  try clear c33b1
                                                  try clear c34
                                                  try clear c34b0
                                                  try clear c34b1
                                                  try clear c35
                                                  try clear c35b0
                                                  try clear c35b1
                                                  try clear c36
                                                  try clear c36b0
                                                  try clear c36b1
                                                  try clear c37
                                                  try clear c37b0
                                                  try clear c37b1
                                                  try clear c38
                                                  try clear c38b0
                                                  try clear c38b1
                                                  try clear c39
                                                  try clear c39b0
                                                  try clear c40
                                                  try clear c40b0
                                                  try clear c41
                                                  try clear c41b0
                                                  try clear c42
                                                  try clear c42b0
                                                  try clear c43
                                                  try clear c43b0
                                                  try clear c43b1
                                                  try clear c44
                                                  try clear c44b0
                                                  try clear c44b1
                                                  try clear c45
                                                  try clear c45b0
                                                  try clear c45b1
                                                  try clear c46
                                                  try clear c46b0
                                                  try clear c46b1
                                                  try clear c47
                                                  try clear c47b0
                                                  try clear c47b1
                                                  try clear c48
                                                  try clear c48b0
                                                  try clear c48b1
                                                  try clear c49
                                                  try clear c49b0
                                                  try clear c50
                                                  try clear c50b0
                                                  try clear c51
                                                  try clear c51b0
                                                  try clear c51b1
                                                  try clear c52
                                                  try clear c52b0
                                                  try clear c52b1
                                                  try clear c53
                                                  try clear c53b0
                                                  try clear c53b1
                                                  try clear c54
                                                  try clear c54b0
                                                  try clear c54b1
                                                  try clear c55
                                                  try clear c55b0
                                                  try clear c55b1
                                                  try clear c56
                                                  try clear c56b0
                                                  try clear c56b1
                                                  try clear c58
                                                  try clear c58b0
                                                  try clear c58b1
                                                  try clear c59
                                                  try clear c59b0
                                                  try clear c59b1
                                                  try clear c60
                                                  try clear c60b0
                                                  try clear c60b1
                                                  try clear c61
                                                  try clear c61b0
                                                  try clear c61b1
                                                  try clear c61b2
                                                  try clear c62
                                                  try clear c62b0
                                                  try clear c62b1
                                                  try clear c63
                                                  try clear c63b0
                                                  try clear c63b1
                                                  try clear c64
                                                  try clear c64b0
                                                  try clear c64b1
                                                  try clear c65
                                                  try clear c65b0
                                                  try clear c65b1
                                                  try clear c65b2
                                                  try clear c66
                                                  try clear c66b0
                                                  try clear c66b1
                                                  try clear c66b2
                                                  try clear c68
                                                  try clear c69
                                                  try clear c69b0
                                                  try clear c69b1
                                                  try clear c69b2
                                                  try clear c70
                                                  try clear c70b0
                                                  try clear c70b1
                                                  try clear c70b2
                                                  try clear hcv73
                                                  try clear p2
                                                  obtain ⟨kq, x8_66, rfl, HA, HJ66, HB⟩ := hcut
                                                  cases kq with
                                                  | zero => exact absurd HA.out (by simp [parallaxlaw19_PercentSigns.j2])
                                                  | succ kj66 =>
                                                    have H := HA.out
                                                    clear HA
                                                    simp only [parallaxlaw19_PercentSigns.j2] at H
                                                    replace H := Option.bind_eq_some_iff.mp H
                                                    obtain ⟨⟨t225, t226⟩, A740, H⟩ := H
                                                    (try dsimp only at H)
                                                    have A74 := Aside0.mk A740
                                                    clear A740
                                                    replace H := Option.bind_eq_some_iff.mp H
                                                    obtain ⟨⟨t227, t228⟩, A750, H⟩ := H
                                                    (try dsimp only at H)
                                                    have A75 := Aside0.mk A750
                                                    clear A750
                                                    replace H := Option.bind_eq_some_iff.mp H
                                                    obtain ⟨⟨t229, t230⟩, A760, H⟩ := H
                                                    (try dsimp only at H)
                                                    have A76 := Aside0.mk A760
                                                    clear A760
                                                    have HC77 := Aside0.mk H
                                                    clear H
                                                    go_upto_region 14 with (first | (go_at_call 9; (with_reducible refine (percent_Norm.calls kj66 T_ t225 t226 _ A74.out).mono ?_); rintro e w78 ⟨rfl, hb⟩; have n0_ := Aside0.mk (below_step (by repeat (first | (with_reducible first | exact HB.out | apply below_alloc | apply pw_below_drewN | apply below_drew1) | exact HB.out)) hb); clear HB; have HB := n0_; clear n0_; (try clear hb); (try clear hb2); (try clear hk); (try clear hi)) | (go_at_call 11; (with_reducible refine (percent_Decode.calls kj66 T_ t227 t228 _ A75.out).mono ?_); rintro e w79 ⟨rfl, hb⟩; have n0_ := Aside0.mk (below_step (by repeat (first | (with_reducible first | exact HB.out | apply below_alloc | apply pw_below_drewN | apply below_drew1) | exact HB.out)) hb); clear HB; have HB := n0_; clear n0_; (try clear hb); (try clear hb2); (try clear hk); (try clear hi)) | (go_at_call 11; (with_reducible refine (percent_Decode.calls kj66 t225 t229 t230 _ A76.out).mono ?_); rintro e w80 ⟨rfl, hb⟩; have n0_ := Aside0.mk (below_step (by repeat (first | (with_reducible first | exact HB.out | apply below_alloc | apply pw_below_drewN | apply below_drew1) | exact HB.out)) hb); clear HB; have HB := n0_; clear n0_; (try clear hb); (try clear hb2); (try clear hk); (try clear hi)))
                                                    repeat (go_quiet (first | (go_at_call 9; (with_reducible refine (percent_Norm.calls kj66 T_ t225 t226 _ A74.out).mono ?_); rintro e w78 ⟨rfl, hb⟩; have n0_ := Aside0.mk (below_step (by repeat (first | (with_reducible first | exact HB.out | apply below_alloc | apply pw_below_drewN | apply below_drew1) | exact HB.out)) hb); clear HB; have HB := n0_; clear n0_; (try clear hb); (try clear hb2); (try clear hk); (try clear hi)) | (go_at_call 11; (with_reducible refine (percent_Decode.calls kj66 T_ t227 t228 _ A75.out).mono ?_); rintro e w79 ⟨rfl, hb⟩; have n0_ := Aside0.mk (below_step (by repeat (first | (with_reducible first | exact HB.out | apply below_alloc | apply pw_below_drewN | apply below_drew1) | exact HB.out)) hb); clear HB; have HB := n0_; clear n0_; (try clear hb); (try clear hb2); (try clear hk); (try clear hi)) | (go_at_call 11; (with_reducible refine (percent_Decode.calls kj66 t225 t229 t230 _ A76.out).mono ?_); rintro e w80 ⟨rfl, hb⟩; have n0_ := Aside0.mk (below_step (by repeat (first | (with_reducible first | exact HB.out | apply below_alloc | apply pw_below_drewN | apply below_drew1) | exact HB.out)) hb); clear HB; have HB := n0_; clear n0_; (try clear hb); (try clear hb2); (try clear hk); (try clear hi))); go_upto_region 14 with (first | (go_at_call 9; (with_reducible refine (percent_Norm.calls kj66 T_ t225 t226 _ A74.out).mono ?_); rintro e w78 ⟨rfl, hb⟩; have n0_ := Aside0.mk (below_step (by repeat (first | (with_reducible first | exact HB.out | apply below_alloc | apply pw_below_drewN | apply below_drew1) | exact HB.out)) hb); clear HB; have HB := n0_; clear n0_; (try clear hb); (try clear hb2); (try clear hk); (try clear hi)) | (go_at_call 11; (with_reducible refine (percent_Decode.calls kj66 T_ t227 t228 _ A75.out).mono ?_); rintro e w79 ⟨rfl, hb⟩; have n0_ := Aside0.mk (below_step (by repeat (first | (with_reducible first | exact HB.out | apply below_alloc | apply pw_below_drewN | apply below_drew1) | exact HB.out)) hb); clear HB; have HB := n0_; clear n0_; (try clear hb); (try clear hb2); (try clear hk); (try clear hi)) | (go_at_call 11; (with_reducible refine (percent_Decode.calls kj66 t225 t229 t230 _ A76.out).mono ?_); rintro e w80 ⟨rfl, hb⟩; have n0_ := Aside0.mk (below_step (by repeat (first | (with_reducible first | exact HB.out | apply below_alloc | apply pw_below_drewN | apply below_drew1) | exact HB.out)) hb); clear HB; have HB := n0_; clear n0_; (try clear hb); (try clear hb2); (try clear hk); (try clear hi))))
                                                    (try simp only [Act.put, List.setIfInBounds_toArray, List.set_cons_zero, List.set_cons_succ])
                                                    go_cut [4] (fun v4 wc => ∃ (kq : Nat) (x4_76 : Bool), v4 = .bool x4_76 ∧ Aside0 (parallaxlaw19_PercentSigns.j3 kq x4_76 = some r) ∧ Aside0 (kq ≤ kj66) ∧ Aside0 (Below w.heap.size w wc))
                                                    case first =>
                                                      have H := HC77.out
                                                      clear HC77
                                                      by_cases c81 : t226 = true
                                                      · subst c81
                                                        rw [if_pos rfl] at H
                                                        by_cases c82 : t225.toList = x8_66.toList
                                                        · rw [if_pos c82] at H
                                                          have c82b0 : (t225.toList == x8_66.toList) = true := beq_iff_eq.mpr c82
                                                          have c82b1 : (t225.toList != x8_66.toList) = false := bne_eq_false_iff_eq.mpr c82
                                                          clear c82
                                                          (first | rw [c82b0] | (simp only [i64_w, i32_w]; rw [c82b0]) | skip)
                                                          by_cases c83 : t228 = true
                                                          · subst c83
                                                            rw [if_pos rfl] at H
                                                            by_cases c84 : t230 = true
                                                            · subst c84
                                                              rw [if_pos rfl] at H
                                                              by_cases c85 : t227.toList = t229.toList
                                                              · rw [if_pos c85] at H
                                                                have c85b0 : (t227.toList == t229.toList) = true := beq_iff_eq.mpr c85
                                                                have c85b1 : (t227.toList != t229.toList) = false := bne_eq_false_iff_eq.mpr c85
                                                                clear c85
                                                                obtain ⟨y231, hy231⟩ : ∃ y_ : List Int, y_ = (([a0] : List Int)) := ⟨_, rfl⟩
                                                                replace H : (if 2 + (strOfNums y231).size ≤ 9223372036854775807 then (if ((⟨#[47, 97]⟩ : ByteArray) ++ (strOfNums y231)).size + 1 ≤ 9223372036854775807 then (parallaxlaw19_PercentSigns.j3 kj66 (t227.toList == (((⟨#[47, 97]⟩ : ByteArray) ++ (strOfNums y231)) ++ (⟨#[122]⟩ : ByteArray)).toList)) else (none)) else (none)) = some r := by first | (rw [hy231]; with_reducible exact H) | (have H2_ := (Option.bind_some _ _).symm.trans H; rw [hy231]; with_reducible exact H2_) | (have H2_ := (Option.bind_some _ _).symm.trans H; with_reducible exact H2_) | with_reducible exact H | (rw [hy231]; exact H) | exact H
                                                                have Ny231 := Aside0.mk hy231
                                                                clear hy231
                                                                by_cases c86 : 2 + (strOfNums y231).size ≤ 9223372036854775807
                                                                · rw [if_pos c86] at H
                                                                  have c86b0 := eq_true c86
                                                                  have c86b1 : decide (2 + (strOfNums y231).size ≤ 9223372036854775807) = true := decide_eq_true c86
                                                                  try have c86b2 : (9223372036854775807 < 2 + (strOfNums y231).size) = False := eq_false (Nat.not_lt.2 c86)
                                                                  by_cases c87 : ((⟨#[47, 97]⟩ : ByteArray) ++ (strOfNums y231)).size + 1 ≤ 9223372036854775807
                                                                  · rw [if_pos c87] at H
                                                                    have c87b0 := eq_true c87
                                                                    have c87b1 : decide (((⟨#[47, 97]⟩ : ByteArray) ++ (strOfNums y231)).size + 1 ≤ 9223372036854775807) = true := decide_eq_true c87
                                                                    try have c87b2 : (9223372036854775807 < ((⟨#[47, 97]⟩ : ByteArray) ++ (strOfNums y231)).size + 1) = False := eq_false (Nat.not_lt.2 c87)
                                                                    (try (have c87b3 : (9223372036854775807 < 2 + (strOfNums y231).size + 1) = False := eq_false (by have h_ := c87; simp only [ByteArray.size_append] at h_; exact Nat.not_lt.mpr h_)))
                                                                    (try (have c87b4 : decide (2 + (strOfNums y231).size + 1 ≤ 9223372036854775807) = true := decide_eq_true (by have h_ := c87; simp only [ByteArray.size_append] at h_; exact h_)))
                                                                    have H' := Aside0.mk H
                                                                    clear H
                                                                    go_wp2_with (first | ((with_reducible refine gate_dst (N := 129) rfl ?_); (try (refine gate_guard (by rfl) ?_; dsimp only)); refine Kd.R_lit (Kd.int .u8) _ 5 ?hg (N := 129) ?hd (xs := ([a0] : List Int)) (inner := [.int .u8 a0]) (ok := fun _ => True) (okp := fun _ => True) ?hr ?hp (fun _ hk => hk) trivial (Below.refl _ _) (Nat.le_refl _) (by simp) ?_; (case hd => rfl); (case hg => rfl); (case hr => first | (go_simp; done) | (go_simp; rfl)); (case hp => exact (Reps.one (show Kd.M (Kd.int .u8) _ _ _ a0 [.int .u8 a0] from rfl) (Reps.none _ _))); intro v232 w88 ho89 hb hg_ hnew_; clear hg_ hnew_; (first | rw [← Ny231.out] at ho89 | (simp only [Int.reduceToNat] at ho89; rw [← Ny231.out] at ho89)); have n0_ := Aside0.mk (Kd.R_lower ho89 (below_size (by repeat (first | (with_reducible first | exact HB.out | apply below_alloc | apply pw_below_drewN | apply below_drew1) | exact HB.out)))); have n1_ := Aside0.mk (below_step (by repeat (first | (with_reducible first | exact HB.out | apply below_alloc | apply pw_below_drewN | apply below_drew1) | exact HB.out)) hb); clear HB; have HO233 := n0_; have HB := n1_; clear n0_ n1_; clear hb ho89; have hcv90 := own_string (P := Tryd.prog) Tryd.underlying22 Tryd.underlying5 Tryd.underlying9 (Kd.own_of_R HO233.out)))
                                                                    repeat (go_quiet (first | ((with_reducible refine gate_dst (N := 129) rfl ?_); (try (refine gate_guard (by rfl) ?_; dsimp only)); refine Kd.R_lit (Kd.int .u8) _ 5 ?hg (N := 129) ?hd (xs := ([a0] : List Int)) (inner := [.int .u8 a0]) (ok := fun _ => True) (okp := fun _ => True) ?hr ?hp (fun _ hk => hk) trivial (Below.refl _ _) (Nat.le_refl _) (by simp) ?_; (case hd => rfl); (case hg => rfl); (case hr => first | (go_simp; done) | (go_simp; rfl)); (case hp => exact (Reps.one (show Kd.M (Kd.int .u8) _ _ _ a0 [.int .u8 a0] from rfl) (Reps.none _ _))); intro v232 w88 ho89 hb hg_ hnew_; clear hg_ hnew_; (first | rw [← Ny231.out] at ho89 | (simp only [Int.reduceToNat] at ho89; rw [← Ny231.out] at ho89)); have n0_ := Aside0.mk (Kd.R_lower ho89 (below_size (by repeat (first | (with_reducible first | exact HB.out | apply below_alloc | apply pw_below_drewN | apply below_drew1) | exact HB.out)))); have n1_ := Aside0.mk (below_step (by repeat (first | (with_reducible first | exact HB.out | apply below_alloc | apply pw_below_drewN | apply below_drew1) | exact HB.out)) hb); clear HB; have HO233 := n0_; have HB := n1_; clear n0_ n1_; clear hb ho89; have hcv90 := own_string (P := Tryd.prog) Tryd.underlying22 Tryd.underlying5 Tryd.underlying9 (Kd.own_of_R HO233.out))); try go_wp2_with (first | ((with_reducible refine gate_dst (N := 129) rfl ?_); (try (refine gate_guard (by rfl) ?_; dsimp only)); refine Kd.R_lit (Kd.int .u8) _ 5 ?hg (N := 129) ?hd (xs := ([a0] : List Int)) (inner := [.int .u8 a0]) (ok := fun _ => True) (okp := fun _ => True) ?hr ?hp (fun _ hk => hk) trivial (Below.refl _ _) (Nat.le_refl _) (by simp) ?_; (case hd => rfl); (case hg => rfl); (case hr => first | (go_simp; done) | (go_simp; rfl)); (case hp => exact (Reps.one (show Kd.M (Kd.int .u8) _ _ _ a0 [.int .u8 a0] from rfl) (Reps.none _ _))); intro v232 w88 ho89 hb hg_ hnew_; clear hg_ hnew_; (first | rw [← Ny231.out] at ho89 | (simp only [Int.reduceToNat] at ho89; rw [← Ny231.out] at ho89)); have n0_ := Aside0.mk (Kd.R_lower ho89 (below_size (by repeat (first | (with_reducible first | exact HB.out | apply below_alloc | apply pw_below_drewN | apply below_drew1) | exact HB.out)))); have n1_ := Aside0.mk (below_step (by repeat (first | (with_reducible first | exact HB.out | apply below_alloc | apply pw_below_drewN | apply below_drew1) | exact HB.out)) hb); clear HB; have HO233 := n0_; have HB := n1_; clear n0_ n1_; clear hb ho89; have hcv90 := own_string (P := Tryd.prog) Tryd.underlying22 Tryd.underlying5 Tryd.underlying9 (Kd.own_of_R HO233.out))))
                                                                    go_meet
                                                                    case rel => exact ⟨_, ((t227.toList == (((⟨#[47, 97]⟩ : ByteArray) ++ (strOfNums y231)) ++ (⟨#[122]⟩ : ByteArray)).toList)), (by first | rfl | (simp; done) | (simp [*]; done)), H', ⟨by have := HJ4.out; have := HJ17.out; have := HJ66.out; first | omega | exact Nat.le_refl _⟩, ⟨by repeat (first | (with_reducible first | exact HB.out | apply below_alloc | apply pw_below_drewN | apply below_drew1) | exact HB.out)⟩⟩
                                                                  · rw [if_neg c87] at H
                                                                    exact absurd H (by simp)
                                                                · rw [if_neg c86] at H
                                                                  exact absurd H (by simp)
                                                              · rw [if_neg c85] at H
                                                                have c85b0 : (t227.toList == t229.toList) = false := beq_eq_false_iff_ne.mpr c85
                                                                have c85b1 : (t227.toList != t229.toList) = true := bne_iff_ne.mpr c85
                                                                have H' := Aside0.mk H
                                                                clear H
                                                                go_wp2
                                                                repeat (go_quiet (fail); try go_wp2)
                                                                go_meet
                                                                case rel => exact ⟨_, (false), (by first | rfl | (simp; done) | (simp [*]; done)), H', ⟨by have := HJ4.out; have := HJ17.out; have := HJ66.out; first | omega | exact Nat.le_refl _⟩, ⟨by repeat (first | (with_reducible first | exact HB.out | apply below_alloc | apply pw_below_drewN | apply below_drew1) | exact HB.out)⟩⟩
                                                            · replace c84 := Bool.eq_false_iff.mpr c84
                                                              subst c84
                                                              rw [if_neg (show ¬ (false = true) by decide)] at H
                                                              have H' := Aside0.mk H
                                                              clear H
                                                              go_wp2
                                                              repeat (go_quiet (fail); try go_wp2)
                                                              go_meet
                                                              case rel => exact ⟨_, (false), (by first | rfl | (simp; done) | (simp [*]; done)), H', ⟨by have := HJ4.out; have := HJ17.out; have := HJ66.out; first | omega | exact Nat.le_refl _⟩, ⟨by repeat (first | (with_reducible first | exact HB.out | apply below_alloc | apply pw_below_drewN | apply below_drew1) | exact HB.out)⟩⟩
                                                          · replace c83 := Bool.eq_false_iff.mpr c83
                                                            subst c83
                                                            rw [if_neg (show ¬ (false = true) by decide)] at H
                                                            have H' := Aside0.mk H
                                                            clear H
                                                            go_wp2
                                                            repeat (go_quiet (fail); try go_wp2)
                                                            go_meet
                                                            case rel => exact ⟨_, (false), (by first | rfl | (simp; done) | (simp [*]; done)), H', ⟨by have := HJ4.out; have := HJ17.out; have := HJ66.out; first | omega | exact Nat.le_refl _⟩, ⟨by repeat (first | (with_reducible first | exact HB.out | apply below_alloc | apply pw_below_drewN | apply below_drew1) | exact HB.out)⟩⟩
                                                        · rw [if_neg c82] at H
                                                          have c82b0 : (t225.toList == x8_66.toList) = false := beq_eq_false_iff_ne.mpr c82
                                                          have c82b1 : (t225.toList != x8_66.toList) = true := bne_iff_ne.mpr c82
                                                          (first | rw [c82b0] | (simp only [i64_w, i32_w]; rw [c82b0]) | skip)
                                                          have H' := Aside0.mk H
                                                          clear H
                                                          go_wp2
                                                          repeat (go_quiet (fail); try go_wp2)
                                                          go_meet
                                                          case rel => exact ⟨_, (false), (by first | rfl | (simp; done) | (simp [*]; done)), H', ⟨by have := HJ4.out; have := HJ17.out; have := HJ66.out; first | omega | exact Nat.le_refl _⟩, ⟨by repeat (first | (with_reducible first | exact HB.out | apply below_alloc | apply pw_below_drewN | apply below_drew1) | exact HB.out)⟩⟩
                                                      · replace c81 := Bool.eq_false_iff.mpr c81
                                                        subst c81
                                                        rw [if_neg (show ¬ (false = true) by decide)] at H
                                                        have H' := Aside0.mk H
                                                        clear H
                                                        go_wp2
                                                        repeat (go_quiet (fail); try go_wp2)
                                                        go_meet
                                                        case rel => exact ⟨_, (false), (by first | rfl | (simp; done) | (simp [*]; done)), H', ⟨by have := HJ4.out; have := HJ17.out; have := HJ66.out; first | omega | exact Nat.le_refl _⟩, ⟨by repeat (first | (with_reducible first | exact HB.out | apply below_alloc | apply pw_below_drewN | apply below_drew1) | exact HB.out)⟩⟩
                                                    case rest =>
                                                      clear HC77
                                                      try clear c1
                                                      try clear c2
                                                      try clear p2
                                                      try clear c3
                                                      try clear c4
                                                      try clear c5
                                                      try clear c6
                                                      try clear c7
                                                      try clear hcv7
                                                      try clear c8
                                                      try clear c9
                                                      try clear c9b0
                                                      try clear c9b1
                                                      try clear hcv9
                                                      try clear c10
                                                      try clear c10b0
                                                      try clear c10b1
                                                      try clear c11
                                                      try clear c11b0
                                                      try clear c11b1
                                                      try clear c12
                                                      try clear c12b0
                                                      try clear c12b1
                                                      try clear c12b2
                                                      try clear c13
                                                      try clear c13b0
                                                      try clear c13b1
                                                      try clear c14
                                                      try clear c14b0
                                                      try clear c14b1
                                                      try clear c15
                                                      try clear c15b0
                                                      try clear c15b1
                                                      try clear c16
                                                      try clear c16b0
                                                      try clear c16b1
                                                      try clear c16b2
                                                      try clear c17
                                                      try clear c17b0
                                                      try clear c17b1
                                                      try clear c17b2
                                                      try clear c19
                                                      try clear c19b0
                                                      try clear c20
                                                      try clear c20b0
                                                      try clear c21
                                                      try clear c21b0
                                                      try clear c22
                                                      try clear c22b0
                                                      try clear c23
                                                      try clear c23b0
                                                      try clear c24
                                                      try clear c24b0
                                                      try clear c25
                                                      try clear c25b0
                                                      try clear c25b1
                                                      try clear c26
                                                      try clear c26b0
                                                      try clear c26b1
                                                      try clear c27
                                                      try clear c27b0
                                                      try clear c27b1
                                                      try clear c28
                                                      try clear c28b0
                                                      try clear c28b1
                                                      try clear c29
                                                      try clear c29b0
                                                      try clear c29b1
                                                      try clear c30
                                                      try clear c30b0
                                                      try clear c30b1
                                                      try clear c31
                                                      try clear c31b0
                                                      try clear c32
                                                      try clear c32b0
                                                      try clear c33
                                                      try clear c33b0
                                                      try clear c33b1
                                                      try clear c34
                                                      try clear c34b0
                                                      try clear c34b1
                                                      try clear c35
                                                      try clear c35b0
                                                      try clear c35b1
                                                      try clear c36
                                                      try clear c36b0
                                                      try clear c36b1
                                                      try clear c37
                                                      try clear c37b0
                                                      try clear c37b1
                                                      try clear c38
                                                      try clear c38b0
                                                      try clear c38b1
                                                      try clear c39
                                                      try clear c39b0
                                                      try clear c40
                                                      try clear c40b0
                                                      try clear c41
                                                      try clear c41b0
                                                      try clear c42
                                                      try clear c42b0
                                                      try clear c43
                                                      try clear c43b0
                                                      try clear c43b1
                                                      try clear c44
                                                      try clear c44b0
                                                      try clear c44b1
                                                      try clear c45
                                                      try clear c45b0
                                                      try clear c45b1
                                                      try clear c46
                                                      try clear c46b0
                                                      try clear c46b1
                                                      try clear c47
                                                      try clear c47b0
                                                      try clear c47b1
                                                      try clear c48
                                                      try clear c48b0
                                                      try clear c48b1
                                                      try clear c49
                                                      try clear c49b0
                                                      try clear c50
                                                      try clear c50b0
                                                      try clear c51
                                                      try clear c51b0
                                                      try clear c51b1
                                                      try clear c52
                                                      try clear c52b0
                                                      try clear c52b1
                                                      try clear c53
                                                      try clear c53b0
                                                      try clear c53b1
                                                      try clear c54
                                                      try clear c54b0
                                                      try clear c54b1
                                                      try clear c55
                                                      try clear c55b0
                                                      try clear c55b1
                                                      try clear c56
                                                      try clear c56b0
                                                      try clear c56b1
                                                      try clear c58
                                                      try clear c58b0
                                                      try clear c58b1
                                                      try clear c59
                                                      try clear c59b0
                                                      try clear c59b1
                                                      try clear c60
                                                      try clear c60b0
                                                      try clear c60b1
                                                      try clear c61
                                                      try clear c61b0
                                                      try clear c61b1
                                                      try clear c61b2
                                                      try clear c62
                                                      try clear c62b0
                                                      try clear c62b1
                                                      try clear c63
                                                      try clear c63b0
                                                      try clear c63b1
                                                      try clear c64
                                                      try clear c64b0
                                                      try clear c64b1
                                                      try clear c65
                                                      try clear c65b0
                                                      try clear c65b1
                                                      try clear c65b2
                                                      try clear c66
                                                      try clear c66b0
                                                      try clear c66b1
                                                      try clear c66b2
                                                      try clear c68
                                                      try clear c69
                                                      try clear c69b0
                                                      try clear c69b1
                                                      try clear c69b2
                                                      try clear c70
                                                      try clear c70b0
                                                      try clear c70b1
                                                      try clear c70b2
                                                      try clear hcv73
                                                      try clear c81
                                                      try clear c82
                                                      try clear c82b0
                                                      try clear c82b1
                                                      try clear c83
                                                      try clear c84
                                                      try clear c85
                                                      try clear c85b0
                                                      try clear c85b1
                                                      try clear c86
                                                      try clear c86b0
                                                      try clear c86b1
                                                      try clear c86b2
                                                      try clear c87
                                                      try clear c87b0
                                                      try clear c87b1
                                                      try clear c87b2
                                                      try clear hcv90
                                                      try clear p2
                                                      obtain ⟨kq, x4_76, rfl, HA, HJ76, HB⟩ := hcut
                                                      cases kq with
                                                      | zero => exact absurd HA.out (by simp [parallaxlaw19_PercentSigns.j3])
                                                      | succ kj76 =>
                                                        have H := HA.out
                                                        clear HA
                                                        simp only [parallaxlaw19_PercentSigns.j3] at H
                                                        obtain rfl := Option.some.inj H
                                                        go_wp2
                                                        repeat (go_quiet (fail); try go_wp2)
                                                        go_ret
                                                        exact ⟨by first | rfl | (simp [errW_none, errW_some] <;> rfl) | (simp only [← hji8, ← hji8]; first | rfl | (simp [errW_none, errW_some] <;> rfl)) | (simp [*, errW_none, errW_some] <;> rfl), by repeat (first | (with_reducible first | exact HB.out | apply below_alloc | apply pw_below_drewN | apply below_drew1) | exact HB.out)⟩
                                              · rw [if_neg c66] at H
                                                exact absurd H (by simp)
                                            · rw [if_neg c65] at H
                                              exact absurd H (by simp)
                                          · rw [if_neg c64] at H
                                            exact absurd H (by simp)
                                        · rw [if_neg c63] at H
                                          exact absurd H (by simp)
                                      · rw [if_neg c62] at H
                                        exact absurd H (by simp)
                                    · rw [if_neg c61] at H
                                      exact absurd H (by simp)
                                  · rw [if_neg c60] at H
                                    exact absurd H (by simp)
                                · rw [if_neg c59] at H
                                  exact absurd H (by simp)
                              · rw [if_neg c58] at H
                                exact absurd H (by simp)
                        · rw [if_neg c17] at H
                          exact absurd H (by simp)
                      · rw [if_neg c16] at H
                        exact absurd H (by simp)
                    · rw [if_neg c15] at H
                      exact absurd H (by simp)
                  · rw [if_neg c14] at H
                    exact absurd H (by simp)
                · rw [if_neg c13] at H
                  exact absurd H (by simp)
              · rw [if_neg c12] at H
                exact absurd H (by simp)
            · rw [if_neg c11] at H
              exact absurd H (by simp)
          · rw [if_neg c10] at H
            exact absurd H (by simp)
        · rw [if_neg c9] at H
          exact absurd H (by simp)
  · replace c4 := Bool.eq_false_iff.mpr c4
    subst c4
    rw [if_neg (show ¬ (false = true) by decide)] at H
    exact absurd ((Option.some.inj H).trans HT.out) (by decide)

/-- THE ONE PURE STATEMENT of parallaxlaw19_PercentSigns: yours. -/
def parallaxlaw19_PercentSigns.Pure : Prop := ∀ (a0 : Int) (a1 : Bool), (Lit.int .u8 a0).wf = true → ∃ k, parallaxlaw19_PercentSigns.f k a0 a1 = some true
theorem parallaxlaw19_PercentSigns.walk (P : parallaxlaw19_PercentSigns.Pure) (a0 : Int) (a1 : Bool) (w : World) (w0 : (Lit.int .u8 a0).wf = true) :
    Calls Tryd.prog 5 #[.int .u8 a0, .bool a1] w fun e w' => e = .returned (.bool true) ∧ Below w.heap.size w w' := by
  obtain ⟨k, h⟩ := P a0 a1 w0
  refine (parallaxlaw19_PercentSigns.calls k a0 a1 true w w0 rfl h).mono ?_
  rintro e w' ⟨rfl, hd⟩
  exact ⟨rfl, hd⟩

end Go.Proofs.YtljmpmipjdlkaaaDoor.PPercentSigns
