-- Written by a program of this session (wip/tools/myprint.sh)
import Derived.Test.YtclaaacdmaeblaaDoorPRequestExtendsx0
namespace Go.Proofs.YtclaaacdmaeblaaDoor.PRequestExtends
open Go.RowKit Go.Proofs.YtclaaacdmaeblaaDoorW.PrintWords Go.Proofs.YtclaaacdmaeblaaDoorW.PrintLast Go.Proofs.YtclaaacdmaeblaaDoorW.PrintMore
attribute [local go_sem] max2_int min2_int max_two min_two max_three min_three max_four min_four   -- for this text's walks alone
set_option linter.unusedVariables false
set_option linter.unusedSimpArgs false

/-! ### parallaxseat_Line: function 11 -/
mutual
def parallaxseat_Line.j0 : Nat → Int → Int → ByteArray → ByteArray → Bool → Option (ByteArray)
  | 0, _, _, _, _, _ => none
  | k + 1, x0, x1, x5, x6, x30 => if x30 = true then (parallaxseat_Line.j1 k x0 x1 (⟨#[47, 97]⟩ : ByteArray) x6) else (parallaxseat_Line.j1 k x0 x1 x5 x6)
def parallaxseat_Line.j1 : Nat → Int → Int → ByteArray → ByteArray → Option (ByteArray)
  | 0, _, _, _, _ => none
  | k + 1, x0, x1, x5, x6 => if x0 < 200 then (if (Int.tmod x0 8) > 5 then (parallaxseat_Line.j2 k x0 x1 x5 x6 true) else (parallaxseat_Line.j2 k x0 x1 x5 x6 ((Int.tmod x1 12) == 5))) else (parallaxseat_Line.j2 k x0 x1 x5 x6 false)
def parallaxseat_Line.j2 : Nat → Int → Int → ByteArray → ByteArray → Bool → Option (ByteArray)
  | 0, _, _, _, _, _ => none
  | k + 1, x0, x1, x5, x6, x42 => if x42 = true then (parallaxseat_Line.j3 k x0 x1 (⟨#[47, 97]⟩ : ByteArray) (⟨#[71, 69, 84]⟩ : ByteArray)) else (parallaxseat_Line.j3 k x0 x1 x5 x6)
def parallaxseat_Line.j3 : Nat → Int → Int → ByteArray → ByteArray → Option (ByteArray)
  | 0, _, _, _, _ => none
  | k + 1, x0, x1, x5, x6 => if x1 > 200 then ((some (([(⟨#[32]⟩ : ByteArray), (⟨#[32, 32]⟩ : ByteArray), (⟨#[9]⟩ : ByteArray), (⟨#[32, 9, 32]⟩ : ByteArray)] : List ByteArray) : List ByteArray)).bind fun y300 => (if 0 ≤ (Int.tmod x1 4) then (if (Int.tmod x1 4) < (y300.length : Int) then ((some (([(⟨#[72, 84, 84, 80, 47, 49, 46, 49]⟩ : ByteArray), (⟨#[72, 84, 84, 80, 47, 49, 46, 48]⟩ : ByteArray), (⟨#[72, 84, 84, 80, 47, 49, 46, 55]⟩ : ByteArray), (⟨#[104, 116, 116, 112, 47, 49, 46, 49]⟩ : ByteArray), (⟨#[72, 84, 84, 80, 47, 50, 46, 48]⟩ : ByteArray), (⟨#[72, 84, 84, 80, 47, 49, 46, 49]⟩ : ByteArray)] : List ByteArray) : List ByteArray)).bind fun y304 => (if 0 ≤ (Int.tmod x0 6) then (if (Int.tmod x0 6) < (y304.length : Int) then (if x1 = 199 then (if x6.size + 1 ≤ 9223372036854775807 then (if (x6 ++ (⟨#[32]⟩ : ByteArray)).size + x5.size ≤ 9223372036854775807 then (some ((x6 ++ (⟨#[32]⟩ : ByteArray)) ++ x5)) else (none)) else (none)) else (if x6.size + (rdOf ByteArray.empty y300 (Int.tmod x1 4)).size ≤ 9223372036854775807 then (if (x6 ++ (rdOf ByteArray.empty y300 (Int.tmod x1 4))).size + x5.size ≤ 9223372036854775807 then (if ((x6 ++ (rdOf ByteArray.empty y300 (Int.tmod x1 4))) ++ x5).size + (rdOf ByteArray.empty y300 (Int.tmod x1 4)).size ≤ 9223372036854775807 then (if (((x6 ++ (rdOf ByteArray.empty y300 (Int.tmod x1 4))) ++ x5) ++ (rdOf ByteArray.empty y300 (Int.tmod x1 4))).size + (rdOf ByteArray.empty y304 (Int.tmod x0 6)).size ≤ 9223372036854775807 then (some ((((x6 ++ (rdOf ByteArray.empty y300 (Int.tmod x1 4))) ++ x5) ++ (rdOf ByteArray.empty y300 (Int.tmod x1 4))) ++ (rdOf ByteArray.empty y304 (Int.tmod x0 6)))) else (none)) else (none)) else (none)) else (none))) else (none)) else (none))) else (none)) else (none))) else (if x1 = 199 then (if x6.size + 1 ≤ 9223372036854775807 then (if (x6 ++ (⟨#[32]⟩ : ByteArray)).size + x5.size ≤ 9223372036854775807 then (some ((x6 ++ (⟨#[32]⟩ : ByteArray)) ++ x5)) else (none)) else (none)) else (if x6.size + 1 ≤ 9223372036854775807 then (if (x6 ++ (⟨#[32]⟩ : ByteArray)).size + x5.size ≤ 9223372036854775807 then (if ((x6 ++ (⟨#[32]⟩ : ByteArray)) ++ x5).size + 1 ≤ 9223372036854775807 then (if (((x6 ++ (⟨#[32]⟩ : ByteArray)) ++ x5) ++ (⟨#[32]⟩ : ByteArray)).size + 8 ≤ 9223372036854775807 then (some ((((x6 ++ (⟨#[32]⟩ : ByteArray)) ++ x5) ++ (⟨#[32]⟩ : ByteArray)) ++ (⟨#[72, 84, 84, 80, 47, 49, 46, 49]⟩ : ByteArray))) else (none)) else (none)) else (none)) else (none)))
end
def parallaxseat_Line.f (k : Nat) (a0 : Int) (a1 : Int) : Option (ByteArray) := (some (([(⟨#[47]⟩ : ByteArray), (⟨#[47, 97]⟩ : ByteArray), (⟨#[47, 97, 47, 98, 63, 120, 61, 49]⟩ : ByteArray), (⟨#[47, 97, 47, 46, 46, 47, 98]⟩ : ByteArray), (⟨#[47, 37, 52, 49, 47, 99]⟩ : ByteArray), (⟨#[42]⟩ : ByteArray), (⟨#[104, 116, 116, 112, 58, 47, 47, 104, 46, 111, 114, 103, 47, 113, 63]⟩ : ByteArray), (⟨#[47, 118, 49, 47, 105, 116, 101, 109, 47, 55]⟩ : ByteArray), (⟨#[47, 120, 32, 121]⟩ : ByteArray), (⟨#[47, 113, 1]⟩ : ByteArray), (⟨#[47, 115, 116, 97, 116, 105, 99, 47, 99, 115, 115, 47, 109, 46, 99, 115, 115]⟩ : ByteArray), (⟨#[104, 116, 116, 112, 58, 47, 47, 97]⟩ : ByteArray)] : List ByteArray) : List ByteArray)).bind fun y292 => (if 0 ≤ (Int.tmod a1 12) then (if (Int.tmod a1 12) < (y292.length : Int) then ((some (([(⟨#[71, 69, 84]⟩ : ByteArray), (⟨#[80, 79, 83, 84]⟩ : ByteArray), (⟨#[79, 80, 84, 73, 79, 78, 83]⟩ : ByteArray), (⟨#[72, 69, 65, 68]⟩ : ByteArray), (⟨#[80, 85, 84]⟩ : ByteArray), (⟨#[68, 69, 76, 69, 84, 69]⟩ : ByteArray), (⟨#[71, 40, 84]⟩ : ByteArray), (⟨#[67, 79, 78, 78, 69, 67, 84]⟩ : ByteArray)] : List ByteArray) : List ByteArray)).bind fun y296 => (if 0 ≤ (Int.tmod a0 8) then (if (Int.tmod a0 8) < (y296.length : Int) then (if a0 < 200 then (if (Int.tmod a1 12) > 7 then (parallaxseat_Line.j0 k a0 a1 (rdOf ByteArray.empty y292 (Int.tmod a1 12)) (rdOf ByteArray.empty y296 (Int.tmod a0 8)) ((Int.tmod a1 12) != 10)) else (parallaxseat_Line.j0 k a0 a1 (rdOf ByteArray.empty y292 (Int.tmod a1 12)) (rdOf ByteArray.empty y296 (Int.tmod a0 8)) false)) else (parallaxseat_Line.j0 k a0 a1 (rdOf ByteArray.empty y292 (Int.tmod a1 12)) (rdOf ByteArray.empty y296 (Int.tmod a0 8)) false)) else (none)) else (none))) else (none)) else (none))
theorem parallaxseat_Line.mono_l : ∀ k, (∀ y0 y1 y2 y3 y4, LeO (parallaxseat_Line.j0 k y0 y1 y2 y3 y4) (parallaxseat_Line.j0 (k + 1) y0 y1 y2 y3 y4)) ∧ (∀ y0 y1 y2 y3, LeO (parallaxseat_Line.j1 k y0 y1 y2 y3) (parallaxseat_Line.j1 (k + 1) y0 y1 y2 y3)) ∧ (∀ y0 y1 y2 y3 y4, LeO (parallaxseat_Line.j2 k y0 y1 y2 y3 y4) (parallaxseat_Line.j2 (k + 1) y0 y1 y2 y3 y4)) ∧ (∀ y0 y1 y2 y3, LeO (parallaxseat_Line.j3 k y0 y1 y2 y3) (parallaxseat_Line.j3 (k + 1) y0 y1 y2 y3))
  | 0 => ⟨fun _ _ _ _ _ r h => by simp [parallaxseat_Line.j0] at h, fun _ _ _ _ r h => by simp [parallaxseat_Line.j1] at h, fun _ _ _ _ _ r h => by simp [parallaxseat_Line.j2] at h, fun _ _ _ _ r h => by simp [parallaxseat_Line.j3] at h⟩
  | k + 1 => by
    obtain ⟨ih0, ih1, ih2, ih3⟩ := parallaxseat_Line.mono_l k
    refine ⟨?_, ?_, ?_, ?_⟩
    · intro y0 y1 y2 y3 y4
      unfold parallaxseat_Line.j0
      repeat' first
      | (with_reducible exact ih0 _ _ _ _ _)
      | (with_reducible exact ih1 _ _ _ _)
      | (with_reducible exact ih2 _ _ _ _ _)
      | (with_reducible exact ih3 _ _ _ _)
      | (with_reducible exact LeO.refl _)
      | (with_reducible exact LeO.none _)
      | (with_reducible refine LeO.ite ?_ ?_)
      | (with_reducible refine LeO.bind ?_ (fun _ => ?_))
      | exact ih0 _ _ _ _ _
      | exact ih1 _ _ _ _
      | exact ih2 _ _ _ _ _
      | exact ih3 _ _ _ _
      | exact LeO.none _
      | refine LeO.ite ?_ ?_
      | refine LeO.bind ?_ (fun _ => ?_)
    · intro y0 y1 y2 y3
      unfold parallaxseat_Line.j1
      repeat' first
      | (with_reducible exact ih0 _ _ _ _ _)
      | (with_reducible exact ih1 _ _ _ _)
      | (with_reducible exact ih2 _ _ _ _ _)
      | (with_reducible exact ih3 _ _ _ _)
      | (with_reducible exact LeO.refl _)
      | (with_reducible exact LeO.none _)
      | (with_reducible refine LeO.ite ?_ ?_)
      | (with_reducible refine LeO.bind ?_ (fun _ => ?_))
      | exact ih0 _ _ _ _ _
      | exact ih1 _ _ _ _
      | exact ih2 _ _ _ _ _
      | exact ih3 _ _ _ _
      | exact LeO.none _
      | refine LeO.ite ?_ ?_
      | refine LeO.bind ?_ (fun _ => ?_)
    · intro y0 y1 y2 y3 y4
      unfold parallaxseat_Line.j2
      repeat' first
      | (with_reducible exact ih0 _ _ _ _ _)
      | (with_reducible exact ih1 _ _ _ _)
      | (with_reducible exact ih2 _ _ _ _ _)
      | (with_reducible exact ih3 _ _ _ _)
      | (with_reducible exact LeO.refl _)
      | (with_reducible exact LeO.none _)
      | (with_reducible refine LeO.ite ?_ ?_)
      | (with_reducible refine LeO.bind ?_ (fun _ => ?_))
      | exact ih0 _ _ _ _ _
      | exact ih1 _ _ _ _
      | exact ih2 _ _ _ _ _
      | exact ih3 _ _ _ _
      | exact LeO.none _
      | refine LeO.ite ?_ ?_
      | refine LeO.bind ?_ (fun _ => ?_)
    · intro y0 y1 y2 y3
      unfold parallaxseat_Line.j3
      repeat' first
      | (with_reducible exact ih0 _ _ _ _ _)
      | (with_reducible exact ih1 _ _ _ _)
      | (with_reducible exact ih2 _ _ _ _ _)
      | (with_reducible exact ih3 _ _ _ _)
      | (with_reducible exact LeO.refl _)
      | (with_reducible exact LeO.none _)
      | (with_reducible refine LeO.ite ?_ ?_)
      | (with_reducible refine LeO.bind ?_ (fun _ => ?_))
      | exact ih0 _ _ _ _ _
      | exact ih1 _ _ _ _
      | exact ih2 _ _ _ _ _
      | exact ih3 _ _ _ _
      | exact LeO.none _
      | refine LeO.ite ?_ ?_
      | refine LeO.bind ?_ (fun _ => ?_)
theorem parallaxseat_Line.mono : ∀ a0 a1 k, LeO (parallaxseat_Line.f k a0 a1) (parallaxseat_Line.f (k + 1) a0 a1) := by
  intro a0 a1 k
  obtain ⟨ih0, ih1, ih2, ih3⟩ := parallaxseat_Line.mono_l k
  unfold parallaxseat_Line.f
  repeat' first
      | (with_reducible exact ih0 _ _ _ _ _)
      | (with_reducible exact ih1 _ _ _ _)
      | (with_reducible exact ih2 _ _ _ _ _)
      | (with_reducible exact ih3 _ _ _ _)
      | (with_reducible exact LeO.refl _)
      | (with_reducible exact LeO.none _)
      | (with_reducible refine LeO.ite ?_ ?_)
      | (with_reducible refine LeO.bind ?_ (fun _ => ?_))
      | exact ih0 _ _ _ _ _
      | exact ih1 _ _ _ _
      | exact ih2 _ _ _ _ _
      | exact ih3 _ _ _ _
      | exact LeO.none _
      | refine LeO.ite ?_ ?_
      | refine LeO.bind ?_ (fun _ => ?_)
set_option maxHeartbeats 8000000 in
set_option maxRecDepth 100000 in
theorem parallaxseat_Line.calls (k : Nat) (a0 : Int) (a1 : Int) (r : ByteArray) (w : World) (h : parallaxseat_Line.f k a0 a1 = some r) :
    Calls Tryd.prog 11 #[.int .u8 a0, .int .u8 a1] w fun e w' => e = .returned (.string r) ∧ Below w.heap.size w w' := by
  have HB := Aside0.mk (Below.refl w.heap.size w)
  have H : ((some (([(⟨#[47]⟩ : ByteArray), (⟨#[47, 97]⟩ : ByteArray), (⟨#[47, 97, 47, 98, 63, 120, 61, 49]⟩ : ByteArray), (⟨#[47, 97, 47, 46, 46, 47, 98]⟩ : ByteArray), (⟨#[47, 37, 52, 49, 47, 99]⟩ : ByteArray), (⟨#[42]⟩ : ByteArray), (⟨#[104, 116, 116, 112, 58, 47, 47, 104, 46, 111, 114, 103, 47, 113, 63]⟩ : ByteArray), (⟨#[47, 118, 49, 47, 105, 116, 101, 109, 47, 55]⟩ : ByteArray), (⟨#[47, 120, 32, 121]⟩ : ByteArray), (⟨#[47, 113, 1]⟩ : ByteArray), (⟨#[47, 115, 116, 97, 116, 105, 99, 47, 99, 115, 115, 47, 109, 46, 99, 115, 115]⟩ : ByteArray), (⟨#[104, 116, 116, 112, 58, 47, 47, 97]⟩ : ByteArray)] : List ByteArray) : List ByteArray)).bind fun y292 => (if 0 ≤ (Int.tmod a1 12) then (if (Int.tmod a1 12) < (y292.length : Int) then ((some (([(⟨#[71, 69, 84]⟩ : ByteArray), (⟨#[80, 79, 83, 84]⟩ : ByteArray), (⟨#[79, 80, 84, 73, 79, 78, 83]⟩ : ByteArray), (⟨#[72, 69, 65, 68]⟩ : ByteArray), (⟨#[80, 85, 84]⟩ : ByteArray), (⟨#[68, 69, 76, 69, 84, 69]⟩ : ByteArray), (⟨#[71, 40, 84]⟩ : ByteArray), (⟨#[67, 79, 78, 78, 69, 67, 84]⟩ : ByteArray)] : List ByteArray) : List ByteArray)).bind fun y296 => (if 0 ≤ (Int.tmod a0 8) then (if (Int.tmod a0 8) < (y296.length : Int) then (if a0 < 200 then (if (Int.tmod a1 12) > 7 then (parallaxseat_Line.j0 k a0 a1 (rdOf ByteArray.empty y292 (Int.tmod a1 12)) (rdOf ByteArray.empty y296 (Int.tmod a0 8)) ((Int.tmod a1 12) != 10)) else (parallaxseat_Line.j0 k a0 a1 (rdOf ByteArray.empty y292 (Int.tmod a1 12)) (rdOf ByteArray.empty y296 (Int.tmod a0 8)) false)) else (parallaxseat_Line.j0 k a0 a1 (rdOf ByteArray.empty y292 (Int.tmod a1 12)) (rdOf ByteArray.empty y296 (Int.tmod a0 8)) false)) else (none)) else (none))) else (none)) else (none))) = some r := h
  clear h
  obtain ⟨y292, hy292⟩ : ∃ y_ : List ByteArray, y_ = (([(⟨#[47]⟩ : ByteArray), (⟨#[47, 97]⟩ : ByteArray), (⟨#[47, 97, 47, 98, 63, 120, 61, 49]⟩ : ByteArray), (⟨#[47, 97, 47, 46, 46, 47, 98]⟩ : ByteArray), (⟨#[47, 37, 52, 49, 47, 99]⟩ : ByteArray), (⟨#[42]⟩ : ByteArray), (⟨#[104, 116, 116, 112, 58, 47, 47, 104, 46, 111, 114, 103, 47, 113, 63]⟩ : ByteArray), (⟨#[47, 118, 49, 47, 105, 116, 101, 109, 47, 55]⟩ : ByteArray), (⟨#[47, 120, 32, 121]⟩ : ByteArray), (⟨#[47, 113, 1]⟩ : ByteArray), (⟨#[47, 115, 116, 97, 116, 105, 99, 47, 99, 115, 115, 47, 109, 46, 99, 115, 115]⟩ : ByteArray), (⟨#[104, 116, 116, 112, 58, 47, 47, 97]⟩ : ByteArray)] : List ByteArray)) := ⟨_, rfl⟩
  replace H : (if 0 ≤ (Int.tmod a1 12) then (if (Int.tmod a1 12) < (y292.length : Int) then ((some (([(⟨#[71, 69, 84]⟩ : ByteArray), (⟨#[80, 79, 83, 84]⟩ : ByteArray), (⟨#[79, 80, 84, 73, 79, 78, 83]⟩ : ByteArray), (⟨#[72, 69, 65, 68]⟩ : ByteArray), (⟨#[80, 85, 84]⟩ : ByteArray), (⟨#[68, 69, 76, 69, 84, 69]⟩ : ByteArray), (⟨#[71, 40, 84]⟩ : ByteArray), (⟨#[67, 79, 78, 78, 69, 67, 84]⟩ : ByteArray)] : List ByteArray) : List ByteArray)).bind fun y296 => (if 0 ≤ (Int.tmod a0 8) then (if (Int.tmod a0 8) < (y296.length : Int) then (if a0 < 200 then (if (Int.tmod a1 12) > 7 then (parallaxseat_Line.j0 k a0 a1 (rdOf ByteArray.empty y292 (Int.tmod a1 12)) (rdOf ByteArray.empty y296 (Int.tmod a0 8)) ((Int.tmod a1 12) != 10)) else (parallaxseat_Line.j0 k a0 a1 (rdOf ByteArray.empty y292 (Int.tmod a1 12)) (rdOf ByteArray.empty y296 (Int.tmod a0 8)) false)) else (parallaxseat_Line.j0 k a0 a1 (rdOf ByteArray.empty y292 (Int.tmod a1 12)) (rdOf ByteArray.empty y296 (Int.tmod a0 8)) false)) else (none)) else (none))) else (none)) else (none)) = some r := by first | (rw [hy292]; with_reducible exact H) | (have H2_ := (Option.bind_some _ _).symm.trans H; rw [hy292]; with_reducible exact H2_) | (have H2_ := (Option.bind_some _ _).symm.trans H; with_reducible exact H2_) | with_reducible exact H | (rw [hy292]; exact H) | exact H
  have Ny292 := Aside0.mk hy292
  clear hy292
  obtain ⟨ji3, hji3⟩ : ∃ j_ : Int, (Int.tmod a1 12) = j_ := ⟨_, rfl⟩
  replace H : (if 0 ≤ (ji3) then (if (ji3) < (y292.length : Int) then ((some (([(⟨#[71, 69, 84]⟩ : ByteArray), (⟨#[80, 79, 83, 84]⟩ : ByteArray), (⟨#[79, 80, 84, 73, 79, 78, 83]⟩ : ByteArray), (⟨#[72, 69, 65, 68]⟩ : ByteArray), (⟨#[80, 85, 84]⟩ : ByteArray), (⟨#[68, 69, 76, 69, 84, 69]⟩ : ByteArray), (⟨#[71, 40, 84]⟩ : ByteArray), (⟨#[67, 79, 78, 78, 69, 67, 84]⟩ : ByteArray)] : List ByteArray) : List ByteArray)).bind fun y296 => (if 0 ≤ (Int.tmod a0 8) then (if (Int.tmod a0 8) < (y296.length : Int) then (if a0 < 200 then (if (ji3) > 7 then (parallaxseat_Line.j0 k a0 a1 (rdOf ByteArray.empty y292 (ji3)) (rdOf ByteArray.empty y296 (Int.tmod a0 8)) ((ji3) != 10)) else (parallaxseat_Line.j0 k a0 a1 (rdOf ByteArray.empty y292 (ji3)) (rdOf ByteArray.empty y296 (Int.tmod a0 8)) false)) else (parallaxseat_Line.j0 k a0 a1 (rdOf ByteArray.empty y292 (ji3)) (rdOf ByteArray.empty y296 (Int.tmod a0 8)) false)) else (none)) else (none))) else (none)) else (none)) = some r := by first | (rw [hji3] at H; exact H) | (simp only [hji3] at H ⊢; exact H)
  by_cases c4 : 0 ≤ (ji3)
  · rw [if_pos c4] at H
    have c4b0 : decide (0 ≤ (ji3)) = true := decide_eq_true c4
    clear c4
    by_cases c5 : (ji3) < (y292.length : Int)
    · rw [if_pos c5] at H
      have c5b0 : decide ((ji3) < (y292.length : Int)) = true := decide_eq_true c5
      clear c5
      obtain ⟨y296, hy296⟩ : ∃ y_ : List ByteArray, y_ = (([(⟨#[71, 69, 84]⟩ : ByteArray), (⟨#[80, 79, 83, 84]⟩ : ByteArray), (⟨#[79, 80, 84, 73, 79, 78, 83]⟩ : ByteArray), (⟨#[72, 69, 65, 68]⟩ : ByteArray), (⟨#[80, 85, 84]⟩ : ByteArray), (⟨#[68, 69, 76, 69, 84, 69]⟩ : ByteArray), (⟨#[71, 40, 84]⟩ : ByteArray), (⟨#[67, 79, 78, 78, 69, 67, 84]⟩ : ByteArray)] : List ByteArray)) := ⟨_, rfl⟩
      replace H : (if 0 ≤ (Int.tmod a0 8) then (if (Int.tmod a0 8) < (y296.length : Int) then (if a0 < 200 then (if (ji3) > 7 then (parallaxseat_Line.j0 k a0 a1 (rdOf ByteArray.empty y292 (ji3)) (rdOf ByteArray.empty y296 (Int.tmod a0 8)) ((ji3) != 10)) else (parallaxseat_Line.j0 k a0 a1 (rdOf ByteArray.empty y292 (ji3)) (rdOf ByteArray.empty y296 (Int.tmod a0 8)) false)) else (parallaxseat_Line.j0 k a0 a1 (rdOf ByteArray.empty y292 (ji3)) (rdOf ByteArray.empty y296 (Int.tmod a0 8)) false)) else (none)) else (none)) = some r := by first | (rw [hy296]; with_reducible exact H) | (have H2_ := (Option.bind_some _ _).symm.trans H; rw [hy296]; with_reducible exact H2_) | (have H2_ := (Option.bind_some _ _).symm.trans H; with_reducible exact H2_) | with_reducible exact H | (rw [hy296]; exact H) | exact H
      have Ny296 := Aside0.mk hy296
      clear hy296
      obtain ⟨ji6, hji6⟩ : ∃ j_ : Int, (Int.tmod a0 8) = j_ := ⟨_, rfl⟩
      replace H : (if 0 ≤ (ji6) then (if (ji6) < (y296.length : Int) then (if a0 < 200 then (if (ji3) > 7 then (parallaxseat_Line.j0 k a0 a1 (rdOf ByteArray.empty y292 (ji3)) (rdOf ByteArray.empty y296 (ji6)) ((ji3) != 10)) else (parallaxseat_Line.j0 k a0 a1 (rdOf ByteArray.empty y292 (ji3)) (rdOf ByteArray.empty y296 (ji6)) false)) else (parallaxseat_Line.j0 k a0 a1 (rdOf ByteArray.empty y292 (ji3)) (rdOf ByteArray.empty y296 (ji6)) false)) else (none)) else (none)) = some r := by first | (rw [hji6] at H; exact H) | (simp only [hji6] at H ⊢; exact H)
      by_cases c7 : 0 ≤ (ji6)
      · rw [if_pos c7] at H
        have c7b0 : decide (0 ≤ (ji6)) = true := decide_eq_true c7
        clear c7
        by_cases c8 : (ji6) < (y296.length : Int)
        · rw [if_pos c8] at H
          have c8b0 : decide ((ji6) < (y296.length : Int)) = true := decide_eq_true c8
          clear c8
          have HC9 := Aside0.mk H
          clear H
          go_enter Tryd.func11, Tryd.ntmps11
          go_upto_region 3 with (first | ((with_reducible refine gate_dst (N := 9) rfl ?_); refine Kd.R_lit Kd.string _ 9 ?hg (N := 9) ?hd (xs := ([(⟨#[47]⟩ : ByteArray), (⟨#[47, 97]⟩ : ByteArray), (⟨#[47, 97, 47, 98, 63, 120, 61, 49]⟩ : ByteArray), (⟨#[47, 97, 47, 46, 46, 47, 98]⟩ : ByteArray), (⟨#[47, 37, 52, 49, 47, 99]⟩ : ByteArray), (⟨#[42]⟩ : ByteArray), (⟨#[104, 116, 116, 112, 58, 47, 47, 104, 46, 111, 114, 103, 47, 113, 63]⟩ : ByteArray), (⟨#[47, 118, 49, 47, 105, 116, 101, 109, 47, 55]⟩ : ByteArray), (⟨#[47, 120, 32, 121]⟩ : ByteArray), (⟨#[47, 113, 1]⟩ : ByteArray), (⟨#[47, 115, 116, 97, 116, 105, 99, 47, 99, 115, 115, 47, 109, 46, 99, 115, 115]⟩ : ByteArray), (⟨#[104, 116, 116, 112, 58, 47, 47, 97]⟩ : ByteArray)] : List ByteArray)) (inner := [.string (⟨#[47]⟩ : ByteArray), .string (⟨#[47, 97]⟩ : ByteArray), .string (⟨#[47, 97, 47, 98, 63, 120, 61, 49]⟩ : ByteArray), .string (⟨#[47, 97, 47, 46, 46, 47, 98]⟩ : ByteArray), .string (⟨#[47, 37, 52, 49, 47, 99]⟩ : ByteArray), .string (⟨#[42]⟩ : ByteArray), .string (⟨#[104, 116, 116, 112, 58, 47, 47, 104, 46, 111, 114, 103, 47, 113, 63]⟩ : ByteArray), .string (⟨#[47, 118, 49, 47, 105, 116, 101, 109, 47, 55]⟩ : ByteArray), .string (⟨#[47, 120, 32, 121]⟩ : ByteArray), .string (⟨#[47, 113, 1]⟩ : ByteArray), .string (⟨#[47, 115, 116, 97, 116, 105, 99, 47, 99, 115, 115, 47, 109, 46, 99, 115, 115]⟩ : ByteArray), .string (⟨#[104, 116, 116, 112, 58, 47, 47, 97]⟩ : ByteArray)]) (ok := fun _ => True) (okp := fun _ => True) ?hr ?hp (fun _ hk => hk) trivial (Below.refl _ _) (Nat.le_refl _) (by simp) ?_; (case hd => rfl); (case hg => rfl); (case hr => first | (go_simp; done) | (go_simp; rfl)); (case hp => exact (Reps.one (show Kd.M Kd.string _ _ _ (⟨#[47]⟩ : ByteArray) [.string (⟨#[47]⟩ : ByteArray)] from rfl) (Reps.one (show Kd.M Kd.string _ _ _ (⟨#[47, 97]⟩ : ByteArray) [.string (⟨#[47, 97]⟩ : ByteArray)] from rfl) (Reps.one (show Kd.M Kd.string _ _ _ (⟨#[47, 97, 47, 98, 63, 120, 61, 49]⟩ : ByteArray) [.string (⟨#[47, 97, 47, 98, 63, 120, 61, 49]⟩ : ByteArray)] from rfl) (Reps.one (show Kd.M Kd.string _ _ _ (⟨#[47, 97, 47, 46, 46, 47, 98]⟩ : ByteArray) [.string (⟨#[47, 97, 47, 46, 46, 47, 98]⟩ : ByteArray)] from rfl) (Reps.one (show Kd.M Kd.string _ _ _ (⟨#[47, 37, 52, 49, 47, 99]⟩ : ByteArray) [.string (⟨#[47, 37, 52, 49, 47, 99]⟩ : ByteArray)] from rfl) (Reps.one (show Kd.M Kd.string _ _ _ (⟨#[42]⟩ : ByteArray) [.string (⟨#[42]⟩ : ByteArray)] from rfl) (Reps.one (show Kd.M Kd.string _ _ _ (⟨#[104, 116, 116, 112, 58, 47, 47, 104, 46, 111, 114, 103, 47, 113, 63]⟩ : ByteArray) [.string (⟨#[104, 116, 116, 112, 58, 47, 47, 104, 46, 111, 114, 103, 47, 113, 63]⟩ : ByteArray)] from rfl) (Reps.one (show Kd.M Kd.string _ _ _ (⟨#[47, 118, 49, 47, 105, 116, 101, 109, 47, 55]⟩ : ByteArray) [.string (⟨#[47, 118, 49, 47, 105, 116, 101, 109, 47, 55]⟩ : ByteArray)] from rfl) (Reps.one (show Kd.M Kd.string _ _ _ (⟨#[47, 120, 32, 121]⟩ : ByteArray) [.string (⟨#[47, 120, 32, 121]⟩ : ByteArray)] from rfl) (Reps.one (show Kd.M Kd.string _ _ _ (⟨#[47, 113, 1]⟩ : ByteArray) [.string (⟨#[47, 113, 1]⟩ : ByteArray)] from rfl) (Reps.one (show Kd.M Kd.string _ _ _ (⟨#[47, 115, 116, 97, 116, 105, 99, 47, 99, 115, 115, 47, 109, 46, 99, 115, 115]⟩ : ByteArray) [.string (⟨#[47, 115, 116, 97, 116, 105, 99, 47, 99, 115, 115, 47, 109, 46, 99, 115, 115]⟩ : ByteArray)] from rfl) (Reps.one (show Kd.M Kd.string _ _ _ (⟨#[104, 116, 116, 112, 58, 47, 47, 97]⟩ : ByteArray) [.string (⟨#[104, 116, 116, 112, 58, 47, 47, 97]⟩ : ByteArray)] from rfl) (Reps.none _ _)))))))))))))); intro v293 w10 ho11 hb hg_ hnew_; clear hg_ hnew_; (first | rw [← Ny292.out] at ho11 | (simp only [Int.reduceToNat] at ho11; rw [← Ny292.out] at ho11)); have n0_ := Aside0.mk (Kd.R_lower ho11 (below_size (by repeat (first | (with_reducible first | exact HB.out | apply below_alloc | apply pw_below_drewN | apply below_drew1) | exact HB.out)))); have n1_ := Aside0.mk (below_step (by repeat (first | (with_reducible first | exact HB.out | apply below_alloc | apply pw_below_drewN | apply below_drew1) | exact HB.out)) hb); clear HB; have HO294 := n0_; have HB := n1_; clear n0_ n1_; clear hb ho11; obtain ⟨Ao12, co12, eo12⟩ := Kd.R_slice HO294.out; subst eo12; have p295 : 0 ≤ ((ji3) : Int) := of_decide_eq_true (by first | (with_reducible assumption) | assumption); have q295 : (ji3) < (y292.length : Int) := of_decide_eq_true (by first | (with_reducible assumption) | assumption); obtain ⟨ad295, e295, hx295_0⟩ := Kd.at_string (Kd.R_reads' HO294.out).2.2 (ji3) p295 q295; cases e295; replace p295 := eq_true p295; replace q295 := eq_true q295) | ((with_reducible refine gate_dst (N := 14) rfl ?_); refine Kd.R_lit Kd.string _ 9 ?hg (N := 14) ?hd (xs := ([(⟨#[71, 69, 84]⟩ : ByteArray), (⟨#[80, 79, 83, 84]⟩ : ByteArray), (⟨#[79, 80, 84, 73, 79, 78, 83]⟩ : ByteArray), (⟨#[72, 69, 65, 68]⟩ : ByteArray), (⟨#[80, 85, 84]⟩ : ByteArray), (⟨#[68, 69, 76, 69, 84, 69]⟩ : ByteArray), (⟨#[71, 40, 84]⟩ : ByteArray), (⟨#[67, 79, 78, 78, 69, 67, 84]⟩ : ByteArray)] : List ByteArray)) (inner := [.string (⟨#[71, 69, 84]⟩ : ByteArray), .string (⟨#[80, 79, 83, 84]⟩ : ByteArray), .string (⟨#[79, 80, 84, 73, 79, 78, 83]⟩ : ByteArray), .string (⟨#[72, 69, 65, 68]⟩ : ByteArray), .string (⟨#[80, 85, 84]⟩ : ByteArray), .string (⟨#[68, 69, 76, 69, 84, 69]⟩ : ByteArray), .string (⟨#[71, 40, 84]⟩ : ByteArray), .string (⟨#[67, 79, 78, 78, 69, 67, 84]⟩ : ByteArray)]) (ok := fun _ => True) (okp := fun _ => True) ?hr ?hp (fun _ hk => hk) trivial (Below.refl _ _) (Nat.le_refl _) (by simp) ?_; (case hd => rfl); (case hg => rfl); (case hr => first | (go_simp; done) | (go_simp; rfl)); (case hp => exact (Reps.one (show Kd.M Kd.string _ _ _ (⟨#[71, 69, 84]⟩ : ByteArray) [.string (⟨#[71, 69, 84]⟩ : ByteArray)] from rfl) (Reps.one (show Kd.M Kd.string _ _ _ (⟨#[80, 79, 83, 84]⟩ : ByteArray) [.string (⟨#[80, 79, 83, 84]⟩ : ByteArray)] from rfl) (Reps.one (show Kd.M Kd.string _ _ _ (⟨#[79, 80, 84, 73, 79, 78, 83]⟩ : ByteArray) [.string (⟨#[79, 80, 84, 73, 79, 78, 83]⟩ : ByteArray)] from rfl) (Reps.one (show Kd.M Kd.string _ _ _ (⟨#[72, 69, 65, 68]⟩ : ByteArray) [.string (⟨#[72, 69, 65, 68]⟩ : ByteArray)] from rfl) (Reps.one (show Kd.M Kd.string _ _ _ (⟨#[80, 85, 84]⟩ : ByteArray) [.string (⟨#[80, 85, 84]⟩ : ByteArray)] from rfl) (Reps.one (show Kd.M Kd.string _ _ _ (⟨#[68, 69, 76, 69, 84, 69]⟩ : ByteArray) [.string (⟨#[68, 69, 76, 69, 84, 69]⟩ : ByteArray)] from rfl) (Reps.one (show Kd.M Kd.string _ _ _ (⟨#[71, 40, 84]⟩ : ByteArray) [.string (⟨#[71, 40, 84]⟩ : ByteArray)] from rfl) (Reps.one (show Kd.M Kd.string _ _ _ (⟨#[67, 79, 78, 78, 69, 67, 84]⟩ : ByteArray) [.string (⟨#[67, 79, 78, 78, 69, 67, 84]⟩ : ByteArray)] from rfl) (Reps.none _ _)))))))))); intro v297 w13 ho14 hb hg_ hnew_; clear hg_ hnew_; (first | rw [← Ny296.out] at ho14 | (simp only [Int.reduceToNat] at ho14; rw [← Ny296.out] at ho14)); have n0_ := Aside0.mk (Kd.R_elder' (by (with_reducible repeat (first | apply Kd.R_alloc | apply Kd.R_drewN | apply Kd.R_drew)); exact HO294.out) (Kd.R_base ho14) hb); have n1_ := Aside0.mk (Kd.R_lower (Kd.R_new' ho14 (Kd.R_lt (by (with_reducible repeat (first | apply Kd.R_alloc | apply Kd.R_drewN | apply Kd.R_drew)); exact HO294.out))) (below_size (by repeat (first | (with_reducible first | exact HB.out | apply below_alloc | apply pw_below_drewN | apply below_drew1) | exact HB.out)))); have n2_ := Aside0.mk (below_step (by repeat (first | (with_reducible first | exact HB.out | apply below_alloc | apply pw_below_drewN | apply below_drew1) | exact HB.out)) hb); clear HO294; clear HB; have HO294 := n0_; have HO298 := n1_; have HB := n2_; clear n0_ n1_ n2_; clear hb ho14; obtain ⟨Ao15, co15, eo15⟩ := Kd.R_slice HO298.out; subst eo15; have p299 : 0 ≤ ((ji6) : Int) := of_decide_eq_true (by first | (with_reducible assumption) | assumption); have q299 : (ji6) < (y296.length : Int) := of_decide_eq_true (by first | (with_reducible assumption) | assumption); obtain ⟨ad299, e299, hx299_0⟩ := Kd.at_string (Kd.R_reads' HO298.out).2.2 (ji6) p299 q299; cases e299; replace p299 := eq_true p299; replace q299 := eq_true q299))
          (try simp only [Act.put, List.setIfInBounds_toArray, List.set_cons_zero, List.set_cons_succ])
          go_cut [30] (fun v30 wc => ∃ (kq : Nat) (x30_8 : Bool), v30 = .bool x30_8 ∧ Aside0 (parallaxseat_Line.j0 kq a0 a1 (rdOf ByteArray.empty y292 (ji3)) (rdOf ByteArray.empty y296 (ji6)) x30_8 = some r) ∧ Aside0 (kq ≤ k) ∧ Aside0 (Below w.heap.size w wc))
          case first =>
            have H := HC9.out
            clear HC9
            by_cases c16 : a0 < 200
            · rw [if_pos c16] at H
              have c16b0 : decide (a0 < 200) = true := decide_eq_true c16
              clear c16
              (first | rw [c16b0] | (simp only [i64_w, i32_w]; rw [c16b0]) | skip)
              by_cases c17 : (ji3) > 7
              · rw [if_pos c17] at H
                have c17b0 : decide (7 < (ji3)) = true := decide_eq_true c17
                clear c17
                have H' := Aside0.mk H
                clear H
                go_wp2
                go_meet
                case rel => exact ⟨_, (((ji3) != 10)), (by first | rfl | (simp; done) | (simp only [← hji3] <;> (first | rfl | simp)) | (simp [*]; done)), H', ⟨by first | omega | exact Nat.le_refl _⟩, ⟨by repeat (first | (with_reducible first | exact HB.out | apply below_alloc | apply pw_below_drewN | apply below_drew1) | exact HB.out)⟩⟩
              · rw [if_neg c17] at H
                have c17b0 : decide (7 < (ji3)) = false := decide_eq_false c17
                clear c17
                have H' := Aside0.mk H
                clear H
                go_wp2
                go_meet
                case rel => exact ⟨_, (false), (by first | rfl | (simp; done) | (simp [*]; done)), H', ⟨by first | omega | exact Nat.le_refl _⟩, ⟨by repeat (first | (with_reducible first | exact HB.out | apply below_alloc | apply pw_below_drewN | apply below_drew1) | exact HB.out)⟩⟩
            · rw [if_neg c16] at H
              have c16b0 : decide (a0 < 200) = false := decide_eq_false c16
              clear c16
              (first | rw [c16b0] | (simp only [i64_w, i32_w]; rw [c16b0]) | skip)
              have H' := Aside0.mk H
              clear H
              go_wp2
              go_meet
              case rel => exact ⟨_, (false), (by first | rfl | (simp; done) | (simp [*]; done)), H', ⟨by first | omega | exact Nat.le_refl _⟩, ⟨by repeat (first | (with_reducible first | exact HB.out | apply below_alloc | apply pw_below_drewN | apply below_drew1) | exact HB.out)⟩⟩
          case rest =>
            clear HC9
            try clear c1
            try clear p2
            try clear q2
            try clear hx2
            try clear c4
            try clear c4b0
            try clear c5
            try clear c5b0
            try clear c7
            try clear c7b0
            try clear c8
            try clear c8b0
            try clear c11
            try clear c16
            try clear c16b0
            try clear c17
            try clear c17b0
            try clear hx295_0
            try clear hx299_0
            try clear p295
            try clear p299
            try clear q295
            try clear q299
            obtain ⟨kq, x30_8, rfl, HA, HJ8, HB⟩ := hcut
            cases kq with
            | zero => exact absurd HA.out (by simp [parallaxseat_Line.j0])
            | succ kj8 =>
              have H := HA.out
              clear HA
              simp only [parallaxseat_Line.j0] at H
              have HC18 := Aside0.mk H
              clear H
              go_upto_if 30 with (fail)
              go_cut [5] (fun v5 wc => ∃ (kq : Nat) (x5_17 : ByteArray), v5 = .string x5_17 ∧ Aside0 (parallaxseat_Line.j1 kq a0 a1 x5_17 (rdOf ByteArray.empty y296 (ji6)) = some r) ∧ Aside0 (kq ≤ kj8) ∧ Aside0 (Below w.heap.size w wc))
              case first =>
                have H := HC18.out
                clear HC18
                by_cases c19 : x30_8 = true
                · subst c19
                  have H1 : (parallaxseat_Line.j1 kj8 a0 a1 (⟨#[47, 97]⟩ : ByteArray) (rdOf ByteArray.empty y296 (ji6))) = some r := by rw [if_pos rfl] at H; exact H
                  clear H
                  have H := H1
                  clear H1
                  have H' := Aside0.mk H
                  clear H
                  go_wp2
                  go_meet
                  case rel => exact ⟨_, ((⟨#[47, 97]⟩ : ByteArray)), (by first | rfl | (simp; done) | (simp [*]; done)), H', ⟨by have := HJ8.out; first | omega | exact Nat.le_refl _⟩, ⟨by repeat (first | (with_reducible first | exact HB.out | apply below_alloc | apply pw_below_drewN | apply below_drew1) | exact HB.out)⟩⟩
                · replace c19 := Bool.eq_false_iff.mpr c19
                  subst c19
                  have H1 : (parallaxseat_Line.j1 kj8 a0 a1 (rdOf ByteArray.empty y292 (ji3)) (rdOf ByteArray.empty y296 (ji6))) = some r := by rw [if_neg (show ¬ (false = true) by decide)] at H; exact H
                  clear H
                  have H := H1
                  clear H1
                  have H' := Aside0.mk H
                  clear H
                  go_wp2
                  go_meet
                  case rel => exact ⟨_, ((rdOf ByteArray.empty y292 (ji3))), (by first | rfl | (simp; done) | (simp only [← hji3] <;> (first | rfl | simp)) | (simp [*]; done)), H', ⟨by have := HJ8.out; first | omega | exact Nat.le_refl _⟩, ⟨by repeat (first | (with_reducible first | exact HB.out | apply below_alloc | apply pw_below_drewN | apply below_drew1) | exact HB.out)⟩⟩
              case rest =>
                clear HC18
                try clear c1
                try clear p2
                try clear q2
                try clear hx2
                try clear c4
                try clear c4b0
                try clear c5
                try clear c5b0
                try clear c7
                try clear c7b0
                try clear c8
                try clear c8b0
                try clear c11
                try clear c16
                try clear c16b0
                try clear c17
                try clear c17b0
                try clear c19
                try clear hx295_0
                try clear hx299_0
                try clear p2
                try clear p295
                try clear p299
                try clear q2
                try clear q295
                try clear q299
                obtain ⟨kq, x5_17, rfl, HA, HJ17, HB⟩ := hcut
                cases kq with
                | zero => exact absurd HA.out (by simp [parallaxseat_Line.j1])
                | succ kj17 =>
                  have H := HA.out
                  clear HA
                  simp only [parallaxseat_Line.j1] at H
                  have HC20 := Aside0.mk H
                  clear H
                  go_upto_region 5 with (fail)
                  go_cut [42] (fun v42 wc => ∃ (kq : Nat) (x42_19 : Bool), v42 = .bool x42_19 ∧ Aside0 (parallaxseat_Line.j2 kq a0 a1 x5_17 (rdOf ByteArray.empty y296 (ji6)) x42_19 = some r) ∧ Aside0 (kq ≤ kj17) ∧ Aside0 (Below w.heap.size w wc))
                  case first =>
                    have H := HC20.out
                    clear HC20
                    by_cases c21 : a0 < 200
                    · rw [if_pos c21] at H
                      have c21b0 : decide (a0 < 200) = true := decide_eq_true c21
                      clear c21
                      (first | rw [c21b0] | (simp only [i64_w, i32_w]; rw [c21b0]) | skip)
                      by_cases c22 : (Int.tmod a0 8) > 5
                      · rw [if_pos c22] at H
                        have c22b0 : decide (5 < (Int.tmod a0 8)) = true := decide_eq_true c22
                        (try rw [hji6] at c22b0)
                        clear c22
                        have H' := Aside0.mk H
                        clear H
                        go_wp2
                        go_meet
                        case rel => exact ⟨_, (true), (by first | rfl | (simp; done) | (simp [*]; done)), H', ⟨by have := HJ8.out; have := HJ17.out; first | omega | exact Nat.le_refl _⟩, ⟨by repeat (first | (with_reducible first | exact HB.out | apply below_alloc | apply pw_below_drewN | apply below_drew1) | exact HB.out)⟩⟩
                      · rw [if_neg c22] at H
                        have c22b0 : decide (5 < (Int.tmod a0 8)) = false := decide_eq_false c22
                        (try rw [hji6] at c22b0)
                        clear c22
                        have H' := Aside0.mk H
                        clear H
                        go_wp2
                        go_meet
                        case rel => exact ⟨_, (((Int.tmod a1 12) == 5)), (by first | rfl | (simp; done) | (simp [*]; done)), H', ⟨by have := HJ8.out; have := HJ17.out; first | omega | exact Nat.le_refl _⟩, ⟨by repeat (first | (with_reducible first | exact HB.out | apply below_alloc | apply pw_below_drewN | apply below_drew1) | exact HB.out)⟩⟩
                    · rw [if_neg c21] at H
                      have c21b0 : decide (a0 < 200) = false := decide_eq_false c21
                      clear c21
                      (first | rw [c21b0] | (simp only [i64_w, i32_w]; rw [c21b0]) | skip)
                      have H' := Aside0.mk H
                      clear H
                      go_wp2
                      go_meet
                      case rel => exact ⟨_, (false), (by first | rfl | (simp; done) | (simp [*]; done)), H', ⟨by have := HJ8.out; have := HJ17.out; first | omega | exact Nat.le_refl _⟩, ⟨by repeat (first | (with_reducible first | exact HB.out | apply below_alloc | apply pw_below_drewN | apply below_drew1) | exact HB.out)⟩⟩
                  case rest =>
                    clear HC20
                    try clear c1
                    try clear c2
                    try clear p2
                    try clear q2
                    try clear hx2
                    try clear c4
                    try clear c4b0
                    try clear c5
                    try clear c5b0
                    try clear c7
                    try clear c7b0
                    try clear c8
                    try clear c8b0
                    try clear c11
                    try clear c16
                    try clear c16b0
                    try clear c17
                    try clear c17b0
                    try clear c19
                    try clear c21
                    try clear c21b0
                    try clear c22
                    try clear c22b0
                    try clear hx295_0
                    try clear hx299_0
                    try clear p2
                    try clear p295
                    try clear p299
                    try clear q2
                    try clear q295
                    try clear q299
                    obtain ⟨kq, x42_19, rfl, HA, HJ19, HB⟩ := hcut
                    cases kq with
                    | zero => exact absurd HA.out (by simp [parallaxseat_Line.j2])
                    | succ kj19 =>
                      have H := HA.out
                      clear HA
                      simp only [parallaxseat_Line.j2] at H
                      have HC23 := Aside0.mk H
                      clear H
                      go_upto_if 42 with (fail)
                      go_cut [5, 6] (fun v5 v6 wc => ∃ (kq : Nat) (x5_22 : ByteArray) (x6_22 : ByteArray), v5 = .string x5_22 ∧ v6 = .string x6_22 ∧ Aside0 (parallaxseat_Line.j3 kq a0 a1 x5_22 x6_22 = some r) ∧ Aside0 (kq ≤ kj19) ∧ Aside0 (Below w.heap.size w wc))
                      case first =>
                        have H := HC23.out
                        clear HC23
                        by_cases c24 : x42_19 = true
                        · subst c24
                          have H1 : (parallaxseat_Line.j3 kj19 a0 a1 (⟨#[47, 97]⟩ : ByteArray) (⟨#[71, 69, 84]⟩ : ByteArray)) = some r := by rw [if_pos rfl] at H; exact H
                          clear H
                          have H := H1
                          clear H1
                          have H' := Aside0.mk H
                          clear H
                          go_wp2
                          go_meet
                          case rel => exact ⟨_, ((⟨#[47, 97]⟩ : ByteArray)), ((⟨#[71, 69, 84]⟩ : ByteArray)), (by first | rfl | (simp; done) | (simp [*]; done)), (by first | rfl | (simp; done) | (simp [*]; done)), H', ⟨by have := HJ8.out; have := HJ17.out; have := HJ19.out; first | omega | exact Nat.le_refl _⟩, ⟨by repeat (first | (with_reducible first | exact HB.out | apply below_alloc | apply pw_below_drewN | apply below_drew1) | exact HB.out)⟩⟩
                        · replace c24 := Bool.eq_false_iff.mpr c24
                          subst c24
                          have H1 : (parallaxseat_Line.j3 kj19 a0 a1 x5_17 (rdOf ByteArray.empty y296 (ji6))) = some r := by rw [if_neg (show ¬ (false = true) by decide)] at H; exact H
                          clear H
                          have H := H1
                          clear H1
                          have H' := Aside0.mk H
                          clear H
                          go_wp2
                          go_meet
                          case rel => exact ⟨_, (x5_17), ((rdOf ByteArray.empty y296 (ji6))), (by first | rfl | (simp; done) | (simp [*]; done)), (by first | rfl | (simp; done) | (simp only [← hji6] <;> (first | rfl | simp)) | (simp [*]; done)), H', ⟨by have := HJ8.out; have := HJ17.out; have := HJ19.out; first | omega | exact Nat.le_refl _⟩, ⟨by repeat (first | (with_reducible first | exact HB.out | apply below_alloc | apply pw_below_drewN | apply below_drew1) | exact HB.out)⟩⟩
                      case rest =>
                        clear HC23
                        try clear c1
                        try clear c2
                        try clear p2
                        try clear q2
                        try clear hx2
                        try clear c4
                        try clear c4b0
                        try clear c5
                        try clear c5b0
                        try clear c7
                        try clear c7b0
                        try clear c8
                        try clear c8b0
                        try clear c11
                        try clear c16
                        try clear c16b0
                        try clear c17
                        try clear c17b0
                        try clear c19
                        try clear c21
                        try clear c21b0
                        try clear c22
                        try clear c22b0
                        try clear c24
                        try clear hx295_0
                        try clear hx299_0
                        try clear p2
                        try clear p295
                        try clear p299
                        try clear q2
                        try clear q295
                        try clear q299
                        obtain ⟨kq, x5_22, x6_22, rfl, rfl, HA, HJ22, HB⟩ := hcut
                        cases kq with
                        | zero => exact absurd HA.out (by simp [parallaxseat_Line.j3])
                        | succ kj22 =>
                          have H := HA.out
                          clear HA
                          simp only [parallaxseat_Line.j3] at H
                          by_cases c25 : a1 > 200
                          · rw [if_pos c25] at H
                            have c25b0 : decide (200 < a1) = true := decide_eq_true c25
                            clear c25
                            obtain ⟨y300, hy300⟩ : ∃ y_ : List ByteArray, y_ = (([(⟨#[32]⟩ : ByteArray), (⟨#[32, 32]⟩ : ByteArray), (⟨#[9]⟩ : ByteArray), (⟨#[32, 9, 32]⟩ : ByteArray)] : List ByteArray)) := ⟨_, rfl⟩
                            replace H : (if 0 ≤ (Int.tmod a1 4) then (if (Int.tmod a1 4) < (y300.length : Int) then ((some (([(⟨#[72, 84, 84, 80, 47, 49, 46, 49]⟩ : ByteArray), (⟨#[72, 84, 84, 80, 47, 49, 46, 48]⟩ : ByteArray), (⟨#[72, 84, 84, 80, 47, 49, 46, 55]⟩ : ByteArray), (⟨#[104, 116, 116, 112, 47, 49, 46, 49]⟩ : ByteArray), (⟨#[72, 84, 84, 80, 47, 50, 46, 48]⟩ : ByteArray), (⟨#[72, 84, 84, 80, 47, 49, 46, 49]⟩ : ByteArray)] : List ByteArray) : List ByteArray)).bind fun y304 => (if 0 ≤ (Int.tmod a0 6) then (if (Int.tmod a0 6) < (y304.length : Int) then (if a1 = 199 then (if x6_22.size + 1 ≤ 9223372036854775807 then (if (x6_22 ++ (⟨#[32]⟩ : ByteArray)).size + x5_22.size ≤ 9223372036854775807 then (some ((x6_22 ++ (⟨#[32]⟩ : ByteArray)) ++ x5_22)) else (none)) else (none)) else (if x6_22.size + (rdOf ByteArray.empty y300 (Int.tmod a1 4)).size ≤ 9223372036854775807 then (if (x6_22 ++ (rdOf ByteArray.empty y300 (Int.tmod a1 4))).size + x5_22.size ≤ 9223372036854775807 then (if ((x6_22 ++ (rdOf ByteArray.empty y300 (Int.tmod a1 4))) ++ x5_22).size + (rdOf ByteArray.empty y300 (Int.tmod a1 4)).size ≤ 9223372036854775807 then (if (((x6_22 ++ (rdOf ByteArray.empty y300 (Int.tmod a1 4))) ++ x5_22) ++ (rdOf ByteArray.empty y300 (Int.tmod a1 4))).size + (rdOf ByteArray.empty y304 (Int.tmod a0 6)).size ≤ 9223372036854775807 then (some ((((x6_22 ++ (rdOf ByteArray.empty y300 (Int.tmod a1 4))) ++ x5_22) ++ (rdOf ByteArray.empty y300 (Int.tmod a1 4))) ++ (rdOf ByteArray.empty y304 (Int.tmod a0 6)))) else (none)) else (none)) else (none)) else (none))) else (none)) else (none))) else (none)) else (none)) = some r := by first | (rw [hy300]; with_reducible exact H) | (have H2_ := (Option.bind_some _ _).symm.trans H; rw [hy300]; with_reducible exact H2_) | (have H2_ := (Option.bind_some _ _).symm.trans H; with_reducible exact H2_) | with_reducible exact H | (rw [hy300]; exact H) | exact H
                            have Ny300 := Aside0.mk hy300
                            clear hy300
                            obtain ⟨ji26, hji26⟩ : ∃ j_ : Int, (Int.tmod a1 4) = j_ := ⟨_, rfl⟩
                            replace H : (if 0 ≤ (ji26) then (if (ji26) < (y300.length : Int) then ((some (([(⟨#[72, 84, 84, 80, 47, 49, 46, 49]⟩ : ByteArray), (⟨#[72, 84, 84, 80, 47, 49, 46, 48]⟩ : ByteArray), (⟨#[72, 84, 84, 80, 47, 49, 46, 55]⟩ : ByteArray), (⟨#[104, 116, 116, 112, 47, 49, 46, 49]⟩ : ByteArray), (⟨#[72, 84, 84, 80, 47, 50, 46, 48]⟩ : ByteArray), (⟨#[72, 84, 84, 80, 47, 49, 46, 49]⟩ : ByteArray)] : List ByteArray) : List ByteArray)).bind fun y304 => (if 0 ≤ (Int.tmod a0 6) then (if (Int.tmod a0 6) < (y304.length : Int) then (if a1 = 199 then (if x6_22.size + 1 ≤ 9223372036854775807 then (if (x6_22 ++ (⟨#[32]⟩ : ByteArray)).size + x5_22.size ≤ 9223372036854775807 then (some ((x6_22 ++ (⟨#[32]⟩ : ByteArray)) ++ x5_22)) else (none)) else (none)) else (if x6_22.size + (rdOf ByteArray.empty y300 (ji26)).size ≤ 9223372036854775807 then (if (x6_22 ++ (rdOf ByteArray.empty y300 (ji26))).size + x5_22.size ≤ 9223372036854775807 then (if ((x6_22 ++ (rdOf ByteArray.empty y300 (ji26))) ++ x5_22).size + (rdOf ByteArray.empty y300 (ji26)).size ≤ 9223372036854775807 then (if (((x6_22 ++ (rdOf ByteArray.empty y300 (ji26))) ++ x5_22) ++ (rdOf ByteArray.empty y300 (ji26))).size + (rdOf ByteArray.empty y304 (Int.tmod a0 6)).size ≤ 9223372036854775807 then (some ((((x6_22 ++ (rdOf ByteArray.empty y300 (ji26))) ++ x5_22) ++ (rdOf ByteArray.empty y300 (ji26))) ++ (rdOf ByteArray.empty y304 (Int.tmod a0 6)))) else (none)) else (none)) else (none)) else (none))) else (none)) else (none))) else (none)) else (none)) = some r := by first | (rw [hji26] at H; exact H) | (simp only [hji26] at H ⊢; exact H)
                            by_cases c27 : 0 ≤ (ji26)
                            · rw [if_pos c27] at H
                              have c27b0 : decide (0 ≤ (ji26)) = true := decide_eq_true c27
                              clear c27
                              by_cases c28 : (ji26) < (y300.length : Int)
                              · rw [if_pos c28] at H
                                have c28b0 : decide ((ji26) < (y300.length : Int)) = true := decide_eq_true c28
                                clear c28
                                obtain ⟨y304, hy304⟩ : ∃ y_ : List ByteArray, y_ = (([(⟨#[72, 84, 84, 80, 47, 49, 46, 49]⟩ : ByteArray), (⟨#[72, 84, 84, 80, 47, 49, 46, 48]⟩ : ByteArray), (⟨#[72, 84, 84, 80, 47, 49, 46, 55]⟩ : ByteArray), (⟨#[104, 116, 116, 112, 47, 49, 46, 49]⟩ : ByteArray), (⟨#[72, 84, 84, 80, 47, 50, 46, 48]⟩ : ByteArray), (⟨#[72, 84, 84, 80, 47, 49, 46, 49]⟩ : ByteArray)] : List ByteArray)) := ⟨_, rfl⟩
                                replace H : (if 0 ≤ (Int.tmod a0 6) then (if (Int.tmod a0 6) < (y304.length : Int) then (if a1 = 199 then (if x6_22.size + 1 ≤ 9223372036854775807 then (if (x6_22 ++ (⟨#[32]⟩ : ByteArray)).size + x5_22.size ≤ 9223372036854775807 then (some ((x6_22 ++ (⟨#[32]⟩ : ByteArray)) ++ x5_22)) else (none)) else (none)) else (if x6_22.size + (rdOf ByteArray.empty y300 (ji26)).size ≤ 9223372036854775807 then (if (x6_22 ++ (rdOf ByteArray.empty y300 (ji26))).size + x5_22.size ≤ 9223372036854775807 then (if ((x6_22 ++ (rdOf ByteArray.empty y300 (ji26))) ++ x5_22).size + (rdOf ByteArray.empty y300 (ji26)).size ≤ 9223372036854775807 then (if (((x6_22 ++ (rdOf ByteArray.empty y300 (ji26))) ++ x5_22) ++ (rdOf ByteArray.empty y300 (ji26))).size + (rdOf ByteArray.empty y304 (Int.tmod a0 6)).size ≤ 9223372036854775807 then (some ((((x6_22 ++ (rdOf ByteArray.empty y300 (ji26))) ++ x5_22) ++ (rdOf ByteArray.empty y300 (ji26))) ++ (rdOf ByteArray.empty y304 (Int.tmod a0 6)))) else (none)) else (none)) else (none)) else (none))) else (none)) else (none)) = some r := by first | (rw [hy304]; with_reducible exact H) | (have H2_ := (Option.bind_some _ _).symm.trans H; rw [hy304]; with_reducible exact H2_) | (have H2_ := (Option.bind_some _ _).symm.trans H; with_reducible exact H2_) | with_reducible exact H | (rw [hy304]; exact H) | exact H
                                have Ny304 := Aside0.mk hy304
                                clear hy304
                                obtain ⟨ji29, hji29⟩ : ∃ j_ : Int, (Int.tmod a0 6) = j_ := ⟨_, rfl⟩
                                replace H : (if 0 ≤ (ji29) then (if (ji29) < (y304.length : Int) then (if a1 = 199 then (if x6_22.size + 1 ≤ 9223372036854775807 then (if (x6_22 ++ (⟨#[32]⟩ : ByteArray)).size + x5_22.size ≤ 9223372036854775807 then (some ((x6_22 ++ (⟨#[32]⟩ : ByteArray)) ++ x5_22)) else (none)) else (none)) else (if x6_22.size + (rdOf ByteArray.empty y300 (ji26)).size ≤ 9223372036854775807 then (if (x6_22 ++ (rdOf ByteArray.empty y300 (ji26))).size + x5_22.size ≤ 9223372036854775807 then (if ((x6_22 ++ (rdOf ByteArray.empty y300 (ji26))) ++ x5_22).size + (rdOf ByteArray.empty y300 (ji26)).size ≤ 9223372036854775807 then (if (((x6_22 ++ (rdOf ByteArray.empty y300 (ji26))) ++ x5_22) ++ (rdOf ByteArray.empty y300 (ji26))).size + (rdOf ByteArray.empty y304 (ji29)).size ≤ 9223372036854775807 then (some ((((x6_22 ++ (rdOf ByteArray.empty y300 (ji26))) ++ x5_22) ++ (rdOf ByteArray.empty y300 (ji26))) ++ (rdOf ByteArray.empty y304 (ji29)))) else (none)) else (none)) else (none)) else (none))) else (none)) else (none)) = some r := by first | (rw [hji29] at H; exact H) | (simp only [hji29] at H ⊢; exact H)
                                by_cases c30 : 0 ≤ (ji29)
                                · rw [if_pos c30] at H
                                  have c30b0 : decide (0 ≤ (ji29)) = true := decide_eq_true c30
                                  clear c30
                                  by_cases c31 : (ji29) < (y304.length : Int)
                                  · rw [if_pos c31] at H
                                    have c31b0 : decide ((ji29) < (y304.length : Int)) = true := decide_eq_true c31
                                    clear c31
                                    by_cases c32 : a1 = 199
                                    · rw [if_pos c32] at H
                                      have c32b0 : (a1 == 199) = true := beq_iff_eq.mpr c32
                                      have c32b1 : (a1 != 199) = false := bne_eq_false_iff_eq.mpr c32
                                      clear c32
                                      by_cases c33 : x6_22.size + 1 ≤ 9223372036854775807
                                      · rw [if_pos c33] at H
                                        have c33b0 := eq_true c33
                                        have c33b1 : decide (x6_22.size + 1 ≤ 9223372036854775807) = true := decide_eq_true c33
                                        try have c33b2 : (9223372036854775807 < x6_22.size + 1) = False := eq_false (Nat.not_lt.2 c33)
                                        by_cases c34 : (x6_22 ++ (⟨#[32]⟩ : ByteArray)).size + x5_22.size ≤ 9223372036854775807
                                        · rw [if_pos c34] at H
                                          have c34b0 := eq_true c34
                                          have c34b1 : decide ((x6_22 ++ (⟨#[32]⟩ : ByteArray)).size + x5_22.size ≤ 9223372036854775807) = true := decide_eq_true c34
                                          try have c34b2 : (9223372036854775807 < (x6_22 ++ (⟨#[32]⟩ : ByteArray)).size + x5_22.size) = False := eq_false (Nat.not_lt.2 c34)
                                          (try (have c34b3 : (9223372036854775807 < x6_22.size + 1 + x5_22.size) = False := eq_false (by have h_ := c34; simp only [ByteArray.size_append] at h_; exact Nat.not_lt.mpr h_)))
                                          (try (have c34b4 : decide (x6_22.size + 1 + x5_22.size ≤ 9223372036854775807) = true := decide_eq_true (by have h_ := c34; simp only [ByteArray.size_append] at h_; exact h_)))
                                          obtain rfl := Option.some.inj H
                                          go_wp2_with (first | ((with_reducible refine gate_dst (N := 45) rfl ?_); refine Kd.R_lit Kd.string _ 9 ?hg (N := 45) ?hd (xs := ([(⟨#[32]⟩ : ByteArray), (⟨#[32, 32]⟩ : ByteArray), (⟨#[9]⟩ : ByteArray), (⟨#[32, 9, 32]⟩ : ByteArray)] : List ByteArray)) (inner := [.string (⟨#[32]⟩ : ByteArray), .string (⟨#[32, 32]⟩ : ByteArray), .string (⟨#[9]⟩ : ByteArray), .string (⟨#[32, 9, 32]⟩ : ByteArray)]) (ok := fun _ => True) (okp := fun _ => True) ?hr ?hp (fun _ hk => hk) trivial (Below.refl _ _) (Nat.le_refl _) (by simp) ?_; (case hd => rfl); (case hg => rfl); (case hr => first | (go_simp; done) | (go_simp; rfl)); (case hp => exact (Reps.one (show Kd.M Kd.string _ _ _ (⟨#[32]⟩ : ByteArray) [.string (⟨#[32]⟩ : ByteArray)] from rfl) (Reps.one (show Kd.M Kd.string _ _ _ (⟨#[32, 32]⟩ : ByteArray) [.string (⟨#[32, 32]⟩ : ByteArray)] from rfl) (Reps.one (show Kd.M Kd.string _ _ _ (⟨#[9]⟩ : ByteArray) [.string (⟨#[9]⟩ : ByteArray)] from rfl) (Reps.one (show Kd.M Kd.string _ _ _ (⟨#[32, 9, 32]⟩ : ByteArray) [.string (⟨#[32, 9, 32]⟩ : ByteArray)] from rfl) (Reps.none _ _)))))); intro v301 w35 ho36 hb hg_ hnew_; clear hg_ hnew_; (first | rw [← Ny300.out] at ho36 | (simp only [Int.reduceToNat] at ho36; rw [← Ny300.out] at ho36)); have n0_ := Aside0.mk (Kd.R_lower ho36 (below_size (by repeat (first | (with_reducible first | exact HB.out | apply below_alloc | apply pw_below_drewN | apply below_drew1) | exact HB.out)))); have n1_ := Aside0.mk (below_step (by repeat (first | (with_reducible first | exact HB.out | apply below_alloc | apply pw_below_drewN | apply below_drew1) | exact HB.out)) hb); clear HB; have HO302 := n0_; have HB := n1_; clear n0_ n1_; clear hb ho36; obtain ⟨Ao37, co37, eo37⟩ := Kd.R_slice HO302.out; subst eo37; have p303 : 0 ≤ ((ji26) : Int) := of_decide_eq_true (by first | (with_reducible assumption) | assumption); have q303 : (ji26) < (y300.length : Int) := of_decide_eq_true (by first | (with_reducible assumption) | assumption); obtain ⟨ad303, e303, hx303_0⟩ := Kd.at_string (Kd.R_reads' HO302.out).2.2 (ji26) p303 q303; cases e303; replace p303 := eq_true p303; replace q303 := eq_true q303) | ((with_reducible refine gate_dst (N := 50) rfl ?_); refine Kd.R_lit Kd.string _ 9 ?hg (N := 50) ?hd (xs := ([(⟨#[72, 84, 84, 80, 47, 49, 46, 49]⟩ : ByteArray), (⟨#[72, 84, 84, 80, 47, 49, 46, 48]⟩ : ByteArray), (⟨#[72, 84, 84, 80, 47, 49, 46, 55]⟩ : ByteArray), (⟨#[104, 116, 116, 112, 47, 49, 46, 49]⟩ : ByteArray), (⟨#[72, 84, 84, 80, 47, 50, 46, 48]⟩ : ByteArray), (⟨#[72, 84, 84, 80, 47, 49, 46, 49]⟩ : ByteArray)] : List ByteArray)) (inner := [.string (⟨#[72, 84, 84, 80, 47, 49, 46, 49]⟩ : ByteArray), .string (⟨#[72, 84, 84, 80, 47, 49, 46, 48]⟩ : ByteArray), .string (⟨#[72, 84, 84, 80, 47, 49, 46, 55]⟩ : ByteArray), .string (⟨#[104, 116, 116, 112, 47, 49, 46, 49]⟩ : ByteArray), .string (⟨#[72, 84, 84, 80, 47, 50, 46, 48]⟩ : ByteArray), .string (⟨#[72, 84, 84, 80, 47, 49, 46, 49]⟩ : ByteArray)]) (ok := fun _ => True) (okp := fun _ => True) ?hr ?hp (fun _ hk => hk) trivial (Below.refl _ _) (Nat.le_refl _) (by simp) ?_; (case hd => rfl); (case hg => rfl); (case hr => first | (go_simp; done) | (go_simp; rfl)); (case hp => exact (Reps.one (show Kd.M Kd.string _ _ _ (⟨#[72, 84, 84, 80, 47, 49, 46, 49]⟩ : ByteArray) [.string (⟨#[72, 84, 84, 80, 47, 49, 46, 49]⟩ : ByteArray)] from rfl) (Reps.one (show Kd.M Kd.string _ _ _ (⟨#[72, 84, 84, 80, 47, 49, 46, 48]⟩ : ByteArray) [.string (⟨#[72, 84, 84, 80, 47, 49, 46, 48]⟩ : ByteArray)] from rfl) (Reps.one (show Kd.M Kd.string _ _ _ (⟨#[72, 84, 84, 80, 47, 49, 46, 55]⟩ : ByteArray) [.string (⟨#[72, 84, 84, 80, 47, 49, 46, 55]⟩ : ByteArray)] from rfl) (Reps.one (show Kd.M Kd.string _ _ _ (⟨#[104, 116, 116, 112, 47, 49, 46, 49]⟩ : ByteArray) [.string (⟨#[104, 116, 116, 112, 47, 49, 46, 49]⟩ : ByteArray)] from rfl) (Reps.one (show Kd.M Kd.string _ _ _ (⟨#[72, 84, 84, 80, 47, 50, 46, 48]⟩ : ByteArray) [.string (⟨#[72, 84, 84, 80, 47, 50, 46, 48]⟩ : ByteArray)] from rfl) (Reps.one (show Kd.M Kd.string _ _ _ (⟨#[72, 84, 84, 80, 47, 49, 46, 49]⟩ : ByteArray) [.string (⟨#[72, 84, 84, 80, 47, 49, 46, 49]⟩ : ByteArray)] from rfl) (Reps.none _ _)))))))); intro v305 w38 ho39 hb hg_ hnew_; clear hg_ hnew_; (first | rw [← Ny304.out] at ho39 | (simp only [Int.reduceToNat] at ho39; rw [← Ny304.out] at ho39)); have n0_ := Aside0.mk (Kd.R_elder' (by (with_reducible repeat (first | apply Kd.R_alloc | apply Kd.R_drewN | apply Kd.R_drew)); exact HO302.out) (Kd.R_base ho39) hb); have n1_ := Aside0.mk (Kd.R_lower (Kd.R_new' ho39 (Kd.R_lt (by (with_reducible repeat (first | apply Kd.R_alloc | apply Kd.R_drewN | apply Kd.R_drew)); exact HO302.out))) (below_size (by repeat (first | (with_reducible first | exact HB.out | apply below_alloc | apply pw_below_drewN | apply below_drew1) | exact HB.out)))); have n2_ := Aside0.mk (below_step (by repeat (first | (with_reducible first | exact HB.out | apply below_alloc | apply pw_below_drewN | apply below_drew1) | exact HB.out)) hb); clear HO302; clear HB; have HO302 := n0_; have HO306 := n1_; have HB := n2_; clear n0_ n1_ n2_; clear hb ho39; obtain ⟨Ao40, co40, eo40⟩ := Kd.R_slice HO306.out; subst eo40; have p307 : 0 ≤ ((ji29) : Int) := of_decide_eq_true (by first | (with_reducible assumption) | assumption); have q307 : (ji29) < (y304.length : Int) := of_decide_eq_true (by first | (with_reducible assumption) | assumption); obtain ⟨ad307, e307, hx307_0⟩ := Kd.at_string (Kd.R_reads' HO306.out).2.2 (ji29) p307 q307; cases e307; replace p307 := eq_true p307; replace q307 := eq_true q307))
                                          go_ret
                                          exact ⟨by first | rfl | (simp [errW_none, errW_some] <;> rfl) | (simp only [← hji3, ← hji6, ← hji26, ← hji29]; first | rfl | (simp [errW_none, errW_some] <;> rfl)) | (simp [*, errW_none, errW_some] <;> rfl), by repeat (first | (with_reducible first | exact HB.out | apply below_alloc | apply pw_below_drewN | apply below_drew1) | exact HB.out)⟩
                                        · rw [if_neg c34] at H
                                          exact absurd H (by simp)
                                      · rw [if_neg c33] at H
                                        exact absurd H (by simp)
                                    · rw [if_neg c32] at H
                                      have c32b0 : (a1 == 199) = false := beq_eq_false_iff_ne.mpr c32
                                      have c32b1 : (a1 != 199) = true := bne_iff_ne.mpr c32
                                      by_cases c41 : x6_22.size + (rdOf ByteArray.empty y300 (ji26)).size ≤ 9223372036854775807
                                      · rw [if_pos c41] at H
                                        have c41b0 := eq_true c41
                                        have c41b1 : decide (x6_22.size + (rdOf ByteArray.empty y300 (ji26)).size ≤ 9223372036854775807) = true := decide_eq_true c41
                                        try have c41b2 : (9223372036854775807 < x6_22.size + (rdOf ByteArray.empty y300 (ji26)).size) = False := eq_false (Nat.not_lt.2 c41)
                                        by_cases c42 : (x6_22 ++ (rdOf ByteArray.empty y300 (ji26))).size + x5_22.size ≤ 9223372036854775807
                                        · rw [if_pos c42] at H
                                          have c42b0 := eq_true c42
                                          have c42b1 : decide ((x6_22 ++ (rdOf ByteArray.empty y300 (ji26))).size + x5_22.size ≤ 9223372036854775807) = true := decide_eq_true c42
                                          try have c42b2 : (9223372036854775807 < (x6_22 ++ (rdOf ByteArray.empty y300 (ji26))).size + x5_22.size) = False := eq_false (Nat.not_lt.2 c42)
                                          (try (have c42b3 : (9223372036854775807 < x6_22.size + (rdOf ByteArray.empty y300 (ji26)).size + x5_22.size) = False := eq_false (by have h_ := c42; simp only [ByteArray.size_append] at h_; exact Nat.not_lt.mpr h_)))
                                          (try (have c42b4 : decide (x6_22.size + (rdOf ByteArray.empty y300 (ji26)).size + x5_22.size ≤ 9223372036854775807) = true := decide_eq_true (by have h_ := c42; simp only [ByteArray.size_append] at h_; exact h_)))
                                          by_cases c43 : ((x6_22 ++ (rdOf ByteArray.empty y300 (ji26))) ++ x5_22).size + (rdOf ByteArray.empty y300 (ji26)).size ≤ 9223372036854775807
                                          · rw [if_pos c43] at H
                                            have c43b0 := eq_true c43
                                            have c43b1 : decide (((x6_22 ++ (rdOf ByteArray.empty y300 (ji26))) ++ x5_22).size + (rdOf ByteArray.empty y300 (ji26)).size ≤ 9223372036854775807) = true := decide_eq_true c43
                                            try have c43b2 : (9223372036854775807 < ((x6_22 ++ (rdOf ByteArray.empty y300 (ji26))) ++ x5_22).size + (rdOf ByteArray.empty y300 (ji26)).size) = False := eq_false (Nat.not_lt.2 c43)
                                            (try (have c43b3 : (9223372036854775807 < (x6_22.size + (rdOf ByteArray.empty y300 (ji26)).size) + x5_22.size + (rdOf ByteArray.empty y300 (ji26)).size) = False := eq_false (by have h_ := c43; simp only [ByteArray.size_append] at h_; exact Nat.not_lt.mpr h_)))
                                            (try (have c43b4 : decide ((x6_22.size + (rdOf ByteArray.empty y300 (ji26)).size) + x5_22.size + (rdOf ByteArray.empty y300 (ji26)).size ≤ 9223372036854775807) = true := decide_eq_true (by have h_ := c43; simp only [ByteArray.size_append] at h_; exact h_)))
                                            by_cases c44 : (((x6_22 ++ (rdOf ByteArray.empty y300 (ji26))) ++ x5_22) ++ (rdOf ByteArray.empty y300 (ji26))).size + (rdOf ByteArray.empty y304 (ji29)).size ≤ 9223372036854775807
                                            · rw [if_pos c44] at H
                                              have c44b0 := eq_true c44
                                              have c44b1 : decide ((((x6_22 ++ (rdOf ByteArray.empty y300 (ji26))) ++ x5_22) ++ (rdOf ByteArray.empty y300 (ji26))).size + (rdOf ByteArray.empty y304 (ji29)).size ≤ 9223372036854775807) = true := decide_eq_true c44
                                              try have c44b2 : (9223372036854775807 < (((x6_22 ++ (rdOf ByteArray.empty y300 (ji26))) ++ x5_22) ++ (rdOf ByteArray.empty y300 (ji26))).size + (rdOf ByteArray.empty y304 (ji29)).size) = False := eq_false (Nat.not_lt.2 c44)
                                              (try (have c44b3 : (9223372036854775807 < ((x6_22.size + (rdOf ByteArray.empty y300 (ji26)).size) + x5_22.size) + (rdOf ByteArray.empty y300 (ji26)).size + (rdOf ByteArray.empty y304 (ji29)).size) = False := eq_false (by have h_ := c44; simp only [ByteArray.size_append] at h_; exact Nat.not_lt.mpr h_)))
                                              (try (have c44b4 : decide (((x6_22.size + (rdOf ByteArray.empty y300 (ji26)).size) + x5_22.size) + (rdOf ByteArray.empty y300 (ji26)).size + (rdOf ByteArray.empty y304 (ji29)).size ≤ 9223372036854775807) = true := decide_eq_true (by have h_ := c44; simp only [ByteArray.size_append] at h_; exact h_)))
                                              obtain rfl := Option.some.inj H
                                              go_wp2_with (first | ((with_reducible refine gate_dst (N := 45) rfl ?_); refine Kd.R_lit Kd.string _ 9 ?hg (N := 45) ?hd (xs := ([(⟨#[32]⟩ : ByteArray), (⟨#[32, 32]⟩ : ByteArray), (⟨#[9]⟩ : ByteArray), (⟨#[32, 9, 32]⟩ : ByteArray)] : List ByteArray)) (inner := [.string (⟨#[32]⟩ : ByteArray), .string (⟨#[32, 32]⟩ : ByteArray), .string (⟨#[9]⟩ : ByteArray), .string (⟨#[32, 9, 32]⟩ : ByteArray)]) (ok := fun _ => True) (okp := fun _ => True) ?hr ?hp (fun _ hk => hk) trivial (Below.refl _ _) (Nat.le_refl _) (by simp) ?_; (case hd => rfl); (case hg => rfl); (case hr => first | (go_simp; done) | (go_simp; rfl)); (case hp => exact (Reps.one (show Kd.M Kd.string _ _ _ (⟨#[32]⟩ : ByteArray) [.string (⟨#[32]⟩ : ByteArray)] from rfl) (Reps.one (show Kd.M Kd.string _ _ _ (⟨#[32, 32]⟩ : ByteArray) [.string (⟨#[32, 32]⟩ : ByteArray)] from rfl) (Reps.one (show Kd.M Kd.string _ _ _ (⟨#[9]⟩ : ByteArray) [.string (⟨#[9]⟩ : ByteArray)] from rfl) (Reps.one (show Kd.M Kd.string _ _ _ (⟨#[32, 9, 32]⟩ : ByteArray) [.string (⟨#[32, 9, 32]⟩ : ByteArray)] from rfl) (Reps.none _ _)))))); intro v301 w45 ho46 hb hg_ hnew_; clear hg_ hnew_; (first | rw [← Ny300.out] at ho46 | (simp only [Int.reduceToNat] at ho46; rw [← Ny300.out] at ho46)); have n0_ := Aside0.mk (Kd.R_lower ho46 (below_size (by repeat (first | (with_reducible first | exact HB.out | apply below_alloc | apply pw_below_drewN | apply below_drew1) | exact HB.out)))); have n1_ := Aside0.mk (below_step (by repeat (first | (with_reducible first | exact HB.out | apply below_alloc | apply pw_below_drewN | apply below_drew1) | exact HB.out)) hb); clear HB; have HO302 := n0_; have HB := n1_; clear n0_ n1_; clear hb ho46; obtain ⟨Ao47, co47, eo47⟩ := Kd.R_slice HO302.out; subst eo47; have p303 : 0 ≤ ((ji26) : Int) := of_decide_eq_true (by first | (with_reducible assumption) | assumption); have q303 : (ji26) < (y300.length : Int) := of_decide_eq_true (by first | (with_reducible assumption) | assumption); obtain ⟨ad303, e303, hx303_0⟩ := Kd.at_string (Kd.R_reads' HO302.out).2.2 (ji26) p303 q303; cases e303; replace p303 := eq_true p303; replace q303 := eq_true q303) | ((with_reducible refine gate_dst (N := 50) rfl ?_); refine Kd.R_lit Kd.string _ 9 ?hg (N := 50) ?hd (xs := ([(⟨#[72, 84, 84, 80, 47, 49, 46, 49]⟩ : ByteArray), (⟨#[72, 84, 84, 80, 47, 49, 46, 48]⟩ : ByteArray), (⟨#[72, 84, 84, 80, 47, 49, 46, 55]⟩ : ByteArray), (⟨#[104, 116, 116, 112, 47, 49, 46, 49]⟩ : ByteArray), (⟨#[72, 84, 84, 80, 47, 50, 46, 48]⟩ : ByteArray), (⟨#[72, 84, 84, 80, 47, 49, 46, 49]⟩ : ByteArray)] : List ByteArray)) (inner := [.string (⟨#[72, 84, 84, 80, 47, 49, 46, 49]⟩ : ByteArray), .string (⟨#[72, 84, 84, 80, 47, 49, 46, 48]⟩ : ByteArray), .string (⟨#[72, 84, 84, 80, 47, 49, 46, 55]⟩ : ByteArray), .string (⟨#[104, 116, 116, 112, 47, 49, 46, 49]⟩ : ByteArray), .string (⟨#[72, 84, 84, 80, 47, 50, 46, 48]⟩ : ByteArray), .string (⟨#[72, 84, 84, 80, 47, 49, 46, 49]⟩ : ByteArray)]) (ok := fun _ => True) (okp := fun _ => True) ?hr ?hp (fun _ hk => hk) trivial (Below.refl _ _) (Nat.le_refl _) (by simp) ?_; (case hd => rfl); (case hg => rfl); (case hr => first | (go_simp; done) | (go_simp; rfl)); (case hp => exact (Reps.one (show Kd.M Kd.string _ _ _ (⟨#[72, 84, 84, 80, 47, 49, 46, 49]⟩ : ByteArray) [.string (⟨#[72, 84, 84, 80, 47, 49, 46, 49]⟩ : ByteArray)] from rfl) (Reps.one (show Kd.M Kd.string _ _ _ (⟨#[72, 84, 84, 80, 47, 49, 46, 48]⟩ : ByteArray) [.string (⟨#[72, 84, 84, 80, 47, 49, 46, 48]⟩ : ByteArray)] from rfl) (Reps.one (show Kd.M Kd.string _ _ _ (⟨#[72, 84, 84, 80, 47, 49, 46, 55]⟩ : ByteArray) [.string (⟨#[72, 84, 84, 80, 47, 49, 46, 55]⟩ : ByteArray)] from rfl) (Reps.one (show Kd.M Kd.string _ _ _ (⟨#[104, 116, 116, 112, 47, 49, 46, 49]⟩ : ByteArray) [.string (⟨#[104, 116, 116, 112, 47, 49, 46, 49]⟩ : ByteArray)] from rfl) (Reps.one (show Kd.M Kd.string _ _ _ (⟨#[72, 84, 84, 80, 47, 50, 46, 48]⟩ : ByteArray) [.string (⟨#[72, 84, 84, 80, 47, 50, 46, 48]⟩ : ByteArray)] from rfl) (Reps.one (show Kd.M Kd.string _ _ _ (⟨#[72, 84, 84, 80, 47, 49, 46, 49]⟩ : ByteArray) [.string (⟨#[72, 84, 84, 80, 47, 49, 46, 49]⟩ : ByteArray)] from rfl) (Reps.none _ _)))))))); intro v305 w48 ho49 hb hg_ hnew_; clear hg_ hnew_; (first | rw [← Ny304.out] at ho49 | (simp only [Int.reduceToNat] at ho49; rw [← Ny304.out] at ho49)); have n0_ := Aside0.mk (Kd.R_elder' (by (with_reducible repeat (first | apply Kd.R_alloc | apply Kd.R_drewN | apply Kd.R_drew)); exact HO302.out) (Kd.R_base ho49) hb); have n1_ := Aside0.mk (Kd.R_lower (Kd.R_new' ho49 (Kd.R_lt (by (with_reducible repeat (first | apply Kd.R_alloc | apply Kd.R_drewN | apply Kd.R_drew)); exact HO302.out))) (below_size (by repeat (first | (with_reducible first | exact HB.out | apply below_alloc | apply pw_below_drewN | apply below_drew1) | exact HB.out)))); have n2_ := Aside0.mk (below_step (by repeat (first | (with_reducible first | exact HB.out | apply below_alloc | apply pw_below_drewN | apply below_drew1) | exact HB.out)) hb); clear HO302; clear HB; have HO302 := n0_; have HO306 := n1_; have HB := n2_; clear n0_ n1_ n2_; clear hb ho49; obtain ⟨Ao50, co50, eo50⟩ := Kd.R_slice HO306.out; subst eo50; have p307 : 0 ≤ ((ji29) : Int) := of_decide_eq_true (by first | (with_reducible assumption) | assumption); have q307 : (ji29) < (y304.length : Int) := of_decide_eq_true (by first | (with_reducible assumption) | assumption); obtain ⟨ad307, e307, hx307_0⟩ := Kd.at_string (Kd.R_reads' HO306.out).2.2 (ji29) p307 q307; cases e307; replace p307 := eq_true p307; replace q307 := eq_true q307))
                                              go_ret
                                              exact ⟨by first | rfl | (simp [errW_none, errW_some] <;> rfl) | (simp only [← hji3, ← hji6, ← hji26, ← hji29]; first | rfl | (simp [errW_none, errW_some] <;> rfl)) | (simp [*, errW_none, errW_some] <;> rfl), by repeat (first | (with_reducible first | exact HB.out | apply below_alloc | apply pw_below_drewN | apply below_drew1) | exact HB.out)⟩
                                            · rw [if_neg c44] at H
                                              exact absurd H (by simp)
                                          · rw [if_neg c43] at H
                                            exact absurd H (by simp)
                                        · rw [if_neg c42] at H
                                          exact absurd H (by simp)
                                      · rw [if_neg c41] at H
                                        exact absurd H (by simp)
                                  · rw [if_neg c31] at H
                                    exact absurd H (by simp)
                                · rw [if_neg c30] at H
                                  exact absurd H (by simp)
                              · rw [if_neg c28] at H
                                exact absurd H (by simp)
                            · rw [if_neg c27] at H
                              exact absurd H (by simp)
                          · rw [if_neg c25] at H
                            have c25b0 : decide (200 < a1) = false := decide_eq_false c25
                            clear c25
                            by_cases c51 : a1 = 199
                            · rw [if_pos c51] at H
                              have c51b0 : (a1 == 199) = true := beq_iff_eq.mpr c51
                              have c51b1 : (a1 != 199) = false := bne_eq_false_iff_eq.mpr c51
                              clear c51
                              by_cases c52 : x6_22.size + 1 ≤ 9223372036854775807
                              · rw [if_pos c52] at H
                                have c52b0 := eq_true c52
                                have c52b1 : decide (x6_22.size + 1 ≤ 9223372036854775807) = true := decide_eq_true c52
                                try have c52b2 : (9223372036854775807 < x6_22.size + 1) = False := eq_false (Nat.not_lt.2 c52)
                                by_cases c53 : (x6_22 ++ (⟨#[32]⟩ : ByteArray)).size + x5_22.size ≤ 9223372036854775807
                                · rw [if_pos c53] at H
                                  have c53b0 := eq_true c53
                                  have c53b1 : decide ((x6_22 ++ (⟨#[32]⟩ : ByteArray)).size + x5_22.size ≤ 9223372036854775807) = true := decide_eq_true c53
                                  try have c53b2 : (9223372036854775807 < (x6_22 ++ (⟨#[32]⟩ : ByteArray)).size + x5_22.size) = False := eq_false (Nat.not_lt.2 c53)
                                  (try (have c53b3 : (9223372036854775807 < x6_22.size + 1 + x5_22.size) = False := eq_false (by have h_ := c53; simp only [ByteArray.size_append] at h_; exact Nat.not_lt.mpr h_)))
                                  (try (have c53b4 : decide (x6_22.size + 1 + x5_22.size ≤ 9223372036854775807) = true := decide_eq_true (by have h_ := c53; simp only [ByteArray.size_append] at h_; exact h_)))
                                  obtain rfl := Option.some.inj H
                                  go_wp2
                                  go_ret
                                  exact ⟨by first | rfl | (simp [errW_none, errW_some] <;> rfl) | (simp only [← hji3, ← hji6]; first | rfl | (simp [errW_none, errW_some] <;> rfl)) | (simp [*, errW_none, errW_some] <;> rfl), by repeat (first | (with_reducible first | exact HB.out | apply below_alloc | apply pw_below_drewN | apply below_drew1) | exact HB.out)⟩
                                · rw [if_neg c53] at H
                                  exact absurd H (by simp)
                              · rw [if_neg c52] at H
                                exact absurd H (by simp)
                            · rw [if_neg c51] at H
                              have c51b0 : (a1 == 199) = false := beq_eq_false_iff_ne.mpr c51
                              have c51b1 : (a1 != 199) = true := bne_iff_ne.mpr c51
                              by_cases c54 : x6_22.size + 1 ≤ 9223372036854775807
                              · rw [if_pos c54] at H
                                have c54b0 := eq_true c54
                                have c54b1 : decide (x6_22.size + 1 ≤ 9223372036854775807) = true := decide_eq_true c54
                                try have c54b2 : (9223372036854775807 < x6_22.size + 1) = False := eq_false (Nat.not_lt.2 c54)
                                by_cases c55 : (x6_22 ++ (⟨#[32]⟩ : ByteArray)).size + x5_22.size ≤ 9223372036854775807
                                · rw [if_pos c55] at H
                                  have c55b0 := eq_true c55
                                  have c55b1 : decide ((x6_22 ++ (⟨#[32]⟩ : ByteArray)).size + x5_22.size ≤ 9223372036854775807) = true := decide_eq_true c55
                                  try have c55b2 : (9223372036854775807 < (x6_22 ++ (⟨#[32]⟩ : ByteArray)).size + x5_22.size) = False := eq_false (Nat.not_lt.2 c55)
                                  (try (have c55b3 : (9223372036854775807 < x6_22.size + 1 + x5_22.size) = False := eq_false (by have h_ := c55; simp only [ByteArray.size_append] at h_; exact Nat.not_lt.mpr h_)))
                                  (try (have c55b4 : decide (x6_22.size + 1 + x5_22.size ≤ 9223372036854775807) = true := decide_eq_true (by have h_ := c55; simp only [ByteArray.size_append] at h_; exact h_)))
                                  by_cases c56 : ((x6_22 ++ (⟨#[32]⟩ : ByteArray)) ++ x5_22).size + 1 ≤ 9223372036854775807
                                  · rw [if_pos c56] at H
                                    have c56b0 := eq_true c56
                                    have c56b1 : decide (((x6_22 ++ (⟨#[32]⟩ : ByteArray)) ++ x5_22).size + 1 ≤ 9223372036854775807) = true := decide_eq_true c56
                                    try have c56b2 : (9223372036854775807 < ((x6_22 ++ (⟨#[32]⟩ : ByteArray)) ++ x5_22).size + 1) = False := eq_false (Nat.not_lt.2 c56)
                                    (try (have c56b3 : (9223372036854775807 < (x6_22.size + 1) + x5_22.size + 1) = False := eq_false (by have h_ := c56; simp only [ByteArray.size_append] at h_; exact Nat.not_lt.mpr h_)))
                                    (try (have c56b4 : decide ((x6_22.size + 1) + x5_22.size + 1 ≤ 9223372036854775807) = true := decide_eq_true (by have h_ := c56; simp only [ByteArray.size_append] at h_; exact h_)))
                                    by_cases c57 : (((x6_22 ++ (⟨#[32]⟩ : ByteArray)) ++ x5_22) ++ (⟨#[32]⟩ : ByteArray)).size + 8 ≤ 9223372036854775807
                                    · rw [if_pos c57] at H
                                      have c57b0 := eq_true c57
                                      have c57b1 : decide ((((x6_22 ++ (⟨#[32]⟩ : ByteArray)) ++ x5_22) ++ (⟨#[32]⟩ : ByteArray)).size + 8 ≤ 9223372036854775807) = true := decide_eq_true c57
                                      try have c57b2 : (9223372036854775807 < (((x6_22 ++ (⟨#[32]⟩ : ByteArray)) ++ x5_22) ++ (⟨#[32]⟩ : ByteArray)).size + 8) = False := eq_false (Nat.not_lt.2 c57)
                                      (try (have c57b3 : (9223372036854775807 < ((x6_22.size + 1) + x5_22.size) + 1 + 8) = False := eq_false (by have h_ := c57; simp only [ByteArray.size_append] at h_; exact Nat.not_lt.mpr h_)))
                                      (try (have c57b4 : decide (((x6_22.size + 1) + x5_22.size) + 1 + 8 ≤ 9223372036854775807) = true := decide_eq_true (by have h_ := c57; simp only [ByteArray.size_append] at h_; exact h_)))
                                      obtain rfl := Option.some.inj H
                                      go_wp2
                                      go_ret
                                      exact ⟨by first | rfl | (simp [errW_none, errW_some] <;> rfl) | (simp only [← hji3, ← hji6]; first | rfl | (simp [errW_none, errW_some] <;> rfl)) | (simp [*, errW_none, errW_some] <;> rfl), by repeat (first | (with_reducible first | exact HB.out | apply below_alloc | apply pw_below_drewN | apply below_drew1) | exact HB.out)⟩
                                    · rw [if_neg c57] at H
                                      exact absurd H (by simp)
                                  · rw [if_neg c56] at H
                                    exact absurd H (by simp)
                                · rw [if_neg c55] at H
                                  exact absurd H (by simp)
                              · rw [if_neg c54] at H
                                exact absurd H (by simp)
        · rw [if_neg c8] at H
          exact absurd H (by simp)
      · rw [if_neg c7] at H
        exact absurd H (by simp)
    · rw [if_neg c5] at H
      exact absurd H (by simp)
  · rw [if_neg c4] at H
    exact absurd H (by simp)

end Go.Proofs.YtclaaacdmaeblaaDoor.PRequestExtends
