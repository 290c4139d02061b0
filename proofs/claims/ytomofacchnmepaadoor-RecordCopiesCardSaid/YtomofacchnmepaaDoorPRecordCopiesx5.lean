-- Written by a program of this session (wip/tools/myprint.sh)
import Derived.Test.YtomofacchnmepaaDoorPRecordCopiesx0
import Derived.Test.YtomofacchnmepaaDoorPRecordCopiesx2
import Derived.Test.YtomofacchnmepaaDoorPRecordCopiesx3
import Derived.Test.YtomofacchnmepaaDoorPRecordCopiesx4
namespace Go.Proofs.YtomofacchnmepaaDoor.PRecordCopies
open Go.RowKit Go.Proofs.YtomofacchnmepaaDoorW.PrintWords Go.Proofs.YtomofacchnmepaaDoorW.PrintLast Go.Proofs.YtomofacchnmepaaDoorW.PrintMore
attribute [local go_sem] max2_int min2_int max_two min_two max_three min_three max_four min_four   -- for this text's walks alone
set_option linter.unusedVariables false
set_option linter.unusedSimpArgs false

/-! ### parallaxlaw12_known: function 6 -/
def parallaxlaw12_known.f (k : Nat)  : Option (Bool) := (some (([(⟨(⟨#[69, 120, 112, 101, 99, 116]⟩ : ByteArray), (⟨#[49, 48, 48, 45, 67, 111, 110, 116, 105, 110, 117, 101]⟩ : ByteArray)⟩ : S31)] : List (S31)) : List (S31))).bind fun y171 => ((record_Same.f k (⟨#[71, 69, 84]⟩ : ByteArray) (⟨#[47]⟩ : ByteArray) 0 y171 false ([] : List Int) ([] : List (S31)) (⟨#[71, 69, 84]⟩ : ByteArray) (⟨#[47]⟩ : ByteArray) 0 y171 false ([] : List Int) ([] : List (S31))).bind fun t176 => (if t176 = true then ((record_Same.f k (⟨#[71, 69, 84]⟩ : ByteArray) (⟨#[47]⟩ : ByteArray) 0 y171 false ([] : List Int) ([] : List (S31)) (⟨#[71, 69, 84]⟩ : ByteArray) (⟨#[47]⟩ : ByteArray) 1 y171 false ([] : List Int) ([] : List (S31))).bind fun t177 => (if t177 = true then (some false) else ((record_All.f k (([(⟨(⟨#[71, 69, 84]⟩ : ByteArray), (⟨#[47]⟩ : ByteArray), 0, y171, false, ([] : List Int), ([] : List (S31))⟩ : S25)] : List (S25))) (([(⟨(⟨#[71, 69, 84]⟩ : ByteArray), (⟨#[47]⟩ : ByteArray), 0, y171, false, ([] : List Int), ([] : List (S31))⟩ : S25)] : List (S25)))).bind fun t184 => (if t184 = true then ((record_Size.f k (⟨#[71, 69, 84]⟩ : ByteArray) (⟨#[47]⟩ : ByteArray) 0 y171 false ([] : List Int) ([] : List (S31))).bind fun t185 => (if t185 = 22 then ((record_Closes.f k (⟨#[71, 69, 84]⟩ : ByteArray) (⟨#[47]⟩ : ByteArray) 0 y171 false ([] : List Int) ([] : List (S31))).bind fun t186 => (if t186 = true then ((record_Closes.f k (⟨#[71, 69, 84]⟩ : ByteArray) (⟨#[47]⟩ : ByteArray) 1 y171 false ([] : List Int) ([] : List (S31))).bind fun t187 => (if t187 = true then (some false) else ((record_Expects.f k (⟨#[71, 69, 84]⟩ : ByteArray) (⟨#[47]⟩ : ByteArray) 0 y171 false ([] : List Int) ([] : List (S31))).bind fun t188 => (if t188 = true then (some false) else ((record_Expects.f k (⟨#[71, 69, 84]⟩ : ByteArray) (⟨#[47]⟩ : ByteArray) 1 y171 false ([] : List Int) ([] : List (S31))).bind fun t189 => (if t189 = true then ((record_Copy.f (⟨#[71, 69, 84]⟩ : ByteArray) (⟨#[47]⟩ : ByteArray) 1 y171 false ([] : List Int) ([] : List (S31))).bind fun bt190 => ((record_Same.f k bt190.1 bt190.2.1 bt190.2.2.1 bt190.2.2.2.1 bt190.2.2.2.2.1 bt190.2.2.2.2.2.1 bt190.2.2.2.2.2.2 (⟨#[71, 69, 84]⟩ : ByteArray) (⟨#[47]⟩ : ByteArray) 1 y171 false ([] : List Int) ([] : List (S31))).bind fun t203 => (some t203))) else (some false))))))) else (some false))) else (some false))) else (some false))))) else (some false)))
theorem parallaxlaw12_known.mono : ∀ k, LeO (parallaxlaw12_known.f k ) (parallaxlaw12_known.f (k + 1) ) := by
 intro  k
 unfold parallaxlaw12_known.f
 repeat' first
   | (with_reducible exact record_All.mono _ _ _)
   | (with_reducible exact record_Closes.mono _ _ _ _ _ _ _ _)
   | (with_reducible exact record_Expects.mono _ _ _ _ _ _ _ _)
   | (with_reducible exact record_Same.mono _ _ _ _ _ _ _ _ _ _ _ _ _ _ _)
   | (with_reducible exact record_Size.mono _ _ _ _ _ _ _ _)
   | (with_reducible exact LeO.refl _)
   | (with_reducible exact LeO.none _)
   | (with_reducible refine LeO.ite ?_ ?_)
   | (with_reducible refine LeO.bind ?_ (fun _ => ?_))
   | exact record_All.mono _ _ _
   | exact record_Closes.mono _ _ _ _ _ _ _ _
   | exact record_Expects.mono _ _ _ _ _ _ _ _
   | exact record_Same.mono _ _ _ _ _ _ _ _ _ _ _ _ _ _ _
   | exact record_Size.mono _ _ _ _ _ _ _ _
   | exact LeO.none _
   | refine LeO.ite ?_ ?_
   | refine LeO.bind ?_ (fun _ => ?_)
def parallaxlaw12_known.T4 : Bool × List (List Nat × List Nat) := (true, [([], []), ([], []), ([0, 1], [0, 1]), ([2, 2], [2]), ([3], [3]), ([3], [3]), ([4, 5, 3, 3], [3, 4, 5]), ([6, 3], [3, 6]), ([3, 7], [3, 7]), ([8, 6], [8]), ([9], [9]), ([10, 9], [9, 10]), ([9], [9]), ([12, 9], [9, 12]), ([11, 13, 9, 9], [9, 11, 13]), ([9, 14], [9, 14]), ([15, 14], [15]), ([16], [16]), ([17, 16, 16], [16, 17]), ([18, 16], [16, 18]), ([16, 19], [16, 19]), ([20, 18], [20]), ([21], [21]), ([22, 21, 21], [21, 22]), ([21, 23], [21, 23]), ([24, 23], [24]), ([25], [25]), ([26, 25, 25], [25, 26]), ([27, 25], [25, 27]), ([25, 28], [25, 28]), ([29, 27], [29]), ([30], [30]), ([31, 30, 30], [30, 31]), ([32, 30], [30, 32]), ([30, 33], [30, 33]), ([34, 32], [34]), ([35], [35]), ([36, 35, 35], [35, 36]), ([35, 37], [35, 37]), ([38, 37], [38]), ([39], [39]), ([40, 39, 39], [39, 40]), ([39], [39]), ([41, 42, 41, 39], [39, 41, 42]), ([39, 43], [39, 43]), ([44, 43, 0, 1, 2, 3, 4, 5, 6, 7, 8, 9, 10, 11, 12, 13, 14, 15, 16, 17, 18, 19, 20, 21, 22, 23, 24, 25, 26, 27, 28, 29, 30, 31, 32, 33, 34, 35, 36, 37, 38, 39, 40, 41, 42, 43, 44], [44])])
def parallaxlaw12_known.B4 : List Nat := [0, 0, 3, 7, 15, 15, 63, 127, 255, 511, 1023, 2047, 1023, 5119, 16383, 32767, 65535, 131071, 262143, 524287, 1048575, 2097151, 4194303, 8388607, 16777215, 33554431, 67108863, 134217727, 268435455, 536870911, 1073741823, 2147483647, 4294967295, 8589934591, 17179869183, 34359738367, 68719476735, 137438953471, 274877906943, 549755813887, 1099511627775, 2199023255551, 1099511627775, 8796093022207, 17592186044415, 35184372088831]
theorem parallaxlaw12_known.tab4 : rtab .any (opsOf Tryd.f6 4) = parallaxlaw12_known.T4 := by kernel_rfl
theorem parallaxlaw12_known.bits4 : waitsOk parallaxlaw12_known.T4.2 parallaxlaw12_known.B4 = true := by kernel_rfl
set_option maxHeartbeats 8000000 in
set_option maxRecDepth 100000 in
theorem parallaxlaw12_known.calls (k : Nat)  (r : Bool) (w : World) (hT : r = true) (h : parallaxlaw12_known.f k  = some r) :
  Calls Tryd.prog 6 #[] w fun e w' => e = .returned (.bool r) ∧ Below w.heap.size w w' := by
 have hu31 := Tryd.underlying31
 have hu25 := Tryd.underlying25
 have HT := Aside0.mk hT
 clear hT
 have HB := Aside0.mk (Below.refl w.heap.size w)
 have H : ((some (([(⟨(⟨#[69, 120, 112, 101, 99, 116]⟩ : ByteArray), (⟨#[49, 48, 48, 45, 67, 111, 110, 116, 105, 110, 117, 101]⟩ : ByteArray)⟩ : S31)] : List (S31)) : List (S31))).bind fun y171 => ((record_Same.f k (⟨#[71, 69, 84]⟩ : ByteArray) (⟨#[47]⟩ : ByteArray) 0 y171 false ([] : List Int) ([] : List (S31)) (⟨#[71, 69, 84]⟩ : ByteArray) (⟨#[47]⟩ : ByteArray) 0 y171 false ([] : List Int) ([] : List (S31))).bind fun t176 => (if t176 = true then ((record_Same.f k (⟨#[71, 69, 84]⟩ : ByteArray) (⟨#[47]⟩ : ByteArray) 0 y171 false ([] : List Int) ([] : List (S31)) (⟨#[71, 69, 84]⟩ : ByteArray) (⟨#[47]⟩ : ByteArray) 1 y171 false ([] : List Int) ([] : List (S31))).bind fun t177 => (if t177 = true then (some false) else ((record_All.f k (([(⟨(⟨#[71, 69, 84]⟩ : ByteArray), (⟨#[47]⟩ : ByteArray), 0, y171, false, ([] : List Int), ([] : List (S31))⟩ : S25)] : List (S25))) (([(⟨(⟨#[71, 69, 84]⟩ : ByteArray), (⟨#[47]⟩ : ByteArray), 0, y171, false, ([] : List Int), ([] : List (S31))⟩ : S25)] : List (S25)))).bind fun t184 => (if t184 = true then ((record_Size.f k (⟨#[71, 69, 84]⟩ : ByteArray) (⟨#[47]⟩ : ByteArray) 0 y171 false ([] : List Int) ([] : List (S31))).bind fun t185 => (if t185 = 22 then ((record_Closes.f k (⟨#[71, 69, 84]⟩ : ByteArray) (⟨#[47]⟩ : ByteArray) 0 y171 false ([] : List Int) ([] : List (S31))).bind fun t186 => (if t186 = true then ((record_Closes.f k (⟨#[71, 69, 84]⟩ : ByteArray) (⟨#[47]⟩ : ByteArray) 1 y171 false ([] : List Int) ([] : List (S31))).bind fun t187 => (if t187 = true then (some false) else ((record_Expects.f k (⟨#[71, 69, 84]⟩ : ByteArray) (⟨#[47]⟩ : ByteArray) 0 y171 false ([] : List Int) ([] : List (S31))).bind fun t188 => (if t188 = true then (some false) else ((record_Expects.f k (⟨#[71, 69, 84]⟩ : ByteArray) (⟨#[47]⟩ : ByteArray) 1 y171 false ([] : List Int) ([] : List (S31))).bind fun t189 => (if t189 = true then ((record_Copy.f (⟨#[71, 69, 84]⟩ : ByteArray) (⟨#[47]⟩ : ByteArray) 1 y171 false ([] : List Int) ([] : List (S31))).bind fun bt190 => ((record_Same.f k bt190.1 bt190.2.1 bt190.2.2.1 bt190.2.2.2.1 bt190.2.2.2.2.1 bt190.2.2.2.2.2.1 bt190.2.2.2.2.2.2 (⟨#[71, 69, 84]⟩ : ByteArray) (⟨#[47]⟩ : ByteArray) 1 y171 false ([] : List Int) ([] : List (S31))).bind fun t203 => (some t203))) else (some false))))))) else (some false))) else (some false))) else (some false))))) else (some false)))) = some r := h
 clear h
 obtain ⟨y171, hy171⟩ : ∃ y_ : List (S31), y_ = (([(⟨(⟨#[69, 120, 112, 101, 99, 116]⟩ : ByteArray), (⟨#[49, 48, 48, 45, 67, 111, 110, 116, 105, 110, 117, 101]⟩ : ByteArray)⟩ : S31)] : List (S31))) := ⟨_, rfl⟩
 replace H : ((record_Same.f k (⟨#[71, 69, 84]⟩ : ByteArray) (⟨#[47]⟩ : ByteArray) 0 y171 false ([] : List Int) ([] : List (S31)) (⟨#[71, 69, 84]⟩ : ByteArray) (⟨#[47]⟩ : ByteArray) 0 y171 false ([] : List Int) ([] : List (S31))).bind fun t176 => (if t176 = true then ((record_Same.f k (⟨#[71, 69, 84]⟩ : ByteArray) (⟨#[47]⟩ : ByteArray) 0 y171 false ([] : List Int) ([] : List (S31)) (⟨#[71, 69, 84]⟩ : ByteArray) (⟨#[47]⟩ : ByteArray) 1 y171 false ([] : List Int) ([] : List (S31))).bind fun t177 => (if t177 = true then (some false) else ((record_All.f k (([(⟨(⟨#[71, 69, 84]⟩ : ByteArray), (⟨#[47]⟩ : ByteArray), 0, y171, false, ([] : List Int), ([] : List (S31))⟩ : S25)] : List (S25))) (([(⟨(⟨#[71, 69, 84]⟩ : ByteArray), (⟨#[47]⟩ : ByteArray), 0, y171, false, ([] : List Int), ([] : List (S31))⟩ : S25)] : List (S25)))).bind fun t184 => (if t184 = true then ((record_Size.f k (⟨#[71, 69, 84]⟩ : ByteArray) (⟨#[47]⟩ : ByteArray) 0 y171 false ([] : List Int) ([] : List (S31))).bind fun t185 => (if t185 = 22 then ((record_Closes.f k (⟨#[71, 69, 84]⟩ : ByteArray) (⟨#[47]⟩ : ByteArray) 0 y171 false ([] : List Int) ([] : List (S31))).bind fun t186 => (if t186 = true then ((record_Closes.f k (⟨#[71, 69, 84]⟩ : ByteArray) (⟨#[47]⟩ : ByteArray) 1 y171 false ([] : List Int) ([] : List (S31))).bind fun t187 => (if t187 = true then (some false) else ((record_Expects.f k (⟨#[71, 69, 84]⟩ : ByteArray) (⟨#[47]⟩ : ByteArray) 0 y171 false ([] : List Int) ([] : List (S31))).bind fun t188 => (if t188 = true then (some false) else ((record_Expects.f k (⟨#[71, 69, 84]⟩ : ByteArray) (⟨#[47]⟩ : ByteArray) 1 y171 false ([] : List Int) ([] : List (S31))).bind fun t189 => (if t189 = true then ((record_Copy.f (⟨#[71, 69, 84]⟩ : ByteArray) (⟨#[47]⟩ : ByteArray) 1 y171 false ([] : List Int) ([] : List (S31))).bind fun bt190 => ((record_Same.f k bt190.1 bt190.2.1 bt190.2.2.1 bt190.2.2.2.1 bt190.2.2.2.2.1 bt190.2.2.2.2.2.1 bt190.2.2.2.2.2.2 (⟨#[71, 69, 84]⟩ : ByteArray) (⟨#[47]⟩ : ByteArray) 1 y171 false ([] : List Int) ([] : List (S31))).bind fun t203 => (some t203))) else (some false))))))) else (some false))) else (some false))) else (some false))))) else (some false))) = some r := by first | (rw [hy171]; with_reducible exact H) | (have H2_ := (Option.bind_some _ _).symm.trans H; rw [hy171]; with_reducible exact H2_) | (have H2_ := (Option.bind_some _ _).symm.trans H; with_reducible exact H2_) | with_reducible exact H | (rw [hy171]; exact H) | exact H
 have Ny171 := Aside0.mk hy171
 clear hy171
 replace H := Option.bind_eq_some_iff.mp H
 obtain ⟨t176, A10, H⟩ := H
 (try dsimp only at H)
 have A1 := Aside0.mk A10
 clear A10
 by_cases c2 : t176 = true
 ·subst c2
  rw [if_pos rfl] at H
  replace H := Option.bind_eq_some_iff.mp H
  obtain ⟨t177, A30, H⟩ := H
  (try dsimp only at H)
  have A3 := Aside0.mk A30
  clear A30
  by_cases c4 : t177 = true
  ·subst c4
   rw [if_pos rfl] at H
   exact absurd ((Option.some.inj H).trans HT.out) (by decide)
  ·replace c4 := Bool.eq_false_iff.mpr c4
   subst c4
   rw [if_neg (show ¬ (false = true) by decide)] at H
   obtain ⟨y178, hy178⟩ : ∃ y_ : List (S25), y_ = (([(⟨(⟨#[71, 69, 84]⟩ : ByteArray), (⟨#[47]⟩ : ByteArray), 0, y171, false, ([] : List Int), ([] : List (S31))⟩ : S25)] : List (S25))) := ⟨_, rfl⟩
   replace H : ((record_All.f k y178 (([(⟨(⟨#[71, 69, 84]⟩ : ByteArray), (⟨#[47]⟩ : ByteArray), 0, y171, false, ([] : List Int), ([] : List (S31))⟩ : S25)] : List (S25)))).bind fun t184 => (if t184 = true then ((record_Size.f k (⟨#[71, 69, 84]⟩ : ByteArray) (⟨#[47]⟩ : ByteArray) 0 y171 false ([] : List Int) ([] : List (S31))).bind fun t185 => (if t185 = 22 then ((record_Closes.f k (⟨#[71, 69, 84]⟩ : ByteArray) (⟨#[47]⟩ : ByteArray) 0 y171 false ([] : List Int) ([] : List (S31))).bind fun t186 => (if t186 = true then ((record_Closes.f k (⟨#[71, 69, 84]⟩ : ByteArray) (⟨#[47]⟩ : ByteArray) 1 y171 false ([] : List Int) ([] : List (S31))).bind fun t187 => (if t187 = true then (some false) else ((record_Expects.f k (⟨#[71, 69, 84]⟩ : ByteArray) (⟨#[47]⟩ : ByteArray) 0 y171 false ([] : List Int) ([] : List (S31))).bind fun t188 => (if t188 = true then (some false) else ((record_Expects.f k (⟨#[71, 69, 84]⟩ : ByteArray) (⟨#[47]⟩ : ByteArray) 1 y171 false ([] : List Int) ([] : List (S31))).bind fun t189 => (if t189 = true then ((record_Copy.f (⟨#[71, 69, 84]⟩ : ByteArray) (⟨#[47]⟩ : ByteArray) 1 y171 false ([] : List Int) ([] : List (S31))).bind fun bt190 => ((record_Same.f k bt190.1 bt190.2.1 bt190.2.2.1 bt190.2.2.2.1 bt190.2.2.2.2.1 bt190.2.2.2.2.2.1 bt190.2.2.2.2.2.2 (⟨#[71, 69, 84]⟩ : ByteArray) (⟨#[47]⟩ : ByteArray) 1 y171 false ([] : List Int) ([] : List (S31))).bind fun t203 => (some t203))) else (some false))))))) else (some false))) else (some false))) else (some false))) = some r := by first | (rw [hy178]; with_reducible exact H) | (have H2_ := (Option.bind_some _ _).symm.trans H; rw [hy178]; with_reducible exact H2_) | (have H2_ := (Option.bind_some _ _).symm.trans H; with_reducible exact H2_) | with_reducible exact H | (rw [hy178]; exact H) | exact H
   have Ny178 := Aside0.mk hy178
   clear hy178
   obtain ⟨y181, hy181⟩ : ∃ y_ : List (S25), y_ = (([(⟨(⟨#[71, 69, 84]⟩ : ByteArray), (⟨#[47]⟩ : ByteArray), 0, y171, false, ([] : List Int), ([] : List (S31))⟩ : S25)] : List (S25))) := ⟨_, rfl⟩
   replace H : ((record_All.f k y178 y181).bind fun t184 => (if t184 = true then ((record_Size.f k (⟨#[71, 69, 84]⟩ : ByteArray) (⟨#[47]⟩ : ByteArray) 0 y171 false ([] : List Int) ([] : List (S31))).bind fun t185 => (if t185 = 22 then ((record_Closes.f k (⟨#[71, 69, 84]⟩ : ByteArray) (⟨#[47]⟩ : ByteArray) 0 y171 false ([] : List Int) ([] : List (S31))).bind fun t186 => (if t186 = true then ((record_Closes.f k (⟨#[71, 69, 84]⟩ : ByteArray) (⟨#[47]⟩ : ByteArray) 1 y171 false ([] : List Int) ([] : List (S31))).bind fun t187 => (if t187 = true then (some false) else ((record_Expects.f k (⟨#[71, 69, 84]⟩ : ByteArray) (⟨#[47]⟩ : ByteArray) 0 y171 false ([] : List Int) ([] : List (S31))).bind fun t188 => (if t188 = true then (some false) else ((record_Expects.f k (⟨#[71, 69, 84]⟩ : ByteArray) (⟨#[47]⟩ : ByteArray) 1 y171 false ([] : List Int) ([] : List (S31))).bind fun t189 => (if t189 = true then ((record_Copy.f (⟨#[71, 69, 84]⟩ : ByteArray) (⟨#[47]⟩ : ByteArray) 1 y171 false ([] : List Int) ([] : List (S31))).bind fun bt190 => ((record_Same.f k bt190.1 bt190.2.1 bt190.2.2.1 bt190.2.2.2.1 bt190.2.2.2.2.1 bt190.2.2.2.2.2.1 bt190.2.2.2.2.2.2 (⟨#[71, 69, 84]⟩ : ByteArray) (⟨#[47]⟩ : ByteArray) 1 y171 false ([] : List Int) ([] : List (S31))).bind fun t203 => (some t203))) else (some false))))))) else (some false))) else (some false))) else (some false))) = some r := by first | (rw [hy181]; with_reducible exact H) | (have H2_ := (Option.bind_some _ _).symm.trans H; rw [hy181]; with_reducible exact H2_) | (have H2_ := (Option.bind_some _ _).symm.trans H; with_reducible exact H2_) | with_reducible exact H | (rw [hy181]; exact H) | exact H
   have Ny181 := Aside0.mk hy181
   clear hy181
   replace H := Option.bind_eq_some_iff.mp H
   obtain ⟨t184, A50, H⟩ := H
   (try dsimp only at H)
   have A5 := Aside0.mk A50
   clear A50
   by_cases c6 : t184 = true
   ·subst c6
    rw [if_pos rfl] at H
    replace H := Option.bind_eq_some_iff.mp H
    obtain ⟨t185, A70, H⟩ := H
    (try dsimp only at H)
    have A7 := Aside0.mk A70
    clear A70
    by_cases c8 : t185 = 22
    ·rw [if_pos c8] at H
     have c8b0 : (t185 == 22) = true := beq_iff_eq.mpr c8
     have c8b1 : (t185 != 22) = false := bne_eq_false_iff_eq.mpr c8
     clear c8
     replace H := Option.bind_eq_some_iff.mp H
     obtain ⟨t186, A90, H⟩ := H
     (try dsimp only at H)
     have A9 := Aside0.mk A90
     clear A90
     by_cases c10 : t186 = true
     ·subst c10
      rw [if_pos rfl] at H
      replace H := Option.bind_eq_some_iff.mp H
      obtain ⟨t187, A110, H⟩ := H
      (try dsimp only at H)
      have A11 := Aside0.mk A110
      clear A110
      by_cases c12 : t187 = true
      ·subst c12
       rw [if_pos rfl] at H
       exact absurd ((Option.some.inj H).trans HT.out) (by decide)
      ·replace c12 := Bool.eq_false_iff.mpr c12
       subst c12
       rw [if_neg (show ¬ (false = true) by decide)] at H
       replace H := Option.bind_eq_some_iff.mp H
       obtain ⟨t188, A130, H⟩ := H
       (try dsimp only at H)
       have A13 := Aside0.mk A130
       clear A130
       by_cases c14 : t188 = true
       ·subst c14
        rw [if_pos rfl] at H
        exact absurd ((Option.some.inj H).trans HT.out) (by decide)
       ·replace c14 := Bool.eq_false_iff.mpr c14
        subst c14
        rw [if_neg (show ¬ (false = true) by decide)] at H
        replace H := Option.bind_eq_some_iff.mp H
        obtain ⟨t189, A150, H⟩ := H
        (try dsimp only at H)
        have A15 := Aside0.mk A150
        clear A150
        by_cases c16 : t189 = true
        ·subst c16
         rw [if_pos rfl] at H
         replace H := Option.bind_eq_some_iff.mp H
         obtain ⟨⟨t190, t191, t192, t193, t196, t197, t200⟩, A170, H⟩ := H
         (try dsimp only at H)
         have A17 := Aside0.mk A170
         clear A170
         replace H := Option.bind_eq_some_iff.mp H
         obtain ⟨t203, A180, H⟩ := H
         (try dsimp only at H)
         have A18 := Aside0.mk A180
         clear A180
         obtain rfl := Option.some.inj H
         go_enter Tryd.func6, Tryd.ntmps6
         try go_wp2_with (first | ((with_reducible refine gate_dst (N := 4) rfl ?_); (try (refine gate_guard (by rfl) ?_; dsimp only)); refine Kd.R_lit k31 _ 31 ?hg (N := 4) ?hd (xs := ([(⟨(⟨#[69, 120, 112, 101, 99, 116]⟩ : ByteArray), (⟨#[49, 48, 48, 45, 67, 111, 110, 116, 105, 110, 117, 101]⟩ : ByteArray)⟩ : S31)] : List (S31))) (inner := [.string (⟨#[69, 120, 112, 101, 99, 116]⟩ : ByteArray), .string (⟨#[49, 48, 48, 45, 67, 111, 110, 116, 105, 110, 117, 101]⟩ : ByteArray)]) (ok := fun _ => True) (okp := fun _ => True) ?hr ?hp (fun _ hk => hk) trivial (Below.refl _ _) (Nat.le_refl _) (by simp) ?_; (case hd => rfl); (case hg => rfl); (case hr => first | (go_simp; done) | (go_simp; rfl)); (case hp => exact (Reps.c2 (show Kd.M k31 _ _ _ (⟨(⟨#[69, 120, 112, 101, 99, 116]⟩ : ByteArray), (⟨#[49, 48, 48, 45, 67, 111, 110, 116, 105, 110, 117, 101]⟩ : ByteArray)⟩ : S31) [.string (⟨#[69, 120, 112, 101, 99, 116]⟩ : ByteArray), .string (⟨#[49, 48, 48, 45, 67, 111, 110, 116, 105, 110, 117, 101]⟩ : ByteArray)] from (k31_mkM _ _ _ (⟨(⟨#[69, 120, 112, 101, 99, 116]⟩ : ByteArray), (⟨#[49, 48, 48, 45, 67, 111, 110, 116, 105, 110, 117, 101]⟩ : ByteArray)⟩ : S31) )) (Reps.none _ _))); intro v172 w19 ho20 hb hg_ hnew_; clear hg_ hnew_; (first | rw [← Ny171.out] at ho20 | (simp only [Int.reduceToNat] at ho20; rw [← Ny171.out] at ho20)); have n0_ := Aside0.mk (Kd.R_lower ho20 (below_size Mark.h)); have n1_ := Aside0.mk (below_step Mark.h hb); clear HB; have HO173 := n0_; have HB := n1_; clear n0_ n1_; clear hb ho20; obtain ⟨Ao21, co21, eo21⟩ := Kd.R_slice HO173.out; subst eo21) | ((with_reducible refine gate_dst (N := 1) rfl ?_); (try (refine gate_guard (by rfl) ?_; dsimp only)); refine box_event ?hg (N := 1) ?hd (cs := #[.string (⟨#[]⟩ : ByteArray), .string (⟨#[]⟩ : ByteArray), .int .i64 0, .slice none 0 0, .bool false, .slice none 0 0, .slice none 0 0]) (t := 25) ?hr ?_; (case hd => rfl); (case hg => rfl); (case hr => first | (go_simp; done) | (go_simp; rfl)); intro gb174 hg w22 hbox hb; have n0_ := Aside0.mk (Kd.R_below (Mark.r HO173) hb); have n1_ := Aside0.mk (below_step Mark.h hb); have n2_ := Aside0.mk (hbox); have n3_ := Aside0.mk ((by rw [hg]; exact (below_size Mark.h) : w.heap.size ≤ gb174)); have n4_ := Aside0.mk ((by rw [hg]; exact (below_size Mark.h) : w.heap.size ≤ gb174)); clear HO173; clear HB; have HO173 := n0_; have HB := n1_; have BK174 := n2_; have GW174 := n3_; have GE174 := n4_; clear n0_ n1_ n2_ n3_ n4_; clear hb hbox hg; have hcz23_0 : w22.cell? ⟨gb174, 0, none⟩ = some (.string (⟨#[]⟩ : ByteArray)) := (blk_cell BK174.out 0).trans rfl; have hcz23_1 : w22.cell? ⟨gb174, 1, none⟩ = some (.string (⟨#[]⟩ : ByteArray)) := (blk_cell BK174.out 1).trans rfl; have hcz23_2 : w22.cell? ⟨gb174, 2, none⟩ = some (.int .i64 0) := (blk_cell BK174.out 2).trans rfl; have hcz23_3 : w22.cell? ⟨gb174, 3, none⟩ = some (.slice none 0 0) := (blk_cell BK174.out 3).trans rfl; have hcz23_4 : w22.cell? ⟨gb174, 4, none⟩ = some (.bool false) := (blk_cell BK174.out 4).trans rfl; have hcz23_5 : w22.cell? ⟨gb174, 5, none⟩ = some (.slice none 0 0) := (blk_cell BK174.out 5).trans rfl; have hcz23_6 : w22.cell? ⟨gb174, 6, none⟩ = some (.slice none 0 0) := (blk_cell BK174.out 6).trans rfl; have hfz23_0 := blk_frozen BK174.out 0; have hfz23_1 := blk_frozen BK174.out 1; have hfz23_2 := blk_frozen BK174.out 2; have hfz23_3 := blk_frozen BK174.out 3; have hfz23_4 := blk_frozen BK174.out 4; have hfz23_5 := blk_frozen BK174.out 5; have hfz23_6 := blk_frozen BK174.out 6) | ((with_reducible refine gate_dst (N := 2) rfl ?_); (try (refine gate_guard (by rfl) ?_; dsimp only)); refine box_event ?hg (N := 2) ?hd (cs := #[.string (⟨#[]⟩ : ByteArray), .string (⟨#[]⟩ : ByteArray), .int .i64 0, .slice none 0 0, .bool false, .slice none 0 0, .slice none 0 0]) (t := 25) ?hr ?_; (case hd => rfl); (case hg => rfl); (case hr => first | (go_simp; done) | (go_simp; rfl)); intro gb175 hg w24 hbox hb; have n0_ := Aside0.mk (Kd.R_below (by (with_reducible repeat (first | apply Kd.R_alloc | apply Kd.R_drewN | apply Kd.R_drew)); exact (Kd.R_mono (Kd.R_far (p := ⟨gb174, 6, none⟩) (Kd.R_far (p := ⟨gb174, 5, none⟩) (Kd.R_far (p := ⟨gb174, 4, none⟩) (Kd.R_far (p := ⟨gb174, 3, none⟩) (Kd.R_far (p := ⟨gb174, 2, none⟩) (Kd.R_far (p := ⟨gb174, 1, none⟩) (Kd.R_far (p := ⟨gb174, 0, none⟩) (Kd.R_types HO173.out BK174.out (by decide)) Mark.K (.string (⟨#[71, 69, 84]⟩ : ByteArray))) Mark.K (.string (⟨#[47]⟩ : ByteArray))) Mark.K (.int .i64 0)) Mark.K (.slice Ao21 y171.length co21)) Mark.K (.bool false)) Mark.K (.slice none 0 0)) Mark.K (.slice none 0 0)) (fun _ h_ => h_.1))) hb); have n1_ := Aside0.mk (blk_below (g := gb174) (o := .cells #[.string (⟨#[71, 69, 84]⟩ : ByteArray), .string (⟨#[47]⟩ : ByteArray), .int .i64 0, .slice Ao21 y171.length co21, .bool false, .slice none 0 0, .slice none 0 0] 25 (0, 0)) (by (with_reducible repeat (first | refine blk_drewN ?_ _ | refine blk_drew ?_ | refine blk_alloc ?_ _)); refine blk_put (cs := #[.string (⟨#[71, 69, 84]⟩ : ByteArray), .string (⟨#[47]⟩ : ByteArray), .int .i64 0, .slice Ao21 y171.length co21, .bool false, .slice none 0 0, .slice none 0 0]) ?_ 6 _ rfl; (with_reducible repeat (first | refine blk_drewN ?_ _ | refine blk_drew ?_ | refine blk_alloc ?_ _)); refine blk_put (cs := #[.string (⟨#[71, 69, 84]⟩ : ByteArray), .string (⟨#[47]⟩ : ByteArray), .int .i64 0, .slice Ao21 y171.length co21, .bool false, .slice none 0 0, .slice none 0 0]) ?_ 5 _ rfl; (with_reducible repeat (first | refine blk_drewN ?_ _ | refine blk_drew ?_ | refine blk_alloc ?_ _)); refine blk_put (cs := #[.string (⟨#[71, 69, 84]⟩ : ByteArray), .string (⟨#[47]⟩ : ByteArray), .int .i64 0, .slice Ao21 y171.length co21, .bool false, .slice none 0 0, .slice none 0 0]) ?_ 4 _ rfl; (with_reducible repeat (first | refine blk_drewN ?_ _ | refine blk_drew ?_ | refine blk_alloc ?_ _)); refine blk_put (cs := #[.string (⟨#[71, 69, 84]⟩ : ByteArray), .string (⟨#[47]⟩ : ByteArray), .int .i64 0, .slice none 0 0, .bool false, .slice none 0 0, .slice none 0 0]) ?_ 3 _ rfl; (with_reducible repeat (first | refine blk_drewN ?_ _ | refine blk_drew ?_ | refine blk_alloc ?_ _)); refine blk_put (cs := #[.string (⟨#[71, 69, 84]⟩ : ByteArray), .string (⟨#[47]⟩ : ByteArray), .int .i64 0, .slice none 0 0, .bool false, .slice none 0 0, .slice none 0 0]) ?_ 2 _ rfl; (with_reducible repeat (first | refine blk_drewN ?_ _ | refine blk_drew ?_ | refine blk_alloc ?_ _)); refine blk_put (cs := #[.string (⟨#[71, 69, 84]⟩ : ByteArray), .string (⟨#[]⟩ : ByteArray), .int .i64 0, .slice none 0 0, .bool false, .slice none 0 0, .slice none 0 0]) ?_ 1 _ rfl; (with_reducible repeat (first | refine blk_drewN ?_ _ | refine blk_drew ?_ | refine blk_alloc ?_ _)); refine blk_put (cs := #[.string (⟨#[]⟩ : ByteArray), .string (⟨#[]⟩ : ByteArray), .int .i64 0, .slice none 0 0, .bool false, .slice none 0 0, .slice none 0 0]) ?_ 0 _ rfl; (with_reducible repeat (first | refine blk_drewN ?_ _ | refine blk_drew ?_ | refine blk_alloc ?_ _)); exact BK174.out) hb); have n2_ := Aside0.mk (below_step Mark.h hb); have n3_ := Aside0.mk (hbox); have n4_ := Aside0.mk ((by rw [hg]; exact (below_size Mark.h) : w.heap.size ≤ gb175)); have n5_ := Aside0.mk ((by rw [hg]; exact (below_size Mark.h) : w.heap.size ≤ gb175)); have n6_ := Aside0.mk ((by rw [hg]; exact Nat.ne_of_lt (blk_lt (g := gb174) (o := .cells #[.string (⟨#[71, 69, 84]⟩ : ByteArray), .string (⟨#[47]⟩ : ByteArray), .int .i64 0, .slice Ao21 y171.length co21, .bool false, .slice none 0 0, .slice none 0 0] 25 (0, 0)) (by (with_reducible repeat (first | refine blk_drewN ?_ _ | refine blk_drew ?_ | refine blk_alloc ?_ _)); refine blk_put (cs := #[.string (⟨#[71, 69, 84]⟩ : ByteArray), .string (⟨#[47]⟩ : ByteArray), .int .i64 0, .slice Ao21 y171.length co21, .bool false, .slice none 0 0, .slice none 0 0]) ?_ 6 _ rfl; (with_reducible repeat (first | refine blk_drewN ?_ _ | refine blk_drew ?_ | refine blk_alloc ?_ _)); refine blk_put (cs := #[.string (⟨#[71, 69, 84]⟩ : ByteArray), .string (⟨#[47]⟩ : ByteArray), .int .i64 0, .slice Ao21 y171.length co21, .bool false, .slice none 0 0, .slice none 0 0]) ?_ 5 _ rfl; (with_reducible repeat (first | refine blk_drewN ?_ _ | refine blk_drew ?_ | refine blk_alloc ?_ _)); refine blk_put (cs := #[.string (⟨#[71, 69, 84]⟩ : ByteArray), .string (⟨#[47]⟩ : ByteArray), .int .i64 0, .slice Ao21 y171.length co21, .bool false, .slice none 0 0, .slice none 0 0]) ?_ 4 _ rfl; (with_reducible repeat (first | refine blk_drewN ?_ _ | refine blk_drew ?_ | refine blk_alloc ?_ _)); refine blk_put (cs := #[.string (⟨#[71, 69, 84]⟩ : ByteArray), .string (⟨#[47]⟩ : ByteArray), .int .i64 0, .slice none 0 0, .bool false, .slice none 0 0, .slice none 0 0]) ?_ 3 _ rfl; (with_reducible repeat (first | refine blk_drewN ?_ _ | refine blk_drew ?_ | refine blk_alloc ?_ _)); refine blk_put (cs := #[.string (⟨#[71, 69, 84]⟩ : ByteArray), .string (⟨#[47]⟩ : ByteArray), .int .i64 0, .slice none 0 0, .bool false, .slice none 0 0, .slice none 0 0]) ?_ 2 _ rfl; (with_reducible repeat (first | refine blk_drewN ?_ _ | refine blk_drew ?_ | refine blk_alloc ?_ _)); refine blk_put (cs := #[.string (⟨#[71, 69, 84]⟩ : ByteArray), .string (⟨#[]⟩ : ByteArray), .int .i64 0, .slice none 0 0, .bool false, .slice none 0 0, .slice none 0 0]) ?_ 1 _ rfl; (with_reducible repeat (first | refine blk_drewN ?_ _ | refine blk_drew ?_ | refine blk_alloc ?_ _)); refine blk_put (cs := #[.string (⟨#[]⟩ : ByteArray), .string (⟨#[]⟩ : ByteArray), .int .i64 0, .slice none 0 0, .bool false, .slice none 0 0, .slice none 0 0]) ?_ 0 _ rfl; (with_reducible repeat (first | refine blk_drewN ?_ _ | refine blk_drew ?_ | refine blk_alloc ?_ _)); exact BK174.out)) : gb174 ≠ gb175)); have n7_ := Aside0.mk ((by rw [hg]; exact Nat.ne_of_gt (blk_lt (g := gb174) (o := .cells #[.string (⟨#[71, 69, 84]⟩ : ByteArray), .string (⟨#[47]⟩ : ByteArray), .int .i64 0, .slice Ao21 y171.length co21, .bool false, .slice none 0 0, .slice none 0 0] 25 (0, 0)) (by (with_reducible repeat (first | refine blk_drewN ?_ _ | refine blk_drew ?_ | refine blk_alloc ?_ _)); refine blk_put (cs := #[.string (⟨#[71, 69, 84]⟩ : ByteArray), .string (⟨#[47]⟩ : ByteArray), .int .i64 0, .slice Ao21 y171.length co21, .bool false, .slice none 0 0, .slice none 0 0]) ?_ 6 _ rfl; (with_reducible repeat (first | refine blk_drewN ?_ _ | refine blk_drew ?_ | refine blk_alloc ?_ _)); refine blk_put (cs := #[.string (⟨#[71, 69, 84]⟩ : ByteArray), .string (⟨#[47]⟩ : ByteArray), .int .i64 0, .slice Ao21 y171.length co21, .bool false, .slice none 0 0, .slice none 0 0]) ?_ 5 _ rfl; (with_reducible repeat (first | refine blk_drewN ?_ _ | refine blk_drew ?_ | refine blk_alloc ?_ _)); refine blk_put (cs := #[.string (⟨#[71, 69, 84]⟩ : ByteArray), .string (⟨#[47]⟩ : ByteArray), .int .i64 0, .slice Ao21 y171.length co21, .bool false, .slice none 0 0, .slice none 0 0]) ?_ 4 _ rfl; (with_reducible repeat (first | refine blk_drewN ?_ _ | refine blk_drew ?_ | refine blk_alloc ?_ _)); refine blk_put (cs := #[.string (⟨#[71, 69, 84]⟩ : ByteArray), .string (⟨#[47]⟩ : ByteArray), .int .i64 0, .slice none 0 0, .bool false, .slice none 0 0, .slice none 0 0]) ?_ 3 _ rfl; (with_reducible repeat (first | refine blk_drewN ?_ _ | refine blk_drew ?_ | refine blk_alloc ?_ _)); refine blk_put (cs := #[.string (⟨#[71, 69, 84]⟩ : ByteArray), .string (⟨#[47]⟩ : ByteArray), .int .i64 0, .slice none 0 0, .bool false, .slice none 0 0, .slice none 0 0]) ?_ 2 _ rfl; (with_reducible repeat (first | refine blk_drewN ?_ _ | refine blk_drew ?_ | refine blk_alloc ?_ _)); refine blk_put (cs := #[.string (⟨#[71, 69, 84]⟩ : ByteArray), .string (⟨#[]⟩ : ByteArray), .int .i64 0, .slice none 0 0, .bool false, .slice none 0 0, .slice none 0 0]) ?_ 1 _ rfl; (with_reducible repeat (first | refine blk_drewN ?_ _ | refine blk_drew ?_ | refine blk_alloc ?_ _)); refine blk_put (cs := #[.string (⟨#[]⟩ : ByteArray), .string (⟨#[]⟩ : ByteArray), .int .i64 0, .slice none 0 0, .bool false, .slice none 0 0, .slice none 0 0]) ?_ 0 _ rfl; (with_reducible repeat (first | refine blk_drewN ?_ _ | refine blk_drew ?_ | refine blk_alloc ?_ _)); exact BK174.out)) : gb175 ≠ gb174)); clear HO173; clear BK174; clear HB; have HO173 := n0_; have BK174 := n1_; have HB := n2_; have BK175 := n3_; have GW175 := n4_; have GE175 := n5_; have NB174_175 := n6_; have NB175_174 := n7_; clear n0_ n1_ n2_ n3_ n4_ n5_ n6_ n7_; clear hb hbox hg; have hnb25 := NB175_174.out; have hnc25 := NB174_175.out; have hcz26_0 : w24.cell? ⟨gb175, 0, none⟩ = some (.string (⟨#[]⟩ : ByteArray)) := (blk_cell BK175.out 0).trans rfl; have hcz26_1 : w24.cell? ⟨gb175, 1, none⟩ = some (.string (⟨#[]⟩ : ByteArray)) := (blk_cell BK175.out 1).trans rfl; have hcz26_2 : w24.cell? ⟨gb175, 2, none⟩ = some (.int .i64 0) := (blk_cell BK175.out 2).trans rfl; have hcz26_3 : w24.cell? ⟨gb175, 3, none⟩ = some (.slice none 0 0) := (blk_cell BK175.out 3).trans rfl; have hcz26_4 : w24.cell? ⟨gb175, 4, none⟩ = some (.bool false) := (blk_cell BK175.out 4).trans rfl; have hcz26_5 : w24.cell? ⟨gb175, 5, none⟩ = some (.slice none 0 0) := (blk_cell BK175.out 5).trans rfl; have hcz26_6 : w24.cell? ⟨gb175, 6, none⟩ = some (.slice none 0 0) := (blk_cell BK175.out 6).trans rfl; have hfz26_0 := blk_frozen BK175.out 0; have hfz26_1 := blk_frozen BK175.out 1; have hfz26_2 := blk_frozen BK175.out 2; have hfz26_3 := blk_frozen BK175.out 3; have hfz26_4 := blk_frozen BK175.out 4; have hfz26_5 := blk_frozen BK175.out 5; have hfz26_6 := blk_frozen BK175.out 6))
         have n0_ : Aside0 (Kd.R k31 31 ((((((((w24.setCell ⟨gb175, 0, none⟩ (.string (⟨#[71, 69, 84]⟩ : ByteArray))).setCell ⟨gb175, 1, none⟩ (.string (⟨#[47]⟩ : ByteArray))).setCell ⟨gb175, 2, none⟩ (.int .i64 0)).setCell ⟨gb175, 3, none⟩ (.slice Ao21 y171.length co21)).setCell ⟨gb175, 4, none⟩ (.bool false)).setCell ⟨gb175, 5, none⟩ (.slice none 0 0)).setCell ⟨gb175, 6, none⟩ (.slice none 0 0)).setCell ⟨gb175, 2, none⟩ (.int .i64 1)) w.heap.size (fun _ => True) (.slice Ao21 y171.length co21) y171) := ⟨by (with_reducible repeat (first | apply Kd.R_alloc | apply Kd.R_drewN | apply Kd.R_drew)); exact Kd.R_mono (Kd.R_far (p := ⟨gb175, 2, none⟩) (Kd.R_far (p := ⟨gb175, 6, none⟩) (Kd.R_far (p := ⟨gb175, 5, none⟩) (Kd.R_far (p := ⟨gb175, 4, none⟩) (Kd.R_far (p := ⟨gb175, 3, none⟩) (Kd.R_far (p := ⟨gb175, 2, none⟩) (Kd.R_far (p := ⟨gb175, 1, none⟩) (Kd.R_far (p := ⟨gb175, 0, none⟩) (Kd.R_types HO173.out BK175.out (by decide)) Mark.K (.string (⟨#[71, 69, 84]⟩ : ByteArray))) Mark.K (.string (⟨#[47]⟩ : ByteArray))) Mark.K (.int .i64 0)) Mark.K (.slice Ao21 y171.length co21)) Mark.K (.bool false)) Mark.K (.slice none 0 0)) Mark.K (.slice none 0 0)) Mark.K (.int .i64 1)) (fun _ hk => trivial)⟩
         have n1_ : Aside0 (((((((((w24.setCell ⟨gb175, 0, none⟩ (.string (⟨#[71, 69, 84]⟩ : ByteArray))).setCell ⟨gb175, 1, none⟩ (.string (⟨#[47]⟩ : ByteArray))).setCell ⟨gb175, 2, none⟩ (.int .i64 0)).setCell ⟨gb175, 3, none⟩ (.slice Ao21 y171.length co21)).setCell ⟨gb175, 4, none⟩ (.bool false)).setCell ⟨gb175, 5, none⟩ (.slice none 0 0)).setCell ⟨gb175, 6, none⟩ (.slice none 0 0)).setCell ⟨gb175, 2, none⟩ (.int .i64 1)).heap[gb174]? = some (.cells #[.string (⟨#[71, 69, 84]⟩ : ByteArray), .string (⟨#[47]⟩ : ByteArray), .int .i64 0, .slice Ao21 y171.length co21, .bool false, .slice none 0 0, .slice none 0 0] 25 (0, 0))) := ⟨by (repeat ((with_reducible repeat (first | refine blk_drewN ?_ _ | refine blk_drew ?_ | refine blk_alloc ?_ _)); refine blk_far ?_ NB174_175.out _)); (with_reducible repeat (first | refine blk_drewN ?_ _ | refine blk_drew ?_ | refine blk_alloc ?_ _)); exact BK174.out⟩
         have n2_ : Aside0 (((((((((w24.setCell ⟨gb175, 0, none⟩ (.string (⟨#[71, 69, 84]⟩ : ByteArray))).setCell ⟨gb175, 1, none⟩ (.string (⟨#[47]⟩ : ByteArray))).setCell ⟨gb175, 2, none⟩ (.int .i64 0)).setCell ⟨gb175, 3, none⟩ (.slice Ao21 y171.length co21)).setCell ⟨gb175, 4, none⟩ (.bool false)).setCell ⟨gb175, 5, none⟩ (.slice none 0 0)).setCell ⟨gb175, 6, none⟩ (.slice none 0 0)).setCell ⟨gb175, 2, none⟩ (.int .i64 1)).heap[gb175]? = some (.cells #[.string (⟨#[71, 69, 84]⟩ : ByteArray), .string (⟨#[47]⟩ : ByteArray), .int .i64 1, .slice Ao21 y171.length co21, .bool false, .slice none 0 0, .slice none 0 0] 25 (0, 0))) := ⟨by (with_reducible repeat (first | refine blk_drewN ?_ _ | refine blk_drew ?_ | refine blk_alloc ?_ _)); refine blk_put (cs := #[.string (⟨#[71, 69, 84]⟩ : ByteArray), .string (⟨#[47]⟩ : ByteArray), .int .i64 0, .slice Ao21 y171.length co21, .bool false, .slice none 0 0, .slice none 0 0]) ?_ 2 _ rfl; (with_reducible repeat (first | refine blk_drewN ?_ _ | refine blk_drew ?_ | refine blk_alloc ?_ _)); refine blk_put (cs := #[.string (⟨#[71, 69, 84]⟩ : ByteArray), .string (⟨#[47]⟩ : ByteArray), .int .i64 0, .slice Ao21 y171.length co21, .bool false, .slice none 0 0, .slice none 0 0]) ?_ 6 _ rfl; (with_reducible repeat (first | refine blk_drewN ?_ _ | refine blk_drew ?_ | refine blk_alloc ?_ _)); refine blk_put (cs := #[.string (⟨#[71, 69, 84]⟩ : ByteArray), .string (⟨#[47]⟩ : ByteArray), .int .i64 0, .slice Ao21 y171.length co21, .bool false, .slice none 0 0, .slice none 0 0]) ?_ 5 _ rfl; (with_reducible repeat (first | refine blk_drewN ?_ _ | refine blk_drew ?_ | refine blk_alloc ?_ _)); refine blk_put (cs := #[.string (⟨#[71, 69, 84]⟩ : ByteArray), .string (⟨#[47]⟩ : ByteArray), .int .i64 0, .slice Ao21 y171.length co21, .bool false, .slice none 0 0, .slice none 0 0]) ?_ 4 _ rfl; (with_reducible repeat (first | refine blk_drewN ?_ _ | refine blk_drew ?_ | refine blk_alloc ?_ _)); refine blk_put (cs := #[.string (⟨#[71, 69, 84]⟩ : ByteArray), .string (⟨#[47]⟩ : ByteArray), .int .i64 0, .slice none 0 0, .bool false, .slice none 0 0, .slice none 0 0]) ?_ 3 _ rfl; (with_reducible repeat (first | refine blk_drewN ?_ _ | refine blk_drew ?_ | refine blk_alloc ?_ _)); refine blk_put (cs := #[.string (⟨#[71, 69, 84]⟩ : ByteArray), .string (⟨#[47]⟩ : ByteArray), .int .i64 0, .slice none 0 0, .bool false, .slice none 0 0, .slice none 0 0]) ?_ 2 _ rfl; (with_reducible repeat (first | refine blk_drewN ?_ _ | refine blk_drew ?_ | refine blk_alloc ?_ _)); refine blk_put (cs := #[.string (⟨#[71, 69, 84]⟩ : ByteArray), .string (⟨#[]⟩ : ByteArray), .int .i64 0, .slice none 0 0, .bool false, .slice none 0 0, .slice none 0 0]) ?_ 1 _ rfl; (with_reducible repeat (first | refine blk_drewN ?_ _ | refine blk_drew ?_ | refine blk_alloc ?_ _)); refine blk_put (cs := #[.string (⟨#[]⟩ : ByteArray), .string (⟨#[]⟩ : ByteArray), .int .i64 0, .slice none 0 0, .bool false, .slice none 0 0, .slice none 0 0]) ?_ 0 _ rfl; (with_reducible repeat (first | refine blk_drewN ?_ _ | refine blk_drew ?_ | refine blk_alloc ?_ _)); exact BK175.out⟩
         have n3_ : Aside0 (Below w.heap.size w ((((((((w24.setCell ⟨gb175, 0, none⟩ (.string (⟨#[71, 69, 84]⟩ : ByteArray))).setCell ⟨gb175, 1, none⟩ (.string (⟨#[47]⟩ : ByteArray))).setCell ⟨gb175, 2, none⟩ (.int .i64 0)).setCell ⟨gb175, 3, none⟩ (.slice Ao21 y171.length co21)).setCell ⟨gb175, 4, none⟩ (.bool false)).setCell ⟨gb175, 5, none⟩ (.slice none 0 0)).setCell ⟨gb175, 6, none⟩ (.slice none 0 0)).setCell ⟨gb175, 2, none⟩ (.int .i64 1))) := ⟨Mark.h⟩
         (try clear HO173)
         (try clear BK174)
         (try clear BK175)
         (try clear HB)
         generalize ((((((((w24.setCell ⟨gb175, 0, none⟩ (.string (⟨#[71, 69, 84]⟩ : ByteArray))).setCell ⟨gb175, 1, none⟩ (.string (⟨#[47]⟩ : ByteArray))).setCell ⟨gb175, 2, none⟩ (.int .i64 0)).setCell ⟨gb175, 3, none⟩ (.slice Ao21 y171.length co21)).setCell ⟨gb175, 4, none⟩ (.bool false)).setCell ⟨gb175, 5, none⟩ (.slice none 0 0)).setCell ⟨gb175, 6, none⟩ (.slice none 0 0)).setCell ⟨gb175, 2, none⟩ (.int .i64 1)) = w27 at n0_ n1_ n2_ n3_ ⊢
         have HO173 := n0_
         have BK174 := n1_
         have BK175 := n2_
         have HB := n3_
         clear n0_ n1_ n2_ n3_
         have n0_ := Aside0.mk (Kd.R_drew HO173.out)
         have n1_ := Aside0.mk (blk_drew BK174.out)
         have n2_ := Aside0.mk (blk_drew BK175.out)
         have n3_ := Aside0.mk (below_drew1 HB.out)
         clear HO173
         clear BK174
         clear BK175
         clear HB
         have HO173 := n0_
         have BK174 := n1_
         have BK175 := n2_
         have HB := n3_
         clear n0_ n1_ n2_ n3_
         refine start_ (n := 46) (S := fun w' => True) (ds := []) #[false, false, false, false, false, false, false, false, false, false, false, false, false, false, false, false, false, false, false, false, false, false, false, false, false, false, false, false, false, false, false, false, false, false, false, false, false, false, false, false, false, false, false, false, false, false] (by kernel_rfl) rfl rfl trivial (fun hHeld => ?_); refine with_tabW parallaxlaw12_known.tab4 parallaxlaw12_known.bits4 (fun HT_ HW_ => ?_)
         generalize w27.drew = w28 at HO173 BK174 BK175 HB hHeld ⊢
         refine inv_at [0, 1, 2, 3, 4, 5, 6, 7, 8, 9, 10, 11, 12, 13, 14, 15, 16, 17, 18, 19, 20, 21, 22, 23, 24, 25, 26, 27, 28, 29, 30, 31, 32, 33, 34, 35, 36, 37, 38, 39, 40, 41, 42, 43, 44, 45] (fun a0_ b a w' => ∃ (v179 : Value) (v182 : Value) (v194 : Value) (v198 : Value) (v201 : Value) (m41_ : Value), a = putSel a0_ b [(0, 8, .agg #[.string (⟨#[71, 69, 84]⟩ : ByteArray), .string (⟨#[47]⟩ : ByteArray), .int .i64 0, .slice Ao21 y171.length co21, .bool false, .slice none 0 0, .slice none 0 0]), (1, 9, .agg #[.string (⟨#[71, 69, 84]⟩ : ByteArray), .string (⟨#[47]⟩ : ByteArray), .int .i64 0, .slice Ao21 y171.length co21, .bool false, .slice none 0 0, .slice none 0 0]), (2, 10, .bool true), (3, 11, .bool true), (4, 12, .agg #[.string (⟨#[71, 69, 84]⟩ : ByteArray), .string (⟨#[47]⟩ : ByteArray), .int .i64 0, .slice Ao21 y171.length co21, .bool false, .slice none 0 0, .slice none 0 0]), (5, 13, .agg #[.string (⟨#[71, 69, 84]⟩ : ByteArray), .string (⟨#[47]⟩ : ByteArray), .int .i64 1, .slice Ao21 y171.length co21, .bool false, .slice none 0 0, .slice none 0 0]), (6, 14, .bool false), (7, 15, .bool (!false)), (8, 16, .bool (!false)), (9, 17, .bool (!false)), (10, 18, .agg #[.string (⟨#[71, 69, 84]⟩ : ByteArray), .string (⟨#[47]⟩ : ByteArray), .int .i64 0, .slice Ao21 y171.length co21, .bool false, .slice none 0 0, .slice none 0 0]), (11, 19, v179), (12, 20, .agg #[.string (⟨#[71, 69, 84]⟩ : ByteArray), .string (⟨#[47]⟩ : ByteArray), .int .i64 0, .slice Ao21 y171.length co21, .bool false, .slice none 0 0, .slice none 0 0]), (13, 21, v182), (14, 22, .bool true), (15, 23, .bool true), (16, 24, .bool true), (17, 25, .agg #[.string (⟨#[71, 69, 84]⟩ : ByteArray), .string (⟨#[47]⟩ : ByteArray), .int .i64 0, .slice Ao21 y171.length co21, .bool false, .slice none 0 0, .slice none 0 0]), (18, 26, .int .i64 t185), (19, 27, .bool (t185 == 22)), (20, 28, .bool (t185 == 22)), (21, 29, .bool (t185 == 22)), (22, 30, .agg #[.string (⟨#[71, 69, 84]⟩ : ByteArray), .string (⟨#[47]⟩ : ByteArray), .int .i64 0, .slice Ao21 y171.length co21, .bool false, .slice none 0 0, .slice none 0 0]), (23, 31, .bool true), (24, 32, .bool true), (25, 33, .bool true), (26, 34, .agg #[.string (⟨#[71, 69, 84]⟩ : ByteArray), .string (⟨#[47]⟩ : ByteArray), .int .i64 1, .slice Ao21 y171.length co21, .bool false, .slice none 0 0, .slice none 0 0]), (27, 35, .bool false), (28, 36, .bool (!false)), (29, 37, .bool (!false)), (30, 38, .bool (!false)), (31, 39, .agg #[.string (⟨#[71, 69, 84]⟩ : ByteArray), .string (⟨#[47]⟩ : ByteArray), .int .i64 0, .slice Ao21 y171.length co21, .bool false, .slice none 0 0, .slice none 0 0]), (32, 40, .bool false), (33, 41, .bool (!false)), (34, 42, .bool (!false)), (35, 43, .bool (!false)), (36, 44, .agg #[.string (⟨#[71, 69, 84]⟩ : ByteArray), .string (⟨#[47]⟩ : ByteArray), .int .i64 1, .slice Ao21 y171.length co21, .bool false, .slice none 0 0, .slice none 0 0]), (37, 45, .bool true), (38, 46, .bool true), (39, 47, .bool true), (40, 48, .agg #[.string (⟨#[71, 69, 84]⟩ : ByteArray), .string (⟨#[47]⟩ : ByteArray), .int .i64 1, .slice Ao21 y171.length co21, .bool false, .slice none 0 0, .slice none 0 0]), (41, 49, m41_), (42, 50, .agg #[.string (⟨#[71, 69, 84]⟩ : ByteArray), .string (⟨#[47]⟩ : ByteArray), .int .i64 1, .slice Ao21 y171.length co21, .bool false, .slice none 0 0, .slice none 0 0]), (43, 51, .bool t203), (44, 52, .bool t203), (45, 0, .bool t203)] ∧ (Kd.R k31 31 w' w.heap.size (fun _ => True) (.slice Ao21 y171.length co21) y171) ∧ (w'.heap[gb174]? = some (.cells #[.string (⟨#[71, 69, 84]⟩ : ByteArray), .string (⟨#[47]⟩ : ByteArray), .int .i64 0, .slice Ao21 y171.length co21, .bool false, .slice none 0 0, .slice none 0 0] 25 (0, 0))) ∧ (w'.heap[gb175]? = some (.cells #[.string (⟨#[71, 69, 84]⟩ : ByteArray), .string (⟨#[47]⟩ : ByteArray), .int .i64 1, .slice Ao21 y171.length co21, .bool false, .slice none 0 0, .slice none 0 0] 25 (0, 0))) ∧ (Below w.heap.size w w') ∧ (b 11 = true → Kd.N k25 25 w' w.heap.size (fun k_ => k_ ≠ gb174 ∧ k_ ≠ gb175) v179 y178) ∧ (b 13 = true → Kd.N k25 25 w' w.heap.size (fun k_ => k_ ≠ gb174 ∧ k_ ≠ gb175) v182 y181) ∧ (b 41 = true → Kd.R k31 31 w' w.heap.size (fun k_ => some k_ ≠ (.slice Ao21 y171.length co21 : Value).ownBlock) v194 t193) ∧ (b 41 = true → Kd.R (Kd.int .u8) 5 w' w.heap.size (fun _ => True) v198 t197) ∧ (b 41 = true → Kd.R k31 31 w' w.heap.size (fun k_ => some k_ ≠ (.slice Ao21 y171.length co21 : Value).ownBlock) v201 t200) ∧ (b 41 = true → (m41_ : Value) = .agg #[.string t190, .string t191, .int .i64 t192, v194, .bool t196, v198, v201])) HT_.out HW_.out (by kernel_rfl) (by kernel_rfl) ?_ ?_ ?_
         ·exact ⟨.bool false, .bool false, .bool false, .bool false, .bool false, .bool false, by simp only [putSel, Bool.false_eq_true, if_false], HO173.out, BK174.out, BK175.out, HB.out, fun h_ => absurd h_ (by decide), fun h_ => absurd h_ (by decide), fun h_ => absurd h_ (by decide), fun h_ => absurd h_ (by decide), fun h_ => absurd h_ (by decide), fun h_ => absurd h_ (by decide)⟩
         ·skip
          clear BK174 BK175 HB HO173
          refine steps_cons ?_ ?_
          ·rintro b a w' ⟨v179, v182, v194, v198, v201, m41_, ha, Q_HO173, Q_BK174, Q_BK175, Q_HB, Q_HO180, Q_HO183, Q_HO195, Q_HO199, Q_HO202, Q_X41_⟩ hb_ hon hoff
           refine ⟨_, rfl, fun K hK => ?_⟩
           have e1 : a.tmps[1]? = some (.pointer (some ⟨gb174, 0, none⟩)) := by rw [ha]; exact (putSel_off rfl).trans rfl
           replace ha := Aside0.mk ha
           have HO173 := Aside0.mk Q_HO173
           have BK174 := Aside0.mk Q_BK174
           have BK175 := Aside0.mk Q_BK175
           have HB := Aside0.mk Q_HB
           have hc0_ : w'.cell? ⟨gb174, 0, none⟩ = some (.string (⟨#[71, 69, 84]⟩ : ByteArray)) := (blk_cell BK174.out 0).trans rfl
           have hc1_ : w'.cell? ⟨gb174, 1, none⟩ = some (.string (⟨#[47]⟩ : ByteArray)) := (blk_cell BK174.out 1).trans rfl
           have hc2_ : w'.cell? ⟨gb174, 2, none⟩ = some (.int .i64 0) := (blk_cell BK174.out 2).trans rfl
           have hc3_ : w'.cell? ⟨gb174, 3, none⟩ = some (.slice Ao21 y171.length co21) := (blk_cell BK174.out 3).trans rfl
           have hc4_ : w'.cell? ⟨gb174, 4, none⟩ = some (.bool false) := (blk_cell BK174.out 4).trans rfl
           have hc5_ : w'.cell? ⟨gb174, 5, none⟩ = some (.slice none 0 0) := (blk_cell BK174.out 5).trans rfl
           have hc6_ : w'.cell? ⟨gb174, 6, none⟩ = some (.slice none 0 0) := (blk_cell BK174.out 6).trans rfl
           refine value_ (w1 := w') (v := .agg #[.string (⟨#[71, 69, 84]⟩ : ByteArray), .string (⟨#[47]⟩ : ByteArray), .int .i64 0, .slice Ao21 y171.length co21, .bool false, .slice none 0 0, .slice none 0 0]) (by rfl) rfl ?_ ?_
           ·go_simp
            (try simp only [i64_w])
            try rfl
           refine hK.out _ _ ⟨v179, v182, v194, v198, v201, m41_, (by rw [ha.out]; exact putSel_upk 0 hb_ rfl rfl rfl), Q_HO173, Q_BK174, Q_BK175, Q_HB, Mark.x (hoff 11 (by kernel_rfl)), Mark.x (hoff 13 (by kernel_rfl)), Mark.x (hoff 41 (by kernel_rfl)), Mark.x (hoff 41 (by kernel_rfl)), Mark.x (hoff 41 (by kernel_rfl)), Mark.x (hoff 41 (by kernel_rfl))⟩
          refine steps_cons ?_ ?_
          ·rintro b a w' ⟨v179, v182, v194, v198, v201, m41_, ha, Q_HO173, Q_BK174, Q_BK175, Q_HB, Q_HO180, Q_HO183, Q_HO195, Q_HO199, Q_HO202, Q_X41_⟩ hb_ hon hoff
           refine ⟨_, rfl, fun K hK => ?_⟩
           have e1 : a.tmps[1]? = some (.pointer (some ⟨gb174, 0, none⟩)) := by rw [ha]; exact (putSel_off rfl).trans rfl
           replace ha := Aside0.mk ha
           have HO173 := Aside0.mk Q_HO173
           have BK174 := Aside0.mk Q_BK174
           have BK175 := Aside0.mk Q_BK175
           have HB := Aside0.mk Q_HB
           have hc0_ : w'.cell? ⟨gb174, 0, none⟩ = some (.string (⟨#[71, 69, 84]⟩ : ByteArray)) := (blk_cell BK174.out 0).trans rfl
           have hc1_ : w'.cell? ⟨gb174, 1, none⟩ = some (.string (⟨#[47]⟩ : ByteArray)) := (blk_cell BK174.out 1).trans rfl
           have hc2_ : w'.cell? ⟨gb174, 2, none⟩ = some (.int .i64 0) := (blk_cell BK174.out 2).trans rfl
           have hc3_ : w'.cell? ⟨gb174, 3, none⟩ = some (.slice Ao21 y171.length co21) := (blk_cell BK174.out 3).trans rfl
           have hc4_ : w'.cell? ⟨gb174, 4, none⟩ = some (.bool false) := (blk_cell BK174.out 4).trans rfl
           have hc5_ : w'.cell? ⟨gb174, 5, none⟩ = some (.slice none 0 0) := (blk_cell BK174.out 5).trans rfl
           have hc6_ : w'.cell? ⟨gb174, 6, none⟩ = some (.slice none 0 0) := (blk_cell BK174.out 6).trans rfl
           refine value_ (w1 := w') (v := .agg #[.string (⟨#[71, 69, 84]⟩ : ByteArray), .string (⟨#[47]⟩ : ByteArray), .int .i64 0, .slice Ao21 y171.length co21, .bool false, .slice none 0 0, .slice none 0 0]) (by rfl) rfl ?_ ?_
           ·go_simp
            (try simp only [i64_w])
            try rfl
           refine hK.out _ _ ⟨v179, v182, v194, v198, v201, m41_, (by rw [ha.out]; exact putSel_upk 1 hb_ rfl rfl rfl), Q_HO173, Q_BK174, Q_BK175, Q_HB, Mark.x (hoff 11 (by kernel_rfl)), Mark.x (hoff 13 (by kernel_rfl)), Mark.x (hoff 41 (by kernel_rfl)), Mark.x (hoff 41 (by kernel_rfl)), Mark.x (hoff 41 (by kernel_rfl)), Mark.x (hoff 41 (by kernel_rfl))⟩
          refine steps_cons ?_ ?_
          ·rintro b a w' ⟨v179, v182, v194, v198, v201, m41_, ha, Q_HO173, Q_BK174, Q_BK175, Q_HB, Q_HO180, Q_HO183, Q_HO195, Q_HO199, Q_HO202, Q_X41_⟩ hb_ hon hoff
           refine ⟨_, rfl, fun K hK => ?_⟩
           have e8 : a.tmps[8]? = some (.agg #[.string (⟨#[71, 69, 84]⟩ : ByteArray), .string (⟨#[47]⟩ : ByteArray), .int .i64 0, .slice Ao21 y171.length co21, .bool false, .slice none 0 0, .slice none 0 0]) := by rw [ha]; exact putSel_on (e := (0, 8, .agg #[.string (⟨#[71, 69, 84]⟩ : ByteArray), .string (⟨#[47]⟩ : ByteArray), .int .i64 0, .slice Ao21 y171.length co21, .bool false, .slice none 0 0, .slice none 0 0])) 0 rfl rfl (hon 0 (by kernel_rfl)) rfl
           have e9 : a.tmps[9]? = some (.agg #[.string (⟨#[71, 69, 84]⟩ : ByteArray), .string (⟨#[47]⟩ : ByteArray), .int .i64 0, .slice Ao21 y171.length co21, .bool false, .slice none 0 0, .slice none 0 0]) := by rw [ha]; exact putSel_on (e := (1, 9, .agg #[.string (⟨#[71, 69, 84]⟩ : ByteArray), .string (⟨#[47]⟩ : ByteArray), .int .i64 0, .slice Ao21 y171.length co21, .bool false, .slice none 0 0, .slice none 0 0])) 1 rfl rfl (hon 1 (by kernel_rfl)) rfl
           replace ha := Aside0.mk ha
           have HO173 := Aside0.mk Q_HO173
           have BK174 := Aside0.mk Q_BK174
           have BK175 := Aside0.mk Q_BK175
           have HB := Aside0.mk Q_HB
           refine goes_ Tryd.func10 (by kernel_rfl) rfl #[.agg #[.string (⟨#[71, 69, 84]⟩ : ByteArray), .string (⟨#[47]⟩ : ByteArray), .int .i64 0, .slice Ao21 y171.length co21, .bool false, .slice none 0 0, .slice none 0 0], .agg #[.string (⟨#[71, 69, 84]⟩ : ByteArray), .string (⟨#[47]⟩ : ByteArray), .int .i64 0, .slice Ao21 y171.length co21, .bool false, .slice none 0 0, .slice none 0 0]] (by rfl) rfl rfl (by simp only [List.map_toArray, List.map_cons, List.map_nil, Act.eval, Array.getD_eq_getD_getElem?, Option.getD_some, e8, e9] <;> rfl) ?_
           refine (record_Same.calls k (⟨#[71, 69, 84]⟩ : ByteArray) (⟨#[47]⟩ : ByteArray) 0 _ _ y171 false _ _ ([] : List Int) _ _ ([] : List (S31)) (⟨#[71, 69, 84]⟩ : ByteArray) (⟨#[47]⟩ : ByteArray) 0 _ _ y171 false _ _ ([] : List Int) _ _ ([] : List (S31)) true _ ?side1 ?side2 ?side3 ?side4 ?side5 ?side6 ?side7 ?side8 ?side9 ?side10 ?side11 ?side12 A1.out).mono ?_
           (case side1 => repeat (first | exact (Kd.R_reads' HO173.out).2.2 | (with_reducible refine Kd.C_alloc ?_ _) | (with_reducible refine Kd.C_drewN ?_ _) | (with_reducible refine Kd.C_drew ?_)))
           (case side2 => exact (Kd.R_reads' HO173.out).2.1)
           (case side3 => exact Kd.C_nil _ _)
           (case side4 => exact Nat.le_refl _)
           (case side5 => exact Kd.C_nil _ _)
           (case side6 => exact Nat.le_refl _)
           (case side7 => repeat (first | exact (Kd.R_reads' HO173.out).2.2 | (with_reducible refine Kd.C_alloc ?_ _) | (with_reducible refine Kd.C_drewN ?_ _) | (with_reducible refine Kd.C_drew ?_)))
           (case side8 => exact (Kd.R_reads' HO173.out).2.1)
           (case side9 => exact Kd.C_nil _ _)
           (case side10 => exact Nat.le_refl _)
           (case side11 => exact Kd.C_nil _ _)
           (case side12 => exact Nat.le_refl _)
           rintro e w29 ⟨rfl, hb⟩
           refine ⟨_, rfl, ?_⟩
           have n0_ := Aside0.mk (Kd.R_below (Mark.r HO173) hb)
           have n1_ := Aside0.mk (blk_below (g := gb174) (o := .cells #[.string (⟨#[71, 69, 84]⟩ : ByteArray), .string (⟨#[47]⟩ : ByteArray), .int .i64 0, .slice Ao21 y171.length co21, .bool false, .slice none 0 0, .slice none 0 0] 25 (0, 0)) (Mark.b BK174) hb)
           have n2_ := Aside0.mk (blk_below (g := gb175) (o := .cells #[.string (⟨#[71, 69, 84]⟩ : ByteArray), .string (⟨#[47]⟩ : ByteArray), .int .i64 1, .slice Ao21 y171.length co21, .bool false, .slice none 0 0, .slice none 0 0] 25 (0, 0)) (Mark.b BK175) hb)
           have n3_ := Aside0.mk (below_step Mark.h hb)
           clear HO173
           clear BK174
           clear BK175
           clear HB
           have HO173 := n0_
           have BK174 := n1_
           have BK175 := n2_
           have HB := n3_
           clear n0_ n1_ n2_ n3_
           (try clear hb)
           (try clear hb2)
           (try clear hk)
           (try clear hi)
           refine hK.out _ _ ⟨v179, v182, v194, v198, v201, m41_, (by rw [ha.out]; exact putSel_upk 2 hb_ rfl rfl rfl), (Mark.r HO173), (Mark.b BK174), (Mark.b BK175), Mark.h, Mark.x (hoff 11 (by kernel_rfl)), Mark.x (hoff 13 (by kernel_rfl)), Mark.x (hoff 41 (by kernel_rfl)), Mark.x (hoff 41 (by kernel_rfl)), Mark.x (hoff 41 (by kernel_rfl)), Mark.x (hoff 41 (by kernel_rfl))⟩
          refine steps_cons ?_ ?_
          ·rintro b a w' ⟨v179, v182, v194, v198, v201, m41_, ha, Q_HO173, Q_BK174, Q_BK175, Q_HB, Q_HO180, Q_HO183, Q_HO195, Q_HO199, Q_HO202, Q_X41_⟩ hb_ hon hoff
           refine ⟨_, rfl, fun K hK => ?_⟩
           have e10 : a.tmps[10]? = some (.bool true) := by rw [ha]; exact putSel_on (e := (2, 10, .bool true)) 2 rfl rfl (hon 2 (by kernel_rfl)) rfl
           replace ha := Aside0.mk ha
           have HO173 := Aside0.mk Q_HO173
           have BK174 := Aside0.mk Q_BK174
           have BK175 := Aside0.mk Q_BK175
           have HB := Aside0.mk Q_HB
           refine value_ (w1 := w') (v := .bool true) (by rfl) rfl ?_ ?_
           ·go_simp
            (try simp only [i64_w])
            try rfl
           refine hK.out _ _ ⟨v179, v182, v194, v198, v201, m41_, (by rw [ha.out]; exact putSel_upk 3 hb_ rfl rfl rfl), Q_HO173, Q_BK174, Q_BK175, Q_HB, Mark.x (hoff 11 (by kernel_rfl)), Mark.x (hoff 13 (by kernel_rfl)), Mark.x (hoff 41 (by kernel_rfl)), Mark.x (hoff 41 (by kernel_rfl)), Mark.x (hoff 41 (by kernel_rfl)), Mark.x (hoff 41 (by kernel_rfl))⟩
          refine steps_cons ?_ ?_
          ·rintro b a w' ⟨v179, v182, v194, v198, v201, m41_, ha, Q_HO173, Q_BK174, Q_BK175, Q_HB, Q_HO180, Q_HO183, Q_HO195, Q_HO199, Q_HO202, Q_X41_⟩ hb_ hon hoff
           refine ⟨_, rfl, fun K hK => ?_⟩
           have e1 : a.tmps[1]? = some (.pointer (some ⟨gb174, 0, none⟩)) := by rw [ha]; exact (putSel_off rfl).trans rfl
           have e11 : a.tmps[11]? = some (.bool true) := by rw [ha]; exact putSel_on (e := (3, 11, .bool true)) 3 rfl rfl (hon 3 (by kernel_rfl)) rfl
           replace ha := Aside0.mk ha
           have HO173 := Aside0.mk Q_HO173
           have BK174 := Aside0.mk Q_BK174
           have BK175 := Aside0.mk Q_BK175
           have HB := Aside0.mk Q_HB
           have hc0_ : w'.cell? ⟨gb174, 0, none⟩ = some (.string (⟨#[71, 69, 84]⟩ : ByteArray)) := (blk_cell BK174.out 0).trans rfl
           have hc1_ : w'.cell? ⟨gb174, 1, none⟩ = some (.string (⟨#[47]⟩ : ByteArray)) := (blk_cell BK174.out 1).trans rfl
           have hc2_ : w'.cell? ⟨gb174, 2, none⟩ = some (.int .i64 0) := (blk_cell BK174.out 2).trans rfl
           have hc3_ : w'.cell? ⟨gb174, 3, none⟩ = some (.slice Ao21 y171.length co21) := (blk_cell BK174.out 3).trans rfl
           have hc4_ : w'.cell? ⟨gb174, 4, none⟩ = some (.bool false) := (blk_cell BK174.out 4).trans rfl
           have hc5_ : w'.cell? ⟨gb174, 5, none⟩ = some (.slice none 0 0) := (blk_cell BK174.out 5).trans rfl
           have hc6_ : w'.cell? ⟨gb174, 6, none⟩ = some (.slice none 0 0) := (blk_cell BK174.out 6).trans rfl
           refine value_ (w1 := w') (v := .agg #[.string (⟨#[71, 69, 84]⟩ : ByteArray), .string (⟨#[47]⟩ : ByteArray), .int .i64 0, .slice Ao21 y171.length co21, .bool false, .slice none 0 0, .slice none 0 0]) (wanted_on rfl rfl rfl (e11.trans (by first | rfl | (simp [*]; done)))) rfl ?_ ?_
           ·go_simp
            (try simp only [i64_w])
            try rfl
           refine hK.out _ _ ⟨v179, v182, v194, v198, v201, m41_, (by rw [ha.out]; exact putSel_upk 4 hb_ rfl rfl rfl), Q_HO173, Q_BK174, Q_BK175, Q_HB, Mark.x (hoff 11 (by kernel_rfl)), Mark.x (hoff 13 (by kernel_rfl)), Mark.x (hoff 41 (by kernel_rfl)), Mark.x (hoff 41 (by kernel_rfl)), Mark.x (hoff 41 (by kernel_rfl)), Mark.x (hoff 41 (by kernel_rfl))⟩
          refine steps_cons ?_ ?_
          ·rintro b a w' ⟨v179, v182, v194, v198, v201, m41_, ha, Q_HO173, Q_BK174, Q_BK175, Q_HB, Q_HO180, Q_HO183, Q_HO195, Q_HO199, Q_HO202, Q_X41_⟩ hb_ hon hoff
           refine ⟨_, rfl, fun K hK => ?_⟩
           have e2 : a.tmps[2]? = some (.pointer (some ⟨gb175, 0, none⟩)) := by rw [ha]; exact (putSel_off rfl).trans rfl
           have e11 : a.tmps[11]? = some (.bool true) := by rw [ha]; exact putSel_on (e := (3, 11, .bool true)) 3 rfl rfl (hon 3 (by kernel_rfl)) rfl
           replace ha := Aside0.mk ha
           have HO173 := Aside0.mk Q_HO173
           have BK174 := Aside0.mk Q_BK174
           have BK175 := Aside0.mk Q_BK175
           have HB := Aside0.mk Q_HB
           have hc0_ : w'.cell? ⟨gb175, 0, none⟩ = some (.string (⟨#[71, 69, 84]⟩ : ByteArray)) := (blk_cell BK175.out 0).trans rfl
           have hc1_ : w'.cell? ⟨gb175, 1, none⟩ = some (.string (⟨#[47]⟩ : ByteArray)) := (blk_cell BK175.out 1).trans rfl
           have hc2_ : w'.cell? ⟨gb175, 2, none⟩ = some (.int .i64 1) := (blk_cell BK175.out 2).trans rfl
           have hc3_ : w'.cell? ⟨gb175, 3, none⟩ = some (.slice Ao21 y171.length co21) := (blk_cell BK175.out 3).trans rfl
           have hc4_ : w'.cell? ⟨gb175, 4, none⟩ = some (.bool false) := (blk_cell BK175.out 4).trans rfl
           have hc5_ : w'.cell? ⟨gb175, 5, none⟩ = some (.slice none 0 0) := (blk_cell BK175.out 5).trans rfl
           have hc6_ : w'.cell? ⟨gb175, 6, none⟩ = some (.slice none 0 0) := (blk_cell BK175.out 6).trans rfl
           refine value_ (w1 := w') (v := .agg #[.string (⟨#[71, 69, 84]⟩ : ByteArray), .string (⟨#[47]⟩ : ByteArray), .int .i64 1, .slice Ao21 y171.length co21, .bool false, .slice none 0 0, .slice none 0 0]) (wanted_on rfl rfl rfl (e11.trans (by first | rfl | (simp [*]; done)))) rfl ?_ ?_
           ·go_simp
            (try simp only [i64_w])
            try rfl
           refine hK.out _ _ ⟨v179, v182, v194, v198, v201, m41_, (by rw [ha.out]; exact putSel_upk 5 hb_ rfl rfl rfl), Q_HO173, Q_BK174, Q_BK175, Q_HB, Mark.x (hoff 11 (by kernel_rfl)), Mark.x (hoff 13 (by kernel_rfl)), Mark.x (hoff 41 (by kernel_rfl)), Mark.x (hoff 41 (by kernel_rfl)), Mark.x (hoff 41 (by kernel_rfl)), Mark.x (hoff 41 (by kernel_rfl))⟩
          refine steps_cons ?_ ?_
          ·rintro b a w' ⟨v179, v182, v194, v198, v201, m41_, ha, Q_HO173, Q_BK174, Q_BK175, Q_HB, Q_HO180, Q_HO183, Q_HO195, Q_HO199, Q_HO202, Q_X41_⟩ hb_ hon hoff
           refine ⟨_, rfl, fun K hK => ?_⟩
           have e12 : a.tmps[12]? = some (.agg #[.string (⟨#[71, 69, 84]⟩ : ByteArray), .string (⟨#[47]⟩ : ByteArray), .int .i64 0, .slice Ao21 y171.length co21, .bool false, .slice none 0 0, .slice none 0 0]) := by rw [ha]; exact putSel_on (e := (4, 12, .agg #[.string (⟨#[71, 69, 84]⟩ : ByteArray), .string (⟨#[47]⟩ : ByteArray), .int .i64 0, .slice Ao21 y171.length co21, .bool false, .slice none 0 0, .slice none 0 0])) 4 rfl rfl (hon 4 (by kernel_rfl)) rfl
           have e13 : a.tmps[13]? = some (.agg #[.string (⟨#[71, 69, 84]⟩ : ByteArray), .string (⟨#[47]⟩ : ByteArray), .int .i64 1, .slice Ao21 y171.length co21, .bool false, .slice none 0 0, .slice none 0 0]) := by rw [ha]; exact putSel_on (e := (5, 13, .agg #[.string (⟨#[71, 69, 84]⟩ : ByteArray), .string (⟨#[47]⟩ : ByteArray), .int .i64 1, .slice Ao21 y171.length co21, .bool false, .slice none 0 0, .slice none 0 0])) 5 rfl rfl (hon 5 (by kernel_rfl)) rfl
           have e11 : a.tmps[11]? = some (.bool true) := by rw [ha]; exact putSel_on (e := (3, 11, .bool true)) 3 rfl rfl (hon 3 (by kernel_rfl)) rfl
           replace ha := Aside0.mk ha
           have HO173 := Aside0.mk Q_HO173
           have BK174 := Aside0.mk Q_BK174
           have BK175 := Aside0.mk Q_BK175
           have HB := Aside0.mk Q_HB
           refine goes_ Tryd.func10 (by kernel_rfl) rfl #[.agg #[.string (⟨#[71, 69, 84]⟩ : ByteArray), .string (⟨#[47]⟩ : ByteArray), .int .i64 0, .slice Ao21 y171.length co21, .bool false, .slice none 0 0, .slice none 0 0], .agg #[.string (⟨#[71, 69, 84]⟩ : ByteArray), .string (⟨#[47]⟩ : ByteArray), .int .i64 1, .slice Ao21 y171.length co21, .bool false, .slice none 0 0, .slice none 0 0]] (wanted_on rfl rfl rfl (e11.trans (by first | rfl | (simp [*]; done)))) rfl rfl (by simp only [List.map_toArray, List.map_cons, List.map_nil, Act.eval, Array.getD_eq_getD_getElem?, Option.getD_some, e12, e13, e11] <;> rfl) ?_
           refine (record_Same.calls k (⟨#[71, 69, 84]⟩ : ByteArray) (⟨#[47]⟩ : ByteArray) 0 _ _ y171 false _ _ ([] : List Int) _ _ ([] : List (S31)) (⟨#[71, 69, 84]⟩ : ByteArray) (⟨#[47]⟩ : ByteArray) 1 _ _ y171 false _ _ ([] : List Int) _ _ ([] : List (S31)) false _ ?side1 ?side2 ?side3 ?side4 ?side5 ?side6 ?side7 ?side8 ?side9 ?side10 ?side11 ?side12 A3.out).mono ?_
           (case side1 => repeat (first | exact (Kd.R_reads' HO173.out).2.2 | (with_reducible refine Kd.C_alloc ?_ _) | (with_reducible refine Kd.C_drewN ?_ _) | (with_reducible refine Kd.C_drew ?_)))
           (case side2 => exact (Kd.R_reads' HO173.out).2.1)
           (case side3 => exact Kd.C_nil _ _)
           (case side4 => exact Nat.le_refl _)
           (case side5 => exact Kd.C_nil _ _)
           (case side6 => exact Nat.le_refl _)
           (case side7 => repeat (first | exact (Kd.R_reads' HO173.out).2.2 | (with_reducible refine Kd.C_alloc ?_ _) | (with_reducible refine Kd.C_drewN ?_ _) | (with_reducible refine Kd.C_drew ?_)))
           (case side8 => exact (Kd.R_reads' HO173.out).2.1)
           (case side9 => exact Kd.C_nil _ _)
           (case side10 => exact Nat.le_refl _)
           (case side11 => exact Kd.C_nil _ _)
           (case side12 => exact Nat.le_refl _)
           rintro e w31 ⟨rfl, hb⟩
           refine ⟨_, rfl, ?_⟩
           have n0_ := Aside0.mk (Kd.R_below (Mark.r HO173) hb)
           have n1_ := Aside0.mk (blk_below (g := gb174) (o := .cells #[.string (⟨#[71, 69, 84]⟩ : ByteArray), .string (⟨#[47]⟩ : ByteArray), .int .i64 0, .slice Ao21 y171.length co21, .bool false, .slice none 0 0, .slice none 0 0] 25 (0, 0)) (Mark.b BK174) hb)
           have n2_ := Aside0.mk (blk_below (g := gb175) (o := .cells #[.string (⟨#[71, 69, 84]⟩ : ByteArray), .string (⟨#[47]⟩ : ByteArray), .int .i64 1, .slice Ao21 y171.length co21, .bool false, .slice none 0 0, .slice none 0 0] 25 (0, 0)) (Mark.b BK175) hb)
           have n3_ := Aside0.mk (below_step Mark.h hb)
           clear HO173
           clear BK174
           clear BK175
           clear HB
           have HO173 := n0_
           have BK174 := n1_
           have BK175 := n2_
           have HB := n3_
           clear n0_ n1_ n2_ n3_
           (try clear hb)
           (try clear hb2)
           (try clear hk)
           (try clear hi)
           refine hK.out _ _ ⟨v179, v182, v194, v198, v201, m41_, (by rw [ha.out]; exact putSel_upk 6 hb_ rfl rfl rfl), (Mark.r HO173), (Mark.b BK174), (Mark.b BK175), Mark.h, Mark.x (hoff 11 (by kernel_rfl)), Mark.x (hoff 13 (by kernel_rfl)), Mark.x (hoff 41 (by kernel_rfl)), Mark.x (hoff 41 (by kernel_rfl)), Mark.x (hoff 41 (by kernel_rfl)), Mark.x (hoff 41 (by kernel_rfl))⟩
          refine steps_cons ?_ ?_
          ·rintro b a w' ⟨v179, v182, v194, v198, v201, m41_, ha, Q_HO173, Q_BK174, Q_BK175, Q_HB, Q_HO180, Q_HO183, Q_HO195, Q_HO199, Q_HO202, Q_X41_⟩ hb_ hon hoff
           refine ⟨_, rfl, fun K hK => ?_⟩
           have e14 : a.tmps[14]? = some (.bool false) := by rw [ha]; exact putSel_on (e := (6, 14, .bool false)) 6 rfl rfl (hon 6 (by kernel_rfl)) rfl
           have e11 : a.tmps[11]? = some (.bool true) := by rw [ha]; exact putSel_on (e := (3, 11, .bool true)) 3 rfl rfl (hon 3 (by kernel_rfl)) rfl
           replace ha := Aside0.mk ha
           have HO173 := Aside0.mk Q_HO173
           have BK174 := Aside0.mk Q_BK174
           have BK175 := Aside0.mk Q_BK175
           have HB := Aside0.mk Q_HB
           refine value_ (w1 := w') (v := .bool (!false)) (wanted_on rfl rfl rfl (e11.trans (by first | rfl | (simp [*]; done)))) rfl ?_ ?_
           ·go_simp
            (try simp only [i64_w])
            try rfl
           refine hK.out _ _ ⟨v179, v182, v194, v198, v201, m41_, (by rw [ha.out]; exact putSel_upk 7 hb_ rfl rfl rfl), Q_HO173, Q_BK174, Q_BK175, Q_HB, Mark.x (hoff 11 (by kernel_rfl)), Mark.x (hoff 13 (by kernel_rfl)), Mark.x (hoff 41 (by kernel_rfl)), Mark.x (hoff 41 (by kernel_rfl)), Mark.x (hoff 41 (by kernel_rfl)), Mark.x (hoff 41 (by kernel_rfl))⟩
          refine steps_cons ?_ ?_
          ·rintro b a w' ⟨v179, v182, v194, v198, v201, m41_, ha, Q_HO173, Q_BK174, Q_BK175, Q_HB, Q_HO180, Q_HO183, Q_HO195, Q_HO199, Q_HO202, Q_X41_⟩ hb_ hon hoff
           refine ⟨_, rfl, fun K hK => ?_⟩
           have e11 : a.tmps[11]? = some (.bool true) := by rw [ha]; exact putSel_on (e := (3, 11, .bool true)) 3 rfl rfl (hon 3 (by kernel_rfl)) rfl
           have e15 : a.tmps[15]? = some (.bool (!false)) := by rw [ha]; exact putSel_on (e := (7, 15, .bool (!false))) 7 rfl rfl (hon 7 (by kernel_rfl)) rfl
           replace ha := Aside0.mk ha
           have HO173 := Aside0.mk Q_HO173
           have BK174 := Aside0.mk Q_BK174
           have BK175 := Aside0.mk Q_BK175
           have HB := Aside0.mk Q_HB
           refine value_ (w1 := w') (v := .bool (!false)) (by rfl) rfl ?_ ?_
           ·go_simp
            (try simp only [i64_w])
            try rfl
           refine hK.out _ _ ⟨v179, v182, v194, v198, v201, m41_, (by rw [ha.out]; exact putSel_upk 8 hb_ rfl rfl rfl), Q_HO173, Q_BK174, Q_BK175, Q_HB, Mark.x (hoff 11 (by kernel_rfl)), Mark.x (hoff 13 (by kernel_rfl)), Mark.x (hoff 41 (by kernel_rfl)), Mark.x (hoff 41 (by kernel_rfl)), Mark.x (hoff 41 (by kernel_rfl)), Mark.x (hoff 41 (by kernel_rfl))⟩
          refine steps_cons ?_ ?_
          ·rintro b a w' ⟨v179, v182, v194, v198, v201, m41_, ha, Q_HO173, Q_BK174, Q_BK175, Q_HB, Q_HO180, Q_HO183, Q_HO195, Q_HO199, Q_HO202, Q_X41_⟩ hb_ hon hoff
           refine ⟨_, rfl, fun K hK => ?_⟩
           have e16 : a.tmps[16]? = some (.bool (!false)) := by rw [ha]; exact putSel_on (e := (8, 16, .bool (!false))) 8 rfl rfl (hon 8 (by kernel_rfl)) rfl
           replace ha := Aside0.mk ha
           have HO173 := Aside0.mk Q_HO173
           have BK174 := Aside0.mk Q_BK174
           have BK175 := Aside0.mk Q_BK175
           have HB := Aside0.mk Q_HB
           refine value_ (w1 := w') (v := .bool (!false)) (by rfl) rfl ?_ ?_
           ·go_simp
            (try simp only [i64_w])
            try rfl
           refine hK.out _ _ ⟨v179, v182, v194, v198, v201, m41_, (by rw [ha.out]; exact putSel_upk 9 hb_ rfl rfl rfl), Q_HO173, Q_BK174, Q_BK175, Q_HB, Mark.x (hoff 11 (by kernel_rfl)), Mark.x (hoff 13 (by kernel_rfl)), Mark.x (hoff 41 (by kernel_rfl)), Mark.x (hoff 41 (by kernel_rfl)), Mark.x (hoff 41 (by kernel_rfl)), Mark.x (hoff 41 (by kernel_rfl))⟩
          refine steps_cons ?_ ?_
          ·rintro b a w' ⟨v179, v182, v194, v198, v201, m41_, ha, Q_HO173, Q_BK174, Q_BK175, Q_HB, Q_HO180, Q_HO183, Q_HO195, Q_HO199, Q_HO202, Q_X41_⟩ hb_ hon hoff
           refine ⟨_, rfl, fun K hK => ?_⟩
           have e1 : a.tmps[1]? = some (.pointer (some ⟨gb174, 0, none⟩)) := by rw [ha]; exact (putSel_off rfl).trans rfl
           have e17 : a.tmps[17]? = some (.bool (!false)) := by rw [ha]; exact putSel_on (e := (9, 17, .bool (!false))) 9 rfl rfl (hon 9 (by kernel_rfl)) rfl
           replace ha := Aside0.mk ha
           have HO173 := Aside0.mk Q_HO173
           have BK174 := Aside0.mk Q_BK174
           have BK175 := Aside0.mk Q_BK175
           have HB := Aside0.mk Q_HB
           have hc0_ : w'.cell? ⟨gb174, 0, none⟩ = some (.string (⟨#[71, 69, 84]⟩ : ByteArray)) := (blk_cell BK174.out 0).trans rfl
           have hc1_ : w'.cell? ⟨gb174, 1, none⟩ = some (.string (⟨#[47]⟩ : ByteArray)) := (blk_cell BK174.out 1).trans rfl
           have hc2_ : w'.cell? ⟨gb174, 2, none⟩ = some (.int .i64 0) := (blk_cell BK174.out 2).trans rfl
           have hc3_ : w'.cell? ⟨gb174, 3, none⟩ = some (.slice Ao21 y171.length co21) := (blk_cell BK174.out 3).trans rfl
           have hc4_ : w'.cell? ⟨gb174, 4, none⟩ = some (.bool false) := (blk_cell BK174.out 4).trans rfl
           have hc5_ : w'.cell? ⟨gb174, 5, none⟩ = some (.slice none 0 0) := (blk_cell BK174.out 5).trans rfl
           have hc6_ : w'.cell? ⟨gb174, 6, none⟩ = some (.slice none 0 0) := (blk_cell BK174.out 6).trans rfl
           refine value_ (w1 := w') (v := .agg #[.string (⟨#[71, 69, 84]⟩ : ByteArray), .string (⟨#[47]⟩ : ByteArray), .int .i64 0, .slice Ao21 y171.length co21, .bool false, .slice none 0 0, .slice none 0 0]) (wanted_on rfl rfl rfl (e17.trans (by first | rfl | (simp [*]; done)))) rfl ?_ ?_
           ·go_simp
            (try simp only [i64_w])
            try rfl
           refine hK.out _ _ ⟨v179, v182, v194, v198, v201, m41_, (by rw [ha.out]; exact putSel_upk 10 hb_ rfl rfl rfl), Q_HO173, Q_BK174, Q_BK175, Q_HB, Mark.x (hoff 11 (by kernel_rfl)), Q_HO183, Mark.x (hoff 41 (by kernel_rfl)), Mark.x (hoff 41 (by kernel_rfl)), Mark.x (hoff 41 (by kernel_rfl)), Mark.x (hoff 41 (by kernel_rfl))⟩
          refine steps_cons ?_ ?_
          ·rintro b a w' ⟨v179, v182, v194, v198, v201, m41_, ha, Q_HO173, Q_BK174, Q_BK175, Q_HB, Q_HO180, Q_HO183, Q_HO195, Q_HO199, Q_HO202, Q_X41_⟩ hb_ hon hoff
           refine ⟨_, rfl, fun K hK => ?_⟩
           have e18 : a.tmps[18]? = some (.agg #[.string (⟨#[71, 69, 84]⟩ : ByteArray), .string (⟨#[47]⟩ : ByteArray), .int .i64 0, .slice Ao21 y171.length co21, .bool false, .slice none 0 0, .slice none 0 0]) := by rw [ha]; exact putSel_on (e := (10, 18, .agg #[.string (⟨#[71, 69, 84]⟩ : ByteArray), .string (⟨#[47]⟩ : ByteArray), .int .i64 0, .slice Ao21 y171.length co21, .bool false, .slice none 0 0, .slice none 0 0])) 10 rfl rfl (hon 10 (by kernel_rfl)) rfl
           have e17 : a.tmps[17]? = some (.bool (!false)) := by rw [ha]; exact putSel_on (e := (9, 17, .bool (!false))) 9 rfl rfl (hon 9 (by kernel_rfl)) rfl
           replace ha := Aside0.mk ha
           have HO173 := Aside0.mk Q_HO173
           have BK174 := Aside0.mk Q_BK174
           have BK175 := Aside0.mk Q_BK175
           have HB := Aside0.mk Q_HB
           refine Kd.N_lit_step k25 _ 25 ?hg (N' := 19) ?hd (xs := ([(⟨(⟨#[71, 69, 84]⟩ : ByteArray), (⟨#[47]⟩ : ByteArray), 0, y171, false, ([] : List Int), ([] : List (S31))⟩ : S25)] : List (S25))) (inner := [.string (⟨#[71, 69, 84]⟩ : ByteArray), .string (⟨#[47]⟩ : ByteArray), .int .i64 0, .slice Ao21 y171.length co21, .bool false, .slice none 0 0, .slice none 0 0]) (ok := (fun k_ => k_ ≠ gb174 ∧ k_ ≠ gb175)) (okp := (fun k_ => k_ ≠ gb174 ∧ k_ ≠ gb175)) ?hr ?hp (fun _ hk => hk) ((show ∀ k_, w'.heap.size ≤ k_ → (fun k_ => k_ ≠ gb174 ∧ k_ ≠ gb175) k_ from fun k_ hk => ⟨Kd.freshB (g := gb174) (o := .cells #[.string (⟨#[71, 69, 84]⟩ : ByteArray), .string (⟨#[47]⟩ : ByteArray), .int .i64 0, .slice Ao21 y171.length co21, .bool false, .slice none 0 0, .slice none 0 0] 25 (0, 0)) (Mark.b BK174) k_ hk, Kd.freshB (g := gb175) (o := .cells #[.string (⟨#[71, 69, 84]⟩ : ByteArray), .string (⟨#[47]⟩ : ByteArray), .int .i64 1, .slice Ao21 y171.length co21, .bool false, .slice none 0 0, .slice none 0 0] 25 (0, 0)) (Mark.b BK175) k_ hk⟩) _ (Nat.le_refl _)) (Below.refl _ _) (Nat.le_refl _) (by simp) ?_; (case hd => rfl); (case hg => exact (wanted_on rfl rfl rfl (e17.trans (by first | rfl | (simp [*]; done))))); (case hr => first | (go_simp; done) | (go_simp; rfl)); (case hp => exact (Reps.c7 (show Kd.FK k25 _ _ (⟨(⟨#[71, 69, 84]⟩ : ByteArray), (⟨#[47]⟩ : ByteArray), 0, y171, false, ([] : List Int), ([] : List (S31))⟩ : S25) [.string (⟨#[71, 69, 84]⟩ : ByteArray), .string (⟨#[47]⟩ : ByteArray), .int .i64 0, .slice Ao21 y171.length co21, .bool false, .slice none 0 0, .slice none 0 0] from (k25_mkF _ _ (⟨(⟨#[71, 69, 84]⟩ : ByteArray), (⟨#[47]⟩ : ByteArray), 0, y171, false, ([] : List Int), ([] : List (S31))⟩ : S25) (Kd.R_reads' (Kd.R_mono (ok' := (fun k_ => k_ ≠ gb174 ∧ k_ ≠ gb175)) (Kd.R_types (Kd.R_types (HO173.out) BK174.out (by decide)) BK175.out (by decide)) (fun k_ hk => ⟨hk.1.2, hk.2⟩))).2.1 (Kd.R_F (Kd.R_mono (ok' := (fun k_ => k_ ≠ gb174 ∧ k_ ≠ gb175)) (Kd.R_types (Kd.R_types (HO173.out) BK174.out (by decide)) BK175.out (by decide)) (fun k_ hk => ⟨hk.1.2, hk.2⟩))) (Nat.le_refl _) (Kd.F_nil _ _ _) (Nat.le_refl _) (Kd.F_nil _ _ _))) (Reps.none _ _)))
           intro v179 w32 ho33 hb hg_ hnew_
           clear hg_ hnew_
           (first | rw [← Ny178.out] at ho33 | (simp only [Int.reduceToNat] at ho33; rw [← Ny178.out] at ho33))
           have n0_ := Aside0.mk (Kd.R_below (Mark.r HO173) hb)
           have n1_ := Aside0.mk (Kd.N_lower ho33 (below_size Mark.h))
           have n2_ := Aside0.mk (blk_below (g := gb174) (o := .cells #[.string (⟨#[71, 69, 84]⟩ : ByteArray), .string (⟨#[47]⟩ : ByteArray), .int .i64 0, .slice Ao21 y171.length co21, .bool false, .slice none 0 0, .slice none 0 0] 25 (0, 0)) (Mark.b BK174) hb)
           have n3_ := Aside0.mk (blk_below (g := gb175) (o := .cells #[.string (⟨#[71, 69, 84]⟩ : ByteArray), .string (⟨#[47]⟩ : ByteArray), .int .i64 1, .slice Ao21 y171.length co21, .bool false, .slice none 0 0, .slice none 0 0] 25 (0, 0)) (Mark.b BK175) hb)
           have n4_ := Aside0.mk (below_step Mark.h hb)
           have z_HO183 := fun (h0_ : b 13 = true) => (show Kd.N k25 25 w32 w.heap.size (fun k_ => k_ ≠ gb174 ∧ k_ ≠ gb175) v182 y181 from by first | exact (Kd.N_elder' (by (with_reducible repeat (first | apply Kd.N_alloc | apply Kd.N_drewN | apply Kd.N_drew)); exact (Q_HO183 h0_)) (Kd.N_base ho33) hb) | exact Kd.N_mono (Kd.N_elder' (by (with_reducible repeat (first | apply Kd.N_alloc | apply Kd.N_drewN | apply Kd.N_drew)); exact (Q_HO183 h0_)) (Kd.N_base ho33) hb) (fun _ h_ => by first | trivial | exact h_ | exact h_.1))
           clear HO173
           clear BK174
           clear BK175
           clear HB
           have HO173 := n0_
           have HO180 := n1_
           have BK174 := n2_
           have BK175 := n3_
           have HB := n4_
           clear n0_ n1_ n2_ n3_ n4_
           clear hb ho33
           refine hK.out _ _ ⟨v179, v182, v194, v198, v201, m41_, (by rw [ha.out]; exact putSel_upk 11 hb_ rfl rfl rfl), (Mark.r HO173), (Mark.b BK174), (Mark.b BK175), Mark.h, fun _ => (Mark.n HO180), z_HO183, Mark.x (hoff 41 (by kernel_rfl)), Mark.x (hoff 41 (by kernel_rfl)), Mark.x (hoff 41 (by kernel_rfl)), Mark.x (hoff 41 (by kernel_rfl))⟩
          refine steps_cons ?_ ?_
          ·rintro b a w' ⟨v179, v182, v194, v198, v201, m41_, ha, Q_HO173, Q_BK174, Q_BK175, Q_HB, Q_HO180, Q_HO183, Q_HO195, Q_HO199, Q_HO202, Q_X41_⟩ hb_ hon hoff
           refine ⟨_, rfl, fun K hK => ?_⟩
           have e1 : a.tmps[1]? = some (.pointer (some ⟨gb174, 0, none⟩)) := by rw [ha]; exact (putSel_off rfl).trans rfl
           have e17 : a.tmps[17]? = some (.bool (!false)) := by rw [ha]; exact putSel_on (e := (9, 17, .bool (!false))) 9 rfl rfl (hon 9 (by kernel_rfl)) rfl
           replace ha := Aside0.mk ha
           have HO173 := Aside0.mk Q_HO173
           have BK174 := Aside0.mk Q_BK174
           have BK175 := Aside0.mk Q_BK175
           have HB := Aside0.mk Q_HB
           have hc0_ : w'.cell? ⟨gb174, 0, none⟩ = some (.string (⟨#[71, 69, 84]⟩ : ByteArray)) := (blk_cell BK174.out 0).trans rfl
           have hc1_ : w'.cell? ⟨gb174, 1, none⟩ = some (.string (⟨#[47]⟩ : ByteArray)) := (blk_cell BK174.out 1).trans rfl
           have hc2_ : w'.cell? ⟨gb174, 2, none⟩ = some (.int .i64 0) := (blk_cell BK174.out 2).trans rfl
           have hc3_ : w'.cell? ⟨gb174, 3, none⟩ = some (.slice Ao21 y171.length co21) := (blk_cell BK174.out 3).trans rfl
           have hc4_ : w'.cell? ⟨gb174, 4, none⟩ = some (.bool false) := (blk_cell BK174.out 4).trans rfl
           have hc5_ : w'.cell? ⟨gb174, 5, none⟩ = some (.slice none 0 0) := (blk_cell BK174.out 5).trans rfl
           have hc6_ : w'.cell? ⟨gb174, 6, none⟩ = some (.slice none 0 0) := (blk_cell BK174.out 6).trans rfl
           refine value_ (w1 := w') (v := .agg #[.string (⟨#[71, 69, 84]⟩ : ByteArray), .string (⟨#[47]⟩ : ByteArray), .int .i64 0, .slice Ao21 y171.length co21, .bool false, .slice none 0 0, .slice none 0 0]) (wanted_on rfl rfl rfl (e17.trans (by first | rfl | (simp [*]; done)))) rfl ?_ ?_
           ·go_simp
            (try simp only [i64_w])
            try rfl
           refine hK.out _ _ ⟨v179, v182, v194, v198, v201, m41_, (by rw [ha.out]; exact putSel_upk 12 hb_ rfl rfl rfl), Q_HO173, Q_BK174, Q_BK175, Q_HB, Q_HO180, Mark.x (hoff 13 (by kernel_rfl)), Mark.x (hoff 41 (by kernel_rfl)), Mark.x (hoff 41 (by kernel_rfl)), Mark.x (hoff 41 (by kernel_rfl)), Mark.x (hoff 41 (by kernel_rfl))⟩
          refine steps_cons ?_ ?_
          ·rintro b a w' ⟨v179, v182, v194, v198, v201, m41_, ha, Q_HO173, Q_BK174, Q_BK175, Q_HB, Q_HO180, Q_HO183, Q_HO195, Q_HO199, Q_HO202, Q_X41_⟩ hb_ hon hoff
           refine ⟨_, rfl, fun K hK => ?_⟩
           have e20 : a.tmps[20]? = some (.agg #[.string (⟨#[71, 69, 84]⟩ : ByteArray), .string (⟨#[47]⟩ : ByteArray), .int .i64 0, .slice Ao21 y171.length co21, .bool false, .slice none 0 0, .slice none 0 0]) := by rw [ha]; exact putSel_on (e := (12, 20, .agg #[.string (⟨#[71, 69, 84]⟩ : ByteArray), .string (⟨#[47]⟩ : ByteArray), .int .i64 0, .slice Ao21 y171.length co21, .bool false, .slice none 0 0, .slice none 0 0])) 12 rfl rfl (hon 12 (by kernel_rfl)) rfl
           have e17 : a.tmps[17]? = some (.bool (!false)) := by rw [ha]; exact putSel_on (e := (9, 17, .bool (!false))) 9 rfl rfl (hon 9 (by kernel_rfl)) rfl
           replace ha := Aside0.mk ha
           have HO173 := Aside0.mk Q_HO173
           have BK174 := Aside0.mk Q_BK174
           have BK175 := Aside0.mk Q_BK175
           have HB := Aside0.mk Q_HB
           refine Kd.N_lit_step k25 _ 25 ?hg (N' := 21) ?hd (xs := ([(⟨(⟨#[71, 69, 84]⟩ : ByteArray), (⟨#[47]⟩ : ByteArray), 0, y171, false, ([] : List Int), ([] : List (S31))⟩ : S25)] : List (S25))) (inner := [.string (⟨#[71, 69, 84]⟩ : ByteArray), .string (⟨#[47]⟩ : ByteArray), .int .i64 0, .slice Ao21 y171.length co21, .bool false, .slice none 0 0, .slice none 0 0]) (ok := (fun k_ => k_ ≠ gb174 ∧ k_ ≠ gb175)) (okp := (fun k_ => k_ ≠ gb174 ∧ k_ ≠ gb175)) ?hr ?hp (fun _ hk => hk) ((show ∀ k_, w'.heap.size ≤ k_ → (fun k_ => k_ ≠ gb174 ∧ k_ ≠ gb175) k_ from fun k_ hk => ⟨Kd.freshB (g := gb174) (o := .cells #[.string (⟨#[71, 69, 84]⟩ : ByteArray), .string (⟨#[47]⟩ : ByteArray), .int .i64 0, .slice Ao21 y171.length co21, .bool false, .slice none 0 0, .slice none 0 0] 25 (0, 0)) (Mark.b BK174) k_ hk, Kd.freshB (g := gb175) (o := .cells #[.string (⟨#[71, 69, 84]⟩ : ByteArray), .string (⟨#[47]⟩ : ByteArray), .int .i64 1, .slice Ao21 y171.length co21, .bool false, .slice none 0 0, .slice none 0 0] 25 (0, 0)) (Mark.b BK175) k_ hk⟩) _ (Nat.le_refl _)) (Below.refl _ _) (Nat.le_refl _) (by simp) ?_; (case hd => rfl); (case hg => exact (wanted_on rfl rfl rfl (e17.trans (by first | rfl | (simp [*]; done))))); (case hr => first | (go_simp; done) | (go_simp; rfl)); (case hp => exact (Reps.c7 (show Kd.FK k25 _ _ (⟨(⟨#[71, 69, 84]⟩ : ByteArray), (⟨#[47]⟩ : ByteArray), 0, y171, false, ([] : List Int), ([] : List (S31))⟩ : S25) [.string (⟨#[71, 69, 84]⟩ : ByteArray), .string (⟨#[47]⟩ : ByteArray), .int .i64 0, .slice Ao21 y171.length co21, .bool false, .slice none 0 0, .slice none 0 0] from (k25_mkF _ _ (⟨(⟨#[71, 69, 84]⟩ : ByteArray), (⟨#[47]⟩ : ByteArray), 0, y171, false, ([] : List Int), ([] : List (S31))⟩ : S25) (Kd.R_reads' (Kd.R_mono (ok' := (fun k_ => k_ ≠ gb174 ∧ k_ ≠ gb175)) (Kd.R_types (Kd.R_types (HO173.out) BK174.out (by decide)) BK175.out (by decide)) (fun k_ hk => ⟨hk.1.2, hk.2⟩))).2.1 (Kd.R_F (Kd.R_mono (ok' := (fun k_ => k_ ≠ gb174 ∧ k_ ≠ gb175)) (Kd.R_types (Kd.R_types (HO173.out) BK174.out (by decide)) BK175.out (by decide)) (fun k_ hk => ⟨hk.1.2, hk.2⟩))) (Nat.le_refl _) (Kd.F_nil _ _ _) (Nat.le_refl _) (Kd.F_nil _ _ _))) (Reps.none _ _)))
           intro v182 w32 ho33 hb hg_ hnew_
           clear hg_ hnew_
           (first | rw [← Ny181.out] at ho33 | (simp only [Int.reduceToNat] at ho33; rw [← Ny181.out] at ho33))
           have n0_ := Aside0.mk (Kd.R_below (Mark.r HO173) hb)
           have n1_ := Aside0.mk (Kd.N_lower ho33 (below_size Mark.h))
           have n2_ := Aside0.mk (blk_below (g := gb174) (o := .cells #[.string (⟨#[71, 69, 84]⟩ : ByteArray), .string (⟨#[47]⟩ : ByteArray), .int .i64 0, .slice Ao21 y171.length co21, .bool false, .slice none 0 0, .slice none 0 0] 25 (0, 0)) (Mark.b BK174) hb)
           have n3_ := Aside0.mk (blk_below (g := gb175) (o := .cells #[.string (⟨#[71, 69, 84]⟩ : ByteArray), .string (⟨#[47]⟩ : ByteArray), .int .i64 1, .slice Ao21 y171.length co21, .bool false, .slice none 0 0, .slice none 0 0] 25 (0, 0)) (Mark.b BK175) hb)
           have n4_ := Aside0.mk (below_step Mark.h hb)
           have z_HO180 := fun (h0_ : b 11 = true) => (show Kd.N k25 25 w32 w.heap.size (fun k_ => k_ ≠ gb174 ∧ k_ ≠ gb175) v179 y178 from by first | exact (Kd.N_elder' (by (with_reducible repeat (first | apply Kd.N_alloc | apply Kd.N_drewN | apply Kd.N_drew)); exact (Q_HO180 h0_)) (Kd.N_base ho33) hb) | exact Kd.N_mono (Kd.N_elder' (by (with_reducible repeat (first | apply Kd.N_alloc | apply Kd.N_drewN | apply Kd.N_drew)); exact (Q_HO180 h0_)) (Kd.N_base ho33) hb) (fun _ h_ => by first | trivial | exact h_ | exact h_.1))
           clear HO173
           clear BK174
           clear BK175
           clear HB
           have HO173 := n0_
           have HO183 := n1_
           have BK174 := n2_
           have BK175 := n3_
           have HB := n4_
           clear n0_ n1_ n2_ n3_ n4_
           clear hb ho33
           refine hK.out _ _ ⟨v179, v182, v194, v198, v201, m41_, (by rw [ha.out]; exact putSel_upk 13 hb_ rfl rfl rfl), (Mark.r HO173), (Mark.b BK174), (Mark.b BK175), Mark.h, z_HO180, fun _ => (Mark.n HO183), Mark.x (hoff 41 (by kernel_rfl)), Mark.x (hoff 41 (by kernel_rfl)), Mark.x (hoff 41 (by kernel_rfl)), Mark.x (hoff 41 (by kernel_rfl))⟩
          refine steps_cons ?_ ?_
          ·rintro b a w' ⟨v179, v182, v194, v198, v201, m41_, ha, Q_HO173, Q_BK174, Q_BK175, Q_HB, Q_HO180, Q_HO183, Q_HO195, Q_HO199, Q_HO202, Q_X41_⟩ hb_ hon hoff
           refine ⟨_, rfl, fun K hK => ?_⟩
           have e19 : a.tmps[19]? = some (v179) := by rw [ha]; exact putSel_on (e := (11, 19, v179)) 11 rfl rfl (hon 11 (by kernel_rfl)) rfl
           have e21 : a.tmps[21]? = some (v182) := by rw [ha]; exact putSel_on (e := (13, 21, v182)) 13 rfl rfl (hon 13 (by kernel_rfl)) rfl
           have e17 : a.tmps[17]? = some (.bool (!false)) := by rw [ha]; exact putSel_on (e := (9, 17, .bool (!false))) 9 rfl rfl (hon 9 (by kernel_rfl)) rfl
           replace ha := Aside0.mk ha
           have HO173 := Aside0.mk Q_HO173
           have BK174 := Aside0.mk Q_BK174
           have BK175 := Aside0.mk Q_BK175
           have HB := Aside0.mk Q_HB
           have HO180 := Aside0.mk (Q_HO180 (hon 11 (by kernel_rfl)))
           have HO183 := Aside0.mk (Q_HO183 (hon 13 (by kernel_rfl)))
           obtain ⟨Ao36, co36, eo36⟩ := Kd.N_slice HO180.out
           (first | subst eo36 | (injection eo36 with f1_ f2_ f3_; have f4_ := f1_.symm; have f5_ := f3_.symm; clear f1_ f2_ f3_; subst f4_; subst f5_))
           obtain ⟨Ao37, co37, eo37⟩ := Kd.N_slice HO183.out
           (first | subst eo37 | (injection eo37 with f1_ f2_ f3_; have f4_ := f1_.symm; have f5_ := f3_.symm; clear f1_ f2_ f3_; subst f4_; subst f5_))
           refine goes_ Tryd.func19 (by kernel_rfl) rfl #[.slice Ao36 y178.length co36, .slice Ao37 y181.length co37] (wanted_on rfl rfl rfl (e17.trans (by first | rfl | (simp [*]; done)))) rfl rfl (by simp only [List.map_toArray, List.map_cons, List.map_nil, Act.eval, Array.getD_eq_getD_getElem?, Option.getD_some, e19, e21, e17] <;> rfl) ?_
           with_reducible refine (record_All.calls k _ _ y178 _ _ y181 true _ ?side1 ?side2 ?side3 ?side4 A5.out).mono ?_
           (case side1 => repeat (first | exact (Kd.N_reads' HO180.out).2.2 | (with_reducible refine Kd.C_alloc ?_ _) | (with_reducible refine Kd.C_drewN ?_ _) | (with_reducible refine Kd.C_drew ?_)))
           (case side2 => exact (Kd.N_reads' HO180.out).2.1)
           (case side3 => repeat (first | exact (Kd.N_reads' HO183.out).2.2 | (with_reducible refine Kd.C_alloc ?_ _) | (with_reducible refine Kd.C_drewN ?_ _) | (with_reducible refine Kd.C_drew ?_)))
           (case side4 => exact (Kd.N_reads' HO183.out).2.1)
           rintro e w38 ⟨rfl, hb⟩
           refine ⟨_, rfl, ?_⟩
           have n0_ := Aside0.mk (Kd.R_below (Mark.r HO173) hb)
           have n1_ := Aside0.mk (Kd.N_below (Mark.n HO180) hb)
           have n2_ := Aside0.mk (Kd.N_below (Mark.n HO183) hb)
           have n3_ := Aside0.mk (blk_below (g := gb174) (o := .cells #[.string (⟨#[71, 69, 84]⟩ : ByteArray), .string (⟨#[47]⟩ : ByteArray), .int .i64 0, .slice Ao21 y171.length co21, .bool false, .slice none 0 0, .slice none 0 0] 25 (0, 0)) (Mark.b BK174) hb)
           have n4_ := Aside0.mk (blk_below (g := gb175) (o := .cells #[.string (⟨#[71, 69, 84]⟩ : ByteArray), .string (⟨#[47]⟩ : ByteArray), .int .i64 1, .slice Ao21 y171.length co21, .bool false, .slice none 0 0, .slice none 0 0] 25 (0, 0)) (Mark.b BK175) hb)
           have n5_ := Aside0.mk (below_step Mark.h hb)
           clear HO173
           clear HO180
           clear HO183
           clear BK174
           clear BK175
           clear HB
           have HO173 := n0_
           have HO180 := n1_
           have HO183 := n2_
           have BK174 := n3_
           have BK175 := n4_
           have HB := n5_
           clear n0_ n1_ n2_ n3_ n4_ n5_
           (try clear hb)
           (try clear hb2)
           (try clear hk)
           (try clear hi)
           refine hK.out _ _ ⟨.slice Ao36 y178.length co36, .slice Ao37 y181.length co37, v194, v198, v201, m41_, (by rw [ha.out]; exact putSel_upk 14 hb_ rfl rfl rfl), (Mark.r HO173), (Mark.b BK174), (Mark.b BK175), Mark.h, fun _ => (Mark.n HO180), fun _ => (Mark.n HO183), Mark.x (hoff 41 (by kernel_rfl)), Mark.x (hoff 41 (by kernel_rfl)), Mark.x (hoff 41 (by kernel_rfl)), Mark.x (hoff 41 (by kernel_rfl))⟩
          refine steps_cons ?_ ?_
          ·rintro b a w' ⟨v179, v182, v194, v198, v201, m41_, ha, Q_HO173, Q_BK174, Q_BK175, Q_HB, Q_HO180, Q_HO183, Q_HO195, Q_HO199, Q_HO202, Q_X41_⟩ hb_ hon hoff
           refine ⟨_, rfl, fun K hK => ?_⟩
           have e17 : a.tmps[17]? = some (.bool (!false)) := by rw [ha]; exact putSel_on (e := (9, 17, .bool (!false))) 9 rfl rfl (hon 9 (by kernel_rfl)) rfl
           have e22 : a.tmps[22]? = some (.bool true) := by rw [ha]; exact putSel_on (e := (14, 22, .bool true)) 14 rfl rfl (hon 14 (by kernel_rfl)) rfl
           replace ha := Aside0.mk ha
           have HO173 := Aside0.mk Q_HO173
           have BK174 := Aside0.mk Q_BK174
           have BK175 := Aside0.mk Q_BK175
           have HB := Aside0.mk Q_HB
           have HO180 := Aside0.mk (Q_HO180 (hon 11 (by kernel_rfl)))
           have HO183 := Aside0.mk (Q_HO183 (hon 13 (by kernel_rfl)))
           refine value_ (w1 := w') (v := .bool true) (by rfl) rfl ?_ ?_
           ·go_simp
            (try simp only [i64_w])
            try rfl
           refine hK.out _ _ ⟨v179, v182, v194, v198, v201, m41_, (by rw [ha.out]; exact putSel_upk 15 hb_ rfl rfl rfl), Q_HO173, Q_BK174, Q_BK175, Q_HB, Q_HO180, Q_HO183, Mark.x (hoff 41 (by kernel_rfl)), Mark.x (hoff 41 (by kernel_rfl)), Mark.x (hoff 41 (by kernel_rfl)), Mark.x (hoff 41 (by kernel_rfl))⟩
          refine steps_cons ?_ ?_
          ·rintro b a w' ⟨v179, v182, v194, v198, v201, m41_, ha, Q_HO173, Q_BK174, Q_BK175, Q_HB, Q_HO180, Q_HO183, Q_HO195, Q_HO199, Q_HO202, Q_X41_⟩ hb_ hon hoff
           refine ⟨_, rfl, fun K hK => ?_⟩
           have e23 : a.tmps[23]? = some (.bool true) := by rw [ha]; exact putSel_on (e := (15, 23, .bool true)) 15 rfl rfl (hon 15 (by kernel_rfl)) rfl
           replace ha := Aside0.mk ha
           have HO173 := Aside0.mk Q_HO173
           have BK174 := Aside0.mk Q_BK174
           have BK175 := Aside0.mk Q_BK175
           have HB := Aside0.mk Q_HB
           have HO180 := Aside0.mk (Q_HO180 (hon 11 (by kernel_rfl)))
           have HO183 := Aside0.mk (Q_HO183 (hon 13 (by kernel_rfl)))
           refine value_ (w1 := w') (v := .bool true) (by rfl) rfl ?_ ?_
           ·go_simp
            (try simp only [i64_w])
            try rfl
           refine hK.out _ _ ⟨v179, v182, v194, v198, v201, m41_, (by rw [ha.out]; exact putSel_upk 16 hb_ rfl rfl rfl), Q_HO173, Q_BK174, Q_BK175, Q_HB, Q_HO180, Q_HO183, Mark.x (hoff 41 (by kernel_rfl)), Mark.x (hoff 41 (by kernel_rfl)), Mark.x (hoff 41 (by kernel_rfl)), Mark.x (hoff 41 (by kernel_rfl))⟩
          refine steps_cons ?_ ?_
          ·rintro b a w' ⟨v179, v182, v194, v198, v201, m41_, ha, Q_HO173, Q_BK174, Q_BK175, Q_HB, Q_HO180, Q_HO183, Q_HO195, Q_HO199, Q_HO202, Q_X41_⟩ hb_ hon hoff
           refine ⟨_, rfl, fun K hK => ?_⟩
           have e1 : a.tmps[1]? = some (.pointer (some ⟨gb174, 0, none⟩)) := by rw [ha]; exact (putSel_off rfl).trans rfl
           have e24 : a.tmps[24]? = some (.bool true) := by rw [ha]; exact putSel_on (e := (16, 24, .bool true)) 16 rfl rfl (hon 16 (by kernel_rfl)) rfl
           replace ha := Aside0.mk ha
           have HO173 := Aside0.mk Q_HO173
           have BK174 := Aside0.mk Q_BK174
           have BK175 := Aside0.mk Q_BK175
           have HB := Aside0.mk Q_HB
           have HO180 := Aside0.mk (Q_HO180 (hon 11 (by kernel_rfl)))
           have HO183 := Aside0.mk (Q_HO183 (hon 13 (by kernel_rfl)))
           have hc0_ : w'.cell? ⟨gb174, 0, none⟩ = some (.string (⟨#[71, 69, 84]⟩ : ByteArray)) := (blk_cell BK174.out 0).trans rfl
           have hc1_ : w'.cell? ⟨gb174, 1, none⟩ = some (.string (⟨#[47]⟩ : ByteArray)) := (blk_cell BK174.out 1).trans rfl
           have hc2_ : w'.cell? ⟨gb174, 2, none⟩ = some (.int .i64 0) := (blk_cell BK174.out 2).trans rfl
           have hc3_ : w'.cell? ⟨gb174, 3, none⟩ = some (.slice Ao21 y171.length co21) := (blk_cell BK174.out 3).trans rfl
           have hc4_ : w'.cell? ⟨gb174, 4, none⟩ = some (.bool false) := (blk_cell BK174.out 4).trans rfl
           have hc5_ : w'.cell? ⟨gb174, 5, none⟩ = some (.slice none 0 0) := (blk_cell BK174.out 5).trans rfl
           have hc6_ : w'.cell? ⟨gb174, 6, none⟩ = some (.slice none 0 0) := (blk_cell BK174.out 6).trans rfl
           refine value_ (w1 := w') (v := .agg #[.string (⟨#[71, 69, 84]⟩ : ByteArray), .string (⟨#[47]⟩ : ByteArray), .int .i64 0, .slice Ao21 y171.length co21, .bool false, .slice none 0 0, .slice none 0 0]) (wanted_on rfl rfl rfl (e24.trans (by first | rfl | (simp [*]; done)))) rfl ?_ ?_
           ·go_simp
            (try simp only [i64_w])
            try rfl
           refine hK.out _ _ ⟨v179, v182, v194, v198, v201, m41_, (by rw [ha.out]; exact putSel_upk 17 hb_ rfl rfl rfl), Q_HO173, Q_BK174, Q_BK175, Q_HB, Q_HO180, Q_HO183, Mark.x (hoff 41 (by kernel_rfl)), Mark.x (hoff 41 (by kernel_rfl)), Mark.x (hoff 41 (by kernel_rfl)), Mark.x (hoff 41 (by kernel_rfl))⟩
          refine steps_cons ?_ ?_
          ·rintro b a w' ⟨v179, v182, v194, v198, v201, m41_, ha, Q_HO173, Q_BK174, Q_BK175, Q_HB, Q_HO180, Q_HO183, Q_HO195, Q_HO199, Q_HO202, Q_X41_⟩ hb_ hon hoff
           refine ⟨_, rfl, fun K hK => ?_⟩
           have e25 : a.tmps[25]? = some (.agg #[.string (⟨#[71, 69, 84]⟩ : ByteArray), .string (⟨#[47]⟩ : ByteArray), .int .i64 0, .slice Ao21 y171.length co21, .bool false, .slice none 0 0, .slice none 0 0]) := by rw [ha]; exact putSel_on (e := (17, 25, .agg #[.string (⟨#[71, 69, 84]⟩ : ByteArray), .string (⟨#[47]⟩ : ByteArray), .int .i64 0, .slice Ao21 y171.length co21, .bool false, .slice none 0 0, .slice none 0 0])) 17 rfl rfl (hon 17 (by kernel_rfl)) rfl
           have e24 : a.tmps[24]? = some (.bool true) := by rw [ha]; exact putSel_on (e := (16, 24, .bool true)) 16 rfl rfl (hon 16 (by kernel_rfl)) rfl
           replace ha := Aside0.mk ha
           have HO173 := Aside0.mk Q_HO173
           have BK174 := Aside0.mk Q_BK174
           have BK175 := Aside0.mk Q_BK175
           have HB := Aside0.mk Q_HB
           have HO180 := Aside0.mk (Q_HO180 (hon 11 (by kernel_rfl)))
           have HO183 := Aside0.mk (Q_HO183 (hon 13 (by kernel_rfl)))
           refine goes_ Tryd.func12 (by kernel_rfl) rfl #[.agg #[.string (⟨#[71, 69, 84]⟩ : ByteArray), .string (⟨#[47]⟩ : ByteArray), .int .i64 0, .slice Ao21 y171.length co21, .bool false, .slice none 0 0, .slice none 0 0]] (wanted_on rfl rfl rfl (e24.trans (by first | rfl | (simp [*]; done)))) rfl rfl (by simp only [List.map_toArray, List.map_cons, List.map_nil, Act.eval, Array.getD_eq_getD_getElem?, Option.getD_some, e25, e24] <;> rfl) ?_
           refine (record_Size.calls k (⟨#[71, 69, 84]⟩ : ByteArray) (⟨#[47]⟩ : ByteArray) 0 _ _ y171 false _ _ ([] : List Int) _ _ ([] : List (S31)) t185 _ ?side1 ?side2 ?side3 ?side4 ?side5 ?side6 A7.out).mono ?_
           (case side1 => repeat (first | exact (Kd.R_reads' HO173.out).2.2 | (with_reducible refine Kd.C_alloc ?_ _) | (with_reducible refine Kd.C_drewN ?_ _) | (with_reducible refine Kd.C_drew ?_)))
           (case side2 => exact (Kd.R_reads' HO173.out).2.1)
           (case side3 => exact Kd.C_nil _ _)
           (case side4 => exact Nat.le_refl _)
           (case side5 => exact Kd.C_nil _ _)
           (case side6 => exact Nat.le_refl _)
           rintro e w39 ⟨rfl, hb⟩
           refine ⟨_, rfl, ?_⟩
           have n0_ := Aside0.mk (Kd.R_below (Mark.r HO173) hb)
           have n1_ := Aside0.mk (Kd.N_below (Mark.n HO180) hb)
           have n2_ := Aside0.mk (Kd.N_below (Mark.n HO183) hb)
           have n3_ := Aside0.mk (blk_below (g := gb174) (o := .cells #[.string (⟨#[71, 69, 84]⟩ : ByteArray), .string (⟨#[47]⟩ : ByteArray), .int .i64 0, .slice Ao21 y171.length co21, .bool false, .slice none 0 0, .slice none 0 0] 25 (0, 0)) (Mark.b BK174) hb)
           have n4_ := Aside0.mk (blk_below (g := gb175) (o := .cells #[.string (⟨#[71, 69, 84]⟩ : ByteArray), .string (⟨#[47]⟩ : ByteArray), .int .i64 1, .slice Ao21 y171.length co21, .bool false, .slice none 0 0, .slice none 0 0] 25 (0, 0)) (Mark.b BK175) hb)
           have n5_ := Aside0.mk (below_step Mark.h hb)
           clear HO173
           clear HO180
           clear HO183
           clear BK174
           clear BK175
           clear HB
           have HO173 := n0_
           have HO180 := n1_
           have HO183 := n2_
           have BK174 := n3_
           have BK175 := n4_
           have HB := n5_
           clear n0_ n1_ n2_ n3_ n4_ n5_
           (try clear hb)
           (try clear hb2)
           (try clear hk)
           (try clear hi)
           refine hK.out _ _ ⟨v179, v182, v194, v198, v201, m41_, (by rw [ha.out]; exact putSel_upk 18 hb_ rfl rfl rfl), (Mark.r HO173), (Mark.b BK174), (Mark.b BK175), Mark.h, fun _ => (Mark.n HO180), fun _ => (Mark.n HO183), Mark.x (hoff 41 (by kernel_rfl)), Mark.x (hoff 41 (by kernel_rfl)), Mark.x (hoff 41 (by kernel_rfl)), Mark.x (hoff 41 (by kernel_rfl))⟩
          refine steps_cons ?_ ?_
          ·rintro b a w' ⟨v179, v182, v194, v198, v201, m41_, ha, Q_HO173, Q_BK174, Q_BK175, Q_HB, Q_HO180, Q_HO183, Q_HO195, Q_HO199, Q_HO202, Q_X41_⟩ hb_ hon hoff
           refine ⟨_, rfl, fun K hK => ?_⟩
           have e26 : a.tmps[26]? = some (.int .i64 t185) := by rw [ha]; exact putSel_on (e := (18, 26, .int .i64 t185)) 18 rfl rfl (hon 18 (by kernel_rfl)) rfl
           have e24 : a.tmps[24]? = some (.bool true) := by rw [ha]; exact putSel_on (e := (16, 24, .bool true)) 16 rfl rfl (hon 16 (by kernel_rfl)) rfl
           replace ha := Aside0.mk ha
           have HO173 := Aside0.mk Q_HO173
           have BK174 := Aside0.mk Q_BK174
           have BK175 := Aside0.mk Q_BK175
           have HB := Aside0.mk Q_HB
           have HO180 := Aside0.mk (Q_HO180 (hon 11 (by kernel_rfl)))
           have HO183 := Aside0.mk (Q_HO183 (hon 13 (by kernel_rfl)))
           refine value_ (w1 := w') (v := .bool (t185 == 22)) (wanted_on rfl rfl rfl (e24.trans (by first | rfl | (simp [*]; done)))) rfl ?_ ?_
           ·go_simp
            (try simp only [i64_w])
            try rfl
           refine hK.out _ _ ⟨v179, v182, v194, v198, v201, m41_, (by rw [ha.out]; exact putSel_upk 19 hb_ rfl rfl rfl), Q_HO173, Q_BK174, Q_BK175, Q_HB, Q_HO180, Q_HO183, Mark.x (hoff 41 (by kernel_rfl)), Mark.x (hoff 41 (by kernel_rfl)), Mark.x (hoff 41 (by kernel_rfl)), Mark.x (hoff 41 (by kernel_rfl))⟩
          refine steps_cons ?_ ?_
          ·rintro b a w' ⟨v179, v182, v194, v198, v201, m41_, ha, Q_HO173, Q_BK174, Q_BK175, Q_HB, Q_HO180, Q_HO183, Q_HO195, Q_HO199, Q_HO202, Q_X41_⟩ hb_ hon hoff
           refine ⟨_, rfl, fun K hK => ?_⟩
           have e24 : a.tmps[24]? = some (.bool true) := by rw [ha]; exact putSel_on (e := (16, 24, .bool true)) 16 rfl rfl (hon 16 (by kernel_rfl)) rfl
           have e27 : a.tmps[27]? = some (.bool (t185 == 22)) := by rw [ha]; exact putSel_on (e := (19, 27, .bool (t185 == 22))) 19 rfl rfl (hon 19 (by kernel_rfl)) rfl
           replace ha := Aside0.mk ha
           have HO173 := Aside0.mk Q_HO173
           have BK174 := Aside0.mk Q_BK174
           have BK175 := Aside0.mk Q_BK175
           have HB := Aside0.mk Q_HB
           have HO180 := Aside0.mk (Q_HO180 (hon 11 (by kernel_rfl)))
           have HO183 := Aside0.mk (Q_HO183 (hon 13 (by kernel_rfl)))
           refine value_ (w1 := w') (v := .bool (t185 == 22)) (by rfl) rfl ?_ ?_
           ·go_simp
            (try simp only [i64_w])
            try rfl
           refine hK.out _ _ ⟨v179, v182, v194, v198, v201, m41_, (by rw [ha.out]; exact putSel_upk 20 hb_ rfl rfl rfl), Q_HO173, Q_BK174, Q_BK175, Q_HB, Q_HO180, Q_HO183, Mark.x (hoff 41 (by kernel_rfl)), Mark.x (hoff 41 (by kernel_rfl)), Mark.x (hoff 41 (by kernel_rfl)), Mark.x (hoff 41 (by kernel_rfl))⟩
          refine steps_cons ?_ ?_
          ·rintro b a w' ⟨v179, v182, v194, v198, v201, m41_, ha, Q_HO173, Q_BK174, Q_BK175, Q_HB, Q_HO180, Q_HO183, Q_HO195, Q_HO199, Q_HO202, Q_X41_⟩ hb_ hon hoff
           refine ⟨_, rfl, fun K hK => ?_⟩
           have e28 : a.tmps[28]? = some (.bool (t185 == 22)) := by rw [ha]; exact putSel_on (e := (20, 28, .bool (t185 == 22))) 20 rfl rfl (hon 20 (by kernel_rfl)) rfl
           replace ha := Aside0.mk ha
           have HO173 := Aside0.mk Q_HO173
           have BK174 := Aside0.mk Q_BK174
           have BK175 := Aside0.mk Q_BK175
           have HB := Aside0.mk Q_HB
           have HO180 := Aside0.mk (Q_HO180 (hon 11 (by kernel_rfl)))
           have HO183 := Aside0.mk (Q_HO183 (hon 13 (by kernel_rfl)))
           refine value_ (w1 := w') (v := .bool (t185 == 22)) (by rfl) rfl ?_ ?_
           ·go_simp
            (try simp only [i64_w])
            try rfl
           refine hK.out _ _ ⟨v179, v182, v194, v198, v201, m41_, (by rw [ha.out]; exact putSel_upk 21 hb_ rfl rfl rfl), Q_HO173, Q_BK174, Q_BK175, Q_HB, Q_HO180, Q_HO183, Mark.x (hoff 41 (by kernel_rfl)), Mark.x (hoff 41 (by kernel_rfl)), Mark.x (hoff 41 (by kernel_rfl)), Mark.x (hoff 41 (by kernel_rfl))⟩
          refine steps_cons ?_ ?_
          ·rintro b a w' ⟨v179, v182, v194, v198, v201, m41_, ha, Q_HO173, Q_BK174, Q_BK175, Q_HB, Q_HO180, Q_HO183, Q_HO195, Q_HO199, Q_HO202, Q_X41_⟩ hb_ hon hoff
           refine ⟨_, rfl, fun K hK => ?_⟩
           have e1 : a.tmps[1]? = some (.pointer (some ⟨gb174, 0, none⟩)) := by rw [ha]; exact (putSel_off rfl).trans rfl
           have e29 : a.tmps[29]? = some (.bool (t185 == 22)) := by rw [ha]; exact putSel_on (e := (21, 29, .bool (t185 == 22))) 21 rfl rfl (hon 21 (by kernel_rfl)) rfl
           replace ha := Aside0.mk ha
           have HO173 := Aside0.mk Q_HO173
           have BK174 := Aside0.mk Q_BK174
           have BK175 := Aside0.mk Q_BK175
           have HB := Aside0.mk Q_HB
           have HO180 := Aside0.mk (Q_HO180 (hon 11 (by kernel_rfl)))
           have HO183 := Aside0.mk (Q_HO183 (hon 13 (by kernel_rfl)))
           have hc0_ : w'.cell? ⟨gb174, 0, none⟩ = some (.string (⟨#[71, 69, 84]⟩ : ByteArray)) := (blk_cell BK174.out 0).trans rfl
           have hc1_ : w'.cell? ⟨gb174, 1, none⟩ = some (.string (⟨#[47]⟩ : ByteArray)) := (blk_cell BK174.out 1).trans rfl
           have hc2_ : w'.cell? ⟨gb174, 2, none⟩ = some (.int .i64 0) := (blk_cell BK174.out 2).trans rfl
           have hc3_ : w'.cell? ⟨gb174, 3, none⟩ = some (.slice Ao21 y171.length co21) := (blk_cell BK174.out 3).trans rfl
           have hc4_ : w'.cell? ⟨gb174, 4, none⟩ = some (.bool false) := (blk_cell BK174.out 4).trans rfl
           have hc5_ : w'.cell? ⟨gb174, 5, none⟩ = some (.slice none 0 0) := (blk_cell BK174.out 5).trans rfl
           have hc6_ : w'.cell? ⟨gb174, 6, none⟩ = some (.slice none 0 0) := (blk_cell BK174.out 6).trans rfl
           refine value_ (w1 := w') (v := .agg #[.string (⟨#[71, 69, 84]⟩ : ByteArray), .string (⟨#[47]⟩ : ByteArray), .int .i64 0, .slice Ao21 y171.length co21, .bool false, .slice none 0 0, .slice none 0 0]) (wanted_on rfl rfl rfl (e29.trans (by first | rfl | (simp [*]; done)))) rfl ?_ ?_
           ·go_simp
            (try simp only [i64_w])
            try rfl
           refine hK.out _ _ ⟨v179, v182, v194, v198, v201, m41_, (by rw [ha.out]; exact putSel_upk 22 hb_ rfl rfl rfl), Q_HO173, Q_BK174, Q_BK175, Q_HB, Q_HO180, Q_HO183, Mark.x (hoff 41 (by kernel_rfl)), Mark.x (hoff 41 (by kernel_rfl)), Mark.x (hoff 41 (by kernel_rfl)), Mark.x (hoff 41 (by kernel_rfl))⟩
          refine steps_cons ?_ ?_
          ·rintro b a w' ⟨v179, v182, v194, v198, v201, m41_, ha, Q_HO173, Q_BK174, Q_BK175, Q_HB, Q_HO180, Q_HO183, Q_HO195, Q_HO199, Q_HO202, Q_X41_⟩ hb_ hon hoff
           refine ⟨_, rfl, fun K hK => ?_⟩
           have e30 : a.tmps[30]? = some (.agg #[.string (⟨#[71, 69, 84]⟩ : ByteArray), .string (⟨#[47]⟩ : ByteArray), .int .i64 0, .slice Ao21 y171.length co21, .bool false, .slice none 0 0, .slice none 0 0]) := by rw [ha]; exact putSel_on (e := (22, 30, .agg #[.string (⟨#[71, 69, 84]⟩ : ByteArray), .string (⟨#[47]⟩ : ByteArray), .int .i64 0, .slice Ao21 y171.length co21, .bool false, .slice none 0 0, .slice none 0 0])) 22 rfl rfl (hon 22 (by kernel_rfl)) rfl
           have e29 : a.tmps[29]? = some (.bool (t185 == 22)) := by rw [ha]; exact putSel_on (e := (21, 29, .bool (t185 == 22))) 21 rfl rfl (hon 21 (by kernel_rfl)) rfl
           replace ha := Aside0.mk ha
           have HO173 := Aside0.mk Q_HO173
           have BK174 := Aside0.mk Q_BK174
           have BK175 := Aside0.mk Q_BK175
           have HB := Aside0.mk Q_HB
           have HO180 := Aside0.mk (Q_HO180 (hon 11 (by kernel_rfl)))
           have HO183 := Aside0.mk (Q_HO183 (hon 13 (by kernel_rfl)))
           refine goes_ Tryd.func14 (by kernel_rfl) rfl #[.agg #[.string (⟨#[71, 69, 84]⟩ : ByteArray), .string (⟨#[47]⟩ : ByteArray), .int .i64 0, .slice Ao21 y171.length co21, .bool false, .slice none 0 0, .slice none 0 0]] (wanted_on rfl rfl rfl (e29.trans (by first | rfl | (simp [*]; done)))) rfl rfl (by simp only [List.map_toArray, List.map_cons, List.map_nil, Act.eval, Array.getD_eq_getD_getElem?, Option.getD_some, e30, e29] <;> rfl) ?_
           refine (record_Closes.calls k (⟨#[71, 69, 84]⟩ : ByteArray) (⟨#[47]⟩ : ByteArray) 0 _ _ y171 false _ _ ([] : List Int) _ _ ([] : List (S31)) true _ ?side1 ?side2 ?side3 ?side4 ?side5 ?side6 A9.out).mono ?_
           (case side1 => repeat (first | exact (Kd.R_reads' HO173.out).2.2 | (with_reducible refine Kd.C_alloc ?_ _) | (with_reducible refine Kd.C_drewN ?_ _) | (with_reducible refine Kd.C_drew ?_)))
           (case side2 => exact (Kd.R_reads' HO173.out).2.1)
           (case side3 => exact Kd.C_nil _ _)
           (case side4 => exact Nat.le_refl _)
           (case side5 => exact Kd.C_nil _ _)
           (case side6 => exact Nat.le_refl _)
           rintro e w40 ⟨rfl, hb⟩
           refine ⟨_, rfl, ?_⟩
           have n0_ := Aside0.mk (Kd.R_below (Mark.r HO173) hb)
           have n1_ := Aside0.mk (Kd.N_below (Mark.n HO180) hb)
           have n2_ := Aside0.mk (Kd.N_below (Mark.n HO183) hb)
           have n3_ := Aside0.mk (blk_below (g := gb174) (o := .cells #[.string (⟨#[71, 69, 84]⟩ : ByteArray), .string (⟨#[47]⟩ : ByteArray), .int .i64 0, .slice Ao21 y171.length co21, .bool false, .slice none 0 0, .slice none 0 0] 25 (0, 0)) (Mark.b BK174) hb)
           have n4_ := Aside0.mk (blk_below (g := gb175) (o := .cells #[.string (⟨#[71, 69, 84]⟩ : ByteArray), .string (⟨#[47]⟩ : ByteArray), .int .i64 1, .slice Ao21 y171.length co21, .bool false, .slice none 0 0, .slice none 0 0] 25 (0, 0)) (Mark.b BK175) hb)
           have n5_ := Aside0.mk (below_step Mark.h hb)
           clear HO173
           clear HO180
           clear HO183
           clear BK174
           clear BK175
           clear HB
           have HO173 := n0_
           have HO180 := n1_
           have HO183 := n2_
           have BK174 := n3_
           have BK175 := n4_
           have HB := n5_
           clear n0_ n1_ n2_ n3_ n4_ n5_
           (try clear hb)
           (try clear hb2)
           (try clear hk)
           (try clear hi)
           refine hK.out _ _ ⟨v179, v182, v194, v198, v201, m41_, (by rw [ha.out]; exact putSel_upk 23 hb_ rfl rfl rfl), (Mark.r HO173), (Mark.b BK174), (Mark.b BK175), Mark.h, fun _ => (Mark.n HO180), fun _ => (Mark.n HO183), Mark.x (hoff 41 (by kernel_rfl)), Mark.x (hoff 41 (by kernel_rfl)), Mark.x (hoff 41 (by kernel_rfl)), Mark.x (hoff 41 (by kernel_rfl))⟩
          refine steps_cons ?_ ?_
          ·rintro b a w' ⟨v179, v182, v194, v198, v201, m41_, ha, Q_HO173, Q_BK174, Q_BK175, Q_HB, Q_HO180, Q_HO183, Q_HO195, Q_HO199, Q_HO202, Q_X41_⟩ hb_ hon hoff
           refine ⟨_, rfl, fun K hK => ?_⟩
           have e29 : a.tmps[29]? = some (.bool (t185 == 22)) := by rw [ha]; exact putSel_on (e := (21, 29, .bool (t185 == 22))) 21 rfl rfl (hon 21 (by kernel_rfl)) rfl
           have e31 : a.tmps[31]? = some (.bool true) := by rw [ha]; exact putSel_on (e := (23, 31, .bool true)) 23 rfl rfl (hon 23 (by kernel_rfl)) rfl
           replace ha := Aside0.mk ha
           have HO173 := Aside0.mk Q_HO173
           have BK174 := Aside0.mk Q_BK174
           have BK175 := Aside0.mk Q_BK175
           have HB := Aside0.mk Q_HB
           have HO180 := Aside0.mk (Q_HO180 (hon 11 (by kernel_rfl)))
           have HO183 := Aside0.mk (Q_HO183 (hon 13 (by kernel_rfl)))
           refine value_ (w1 := w') (v := .bool true) (by rfl) rfl ?_ ?_
           ·go_simp
            (try simp only [i64_w])
            try rfl
           refine hK.out _ _ ⟨v179, v182, v194, v198, v201, m41_, (by rw [ha.out]; exact putSel_upk 24 hb_ rfl rfl rfl), Q_HO173, Q_BK174, Q_BK175, Q_HB, Q_HO180, Q_HO183, Mark.x (hoff 41 (by kernel_rfl)), Mark.x (hoff 41 (by kernel_rfl)), Mark.x (hoff 41 (by kernel_rfl)), Mark.x (hoff 41 (by kernel_rfl))⟩
          refine steps_cons ?_ ?_
          ·rintro b a w' ⟨v179, v182, v194, v198, v201, m41_, ha, Q_HO173, Q_BK174, Q_BK175, Q_HB, Q_HO180, Q_HO183, Q_HO195, Q_HO199, Q_HO202, Q_X41_⟩ hb_ hon hoff
           refine ⟨_, rfl, fun K hK => ?_⟩
           have e32 : a.tmps[32]? = some (.bool true) := by rw [ha]; exact putSel_on (e := (24, 32, .bool true)) 24 rfl rfl (hon 24 (by kernel_rfl)) rfl
           replace ha := Aside0.mk ha
           have HO173 := Aside0.mk Q_HO173
           have BK174 := Aside0.mk Q_BK174
           have BK175 := Aside0.mk Q_BK175
           have HB := Aside0.mk Q_HB
           have HO180 := Aside0.mk (Q_HO180 (hon 11 (by kernel_rfl)))
           have HO183 := Aside0.mk (Q_HO183 (hon 13 (by kernel_rfl)))
           refine value_ (w1 := w') (v := .bool true) (by rfl) rfl ?_ ?_
           ·go_simp
            (try simp only [i64_w])
            try rfl
           refine hK.out _ _ ⟨v179, v182, v194, v198, v201, m41_, (by rw [ha.out]; exact putSel_upk 25 hb_ rfl rfl rfl), Q_HO173, Q_BK174, Q_BK175, Q_HB, Q_HO180, Q_HO183, Mark.x (hoff 41 (by kernel_rfl)), Mark.x (hoff 41 (by kernel_rfl)), Mark.x (hoff 41 (by kernel_rfl)), Mark.x (hoff 41 (by kernel_rfl))⟩
          refine steps_cons ?_ ?_
          ·rintro b a w' ⟨v179, v182, v194, v198, v201, m41_, ha, Q_HO173, Q_BK174, Q_BK175, Q_HB, Q_HO180, Q_HO183, Q_HO195, Q_HO199, Q_HO202, Q_X41_⟩ hb_ hon hoff
           refine ⟨_, rfl, fun K hK => ?_⟩
           have e2 : a.tmps[2]? = some (.pointer (some ⟨gb175, 0, none⟩)) := by rw [ha]; exact (putSel_off rfl).trans rfl
           have e33 : a.tmps[33]? = some (.bool true) := by rw [ha]; exact putSel_on (e := (25, 33, .bool true)) 25 rfl rfl (hon 25 (by kernel_rfl)) rfl
           replace ha := Aside0.mk ha
           have HO173 := Aside0.mk Q_HO173
           have BK174 := Aside0.mk Q_BK174
           have BK175 := Aside0.mk Q_BK175
           have HB := Aside0.mk Q_HB
           have HO180 := Aside0.mk (Q_HO180 (hon 11 (by kernel_rfl)))
           have HO183 := Aside0.mk (Q_HO183 (hon 13 (by kernel_rfl)))
           have hc0_ : w'.cell? ⟨gb175, 0, none⟩ = some (.string (⟨#[71, 69, 84]⟩ : ByteArray)) := (blk_cell BK175.out 0).trans rfl
           have hc1_ : w'.cell? ⟨gb175, 1, none⟩ = some (.string (⟨#[47]⟩ : ByteArray)) := (blk_cell BK175.out 1).trans rfl
           have hc2_ : w'.cell? ⟨gb175, 2, none⟩ = some (.int .i64 1) := (blk_cell BK175.out 2).trans rfl
           have hc3_ : w'.cell? ⟨gb175, 3, none⟩ = some (.slice Ao21 y171.length co21) := (blk_cell BK175.out 3).trans rfl
           have hc4_ : w'.cell? ⟨gb175, 4, none⟩ = some (.bool false) := (blk_cell BK175.out 4).trans rfl
           have hc5_ : w'.cell? ⟨gb175, 5, none⟩ = some (.slice none 0 0) := (blk_cell BK175.out 5).trans rfl
           have hc6_ : w'.cell? ⟨gb175, 6, none⟩ = some (.slice none 0 0) := (blk_cell BK175.out 6).trans rfl
           refine value_ (w1 := w') (v := .agg #[.string (⟨#[71, 69, 84]⟩ : ByteArray), .string (⟨#[47]⟩ : ByteArray), .int .i64 1, .slice Ao21 y171.length co21, .bool false, .slice none 0 0, .slice none 0 0]) (wanted_on rfl rfl rfl (e33.trans (by first | rfl | (simp [*]; done)))) rfl ?_ ?_
           ·go_simp
            (try simp only [i64_w])
            try rfl
           refine hK.out _ _ ⟨v179, v182, v194, v198, v201, m41_, (by rw [ha.out]; exact putSel_upk 26 hb_ rfl rfl rfl), Q_HO173, Q_BK174, Q_BK175, Q_HB, Q_HO180, Q_HO183, Mark.x (hoff 41 (by kernel_rfl)), Mark.x (hoff 41 (by kernel_rfl)), Mark.x (hoff 41 (by kernel_rfl)), Mark.x (hoff 41 (by kernel_rfl))⟩
          refine steps_cons ?_ ?_
          ·rintro b a w' ⟨v179, v182, v194, v198, v201, m41_, ha, Q_HO173, Q_BK174, Q_BK175, Q_HB, Q_HO180, Q_HO183, Q_HO195, Q_HO199, Q_HO202, Q_X41_⟩ hb_ hon hoff
           refine ⟨_, rfl, fun K hK => ?_⟩
           have e34 : a.tmps[34]? = some (.agg #[.string (⟨#[71, 69, 84]⟩ : ByteArray), .string (⟨#[47]⟩ : ByteArray), .int .i64 1, .slice Ao21 y171.length co21, .bool false, .slice none 0 0, .slice none 0 0]) := by rw [ha]; exact putSel_on (e := (26, 34, .agg #[.string (⟨#[71, 69, 84]⟩ : ByteArray), .string (⟨#[47]⟩ : ByteArray), .int .i64 1, .slice Ao21 y171.length co21, .bool false, .slice none 0 0, .slice none 0 0])) 26 rfl rfl (hon 26 (by kernel_rfl)) rfl
           have e33 : a.tmps[33]? = some (.bool true) := by rw [ha]; exact putSel_on (e := (25, 33, .bool true)) 25 rfl rfl (hon 25 (by kernel_rfl)) rfl
           replace ha := Aside0.mk ha
           have HO173 := Aside0.mk Q_HO173
           have BK174 := Aside0.mk Q_BK174
           have BK175 := Aside0.mk Q_BK175
           have HB := Aside0.mk Q_HB
           have HO180 := Aside0.mk (Q_HO180 (hon 11 (by kernel_rfl)))
           have HO183 := Aside0.mk (Q_HO183 (hon 13 (by kernel_rfl)))
           refine goes_ Tryd.func14 (by kernel_rfl) rfl #[.agg #[.string (⟨#[71, 69, 84]⟩ : ByteArray), .string (⟨#[47]⟩ : ByteArray), .int .i64 1, .slice Ao21 y171.length co21, .bool false, .slice none 0 0, .slice none 0 0]] (wanted_on rfl rfl rfl (e33.trans (by first | rfl | (simp [*]; done)))) rfl rfl (by simp only [List.map_toArray, List.map_cons, List.map_nil, Act.eval, Array.getD_eq_getD_getElem?, Option.getD_some, e34, e33] <;> rfl) ?_
           refine (record_Closes.calls k (⟨#[71, 69, 84]⟩ : ByteArray) (⟨#[47]⟩ : ByteArray) 1 _ _ y171 false _ _ ([] : List Int) _ _ ([] : List (S31)) false _ ?side1 ?side2 ?side3 ?side4 ?side5 ?side6 A11.out).mono ?_
           (case side1 => repeat (first | exact (Kd.R_reads' HO173.out).2.2 | (with_reducible refine Kd.C_alloc ?_ _) | (with_reducible refine Kd.C_drewN ?_ _) | (with_reducible refine Kd.C_drew ?_)))
           (case side2 => exact (Kd.R_reads' HO173.out).2.1)
           (case side3 => exact Kd.C_nil _ _)
           (case side4 => exact Nat.le_refl _)
           (case side5 => exact Kd.C_nil _ _)
           (case side6 => exact Nat.le_refl _)
           rintro e w41 ⟨rfl, hb⟩
           refine ⟨_, rfl, ?_⟩
           have n0_ := Aside0.mk (Kd.R_below (Mark.r HO173) hb)
           have n1_ := Aside0.mk (Kd.N_below (Mark.n HO180) hb)
           have n2_ := Aside0.mk (Kd.N_below (Mark.n HO183) hb)
           have n3_ := Aside0.mk (blk_below (g := gb174) (o := .cells #[.string (⟨#[71, 69, 84]⟩ : ByteArray), .string (⟨#[47]⟩ : ByteArray), .int .i64 0, .slice Ao21 y171.length co21, .bool false, .slice none 0 0, .slice none 0 0] 25 (0, 0)) (Mark.b BK174) hb)
           have n4_ := Aside0.mk (blk_below (g := gb175) (o := .cells #[.string (⟨#[71, 69, 84]⟩ : ByteArray), .string (⟨#[47]⟩ : ByteArray), .int .i64 1, .slice Ao21 y171.length co21, .bool false, .slice none 0 0, .slice none 0 0] 25 (0, 0)) (Mark.b BK175) hb)
           have n5_ := Aside0.mk (below_step Mark.h hb)
           clear HO173
           clear HO180
           clear HO183
           clear BK174
           clear BK175
           clear HB
           have HO173 := n0_
           have HO180 := n1_
           have HO183 := n2_
           have BK174 := n3_
           have BK175 := n4_
           have HB := n5_
           clear n0_ n1_ n2_ n3_ n4_ n5_
           (try clear hb)
           (try clear hb2)
           (try clear hk)
           (try clear hi)
           refine hK.out _ _ ⟨v179, v182, v194, v198, v201, m41_, (by rw [ha.out]; exact putSel_upk 27 hb_ rfl rfl rfl), (Mark.r HO173), (Mark.b BK174), (Mark.b BK175), Mark.h, fun _ => (Mark.n HO180), fun _ => (Mark.n HO183), Mark.x (hoff 41 (by kernel_rfl)), Mark.x (hoff 41 (by kernel_rfl)), Mark.x (hoff 41 (by kernel_rfl)), Mark.x (hoff 41 (by kernel_rfl))⟩
          refine steps_cons ?_ ?_
          ·rintro b a w' ⟨v179, v182, v194, v198, v201, m41_, ha, Q_HO173, Q_BK174, Q_BK175, Q_HB, Q_HO180, Q_HO183, Q_HO195, Q_HO199, Q_HO202, Q_X41_⟩ hb_ hon hoff
           refine ⟨_, rfl, fun K hK => ?_⟩
           have e35 : a.tmps[35]? = some (.bool false) := by rw [ha]; exact putSel_on (e := (27, 35, .bool false)) 27 rfl rfl (hon 27 (by kernel_rfl)) rfl
           have e33 : a.tmps[33]? = some (.bool true) := by rw [ha]; exact putSel_on (e := (25, 33, .bool true)) 25 rfl rfl (hon 25 (by kernel_rfl)) rfl
           replace ha := Aside0.mk ha
           have HO173 := Aside0.mk Q_HO173
           have BK174 := Aside0.mk Q_BK174
           have BK175 := Aside0.mk Q_BK175
           have HB := Aside0.mk Q_HB
           have HO180 := Aside0.mk (Q_HO180 (hon 11 (by kernel_rfl)))
           have HO183 := Aside0.mk (Q_HO183 (hon 13 (by kernel_rfl)))
           refine value_ (w1 := w') (v := .bool (!false)) (wanted_on rfl rfl rfl (e33.trans (by first | rfl | (simp [*]; done)))) rfl ?_ ?_
           ·go_simp
            (try simp only [i64_w])
            try rfl
           refine hK.out _ _ ⟨v179, v182, v194, v198, v201, m41_, (by rw [ha.out]; exact putSel_upk 28 hb_ rfl rfl rfl), Q_HO173, Q_BK174, Q_BK175, Q_HB, Q_HO180, Q_HO183, Mark.x (hoff 41 (by kernel_rfl)), Mark.x (hoff 41 (by kernel_rfl)), Mark.x (hoff 41 (by kernel_rfl)), Mark.x (hoff 41 (by kernel_rfl))⟩
          refine steps_cons ?_ ?_
          ·rintro b a w' ⟨v179, v182, v194, v198, v201, m41_, ha, Q_HO173, Q_BK174, Q_BK175, Q_HB, Q_HO180, Q_HO183, Q_HO195, Q_HO199, Q_HO202, Q_X41_⟩ hb_ hon hoff
           refine ⟨_, rfl, fun K hK => ?_⟩
           have e33 : a.tmps[33]? = some (.bool true) := by rw [ha]; exact putSel_on (e := (25, 33, .bool true)) 25 rfl rfl (hon 25 (by kernel_rfl)) rfl
           have e36 : a.tmps[36]? = some (.bool (!false)) := by rw [ha]; exact putSel_on (e := (28, 36, .bool (!false))) 28 rfl rfl (hon 28 (by kernel_rfl)) rfl
           replace ha := Aside0.mk ha
           have HO173 := Aside0.mk Q_HO173
           have BK174 := Aside0.mk Q_BK174
           have BK175 := Aside0.mk Q_BK175
           have HB := Aside0.mk Q_HB
           have HO180 := Aside0.mk (Q_HO180 (hon 11 (by kernel_rfl)))
           have HO183 := Aside0.mk (Q_HO183 (hon 13 (by kernel_rfl)))
           refine value_ (w1 := w') (v := .bool (!false)) (by rfl) rfl ?_ ?_
           ·go_simp
            (try simp only [i64_w])
            try rfl
           refine hK.out _ _ ⟨v179, v182, v194, v198, v201, m41_, (by rw [ha.out]; exact putSel_upk 29 hb_ rfl rfl rfl), Q_HO173, Q_BK174, Q_BK175, Q_HB, Q_HO180, Q_HO183, Mark.x (hoff 41 (by kernel_rfl)), Mark.x (hoff 41 (by kernel_rfl)), Mark.x (hoff 41 (by kernel_rfl)), Mark.x (hoff 41 (by kernel_rfl))⟩
          refine steps_cons ?_ ?_
          ·rintro b a w' ⟨v179, v182, v194, v198, v201, m41_, ha, Q_HO173, Q_BK174, Q_BK175, Q_HB, Q_HO180, Q_HO183, Q_HO195, Q_HO199, Q_HO202, Q_X41_⟩ hb_ hon hoff
           refine ⟨_, rfl, fun K hK => ?_⟩
           have e37 : a.tmps[37]? = some (.bool (!false)) := by rw [ha]; exact putSel_on (e := (29, 37, .bool (!false))) 29 rfl rfl (hon 29 (by kernel_rfl)) rfl
           replace ha := Aside0.mk ha
           have HO173 := Aside0.mk Q_HO173
           have BK174 := Aside0.mk Q_BK174
           have BK175 := Aside0.mk Q_BK175
           have HB := Aside0.mk Q_HB
           have HO180 := Aside0.mk (Q_HO180 (hon 11 (by kernel_rfl)))
           have HO183 := Aside0.mk (Q_HO183 (hon 13 (by kernel_rfl)))
           refine value_ (w1 := w') (v := .bool (!false)) (by rfl) rfl ?_ ?_
           ·go_simp
            (try simp only [i64_w])
            try rfl
           refine hK.out _ _ ⟨v179, v182, v194, v198, v201, m41_, (by rw [ha.out]; exact putSel_upk 30 hb_ rfl rfl rfl), Q_HO173, Q_BK174, Q_BK175, Q_HB, Q_HO180, Q_HO183, Mark.x (hoff 41 (by kernel_rfl)), Mark.x (hoff 41 (by kernel_rfl)), Mark.x (hoff 41 (by kernel_rfl)), Mark.x (hoff 41 (by kernel_rfl))⟩
          refine steps_cons ?_ ?_
          ·rintro b a w' ⟨v179, v182, v194, v198, v201, m41_, ha, Q_HO173, Q_BK174, Q_BK175, Q_HB, Q_HO180, Q_HO183, Q_HO195, Q_HO199, Q_HO202, Q_X41_⟩ hb_ hon hoff
           refine ⟨_, rfl, fun K hK => ?_⟩
           have e1 : a.tmps[1]? = some (.pointer (some ⟨gb174, 0, none⟩)) := by rw [ha]; exact (putSel_off rfl).trans rfl
           have e38 : a.tmps[38]? = some (.bool (!false)) := by rw [ha]; exact putSel_on (e := (30, 38, .bool (!false))) 30 rfl rfl (hon 30 (by kernel_rfl)) rfl
           replace ha := Aside0.mk ha
           have HO173 := Aside0.mk Q_HO173
           have BK174 := Aside0.mk Q_BK174
           have BK175 := Aside0.mk Q_BK175
           have HB := Aside0.mk Q_HB
           have HO180 := Aside0.mk (Q_HO180 (hon 11 (by kernel_rfl)))
           have HO183 := Aside0.mk (Q_HO183 (hon 13 (by kernel_rfl)))
           have hc0_ : w'.cell? ⟨gb174, 0, none⟩ = some (.string (⟨#[71, 69, 84]⟩ : ByteArray)) := (blk_cell BK174.out 0).trans rfl
           have hc1_ : w'.cell? ⟨gb174, 1, none⟩ = some (.string (⟨#[47]⟩ : ByteArray)) := (blk_cell BK174.out 1).trans rfl
           have hc2_ : w'.cell? ⟨gb174, 2, none⟩ = some (.int .i64 0) := (blk_cell BK174.out 2).trans rfl
           have hc3_ : w'.cell? ⟨gb174, 3, none⟩ = some (.slice Ao21 y171.length co21) := (blk_cell BK174.out 3).trans rfl
           have hc4_ : w'.cell? ⟨gb174, 4, none⟩ = some (.bool false) := (blk_cell BK174.out 4).trans rfl
           have hc5_ : w'.cell? ⟨gb174, 5, none⟩ = some (.slice none 0 0) := (blk_cell BK174.out 5).trans rfl
           have hc6_ : w'.cell? ⟨gb174, 6, none⟩ = some (.slice none 0 0) := (blk_cell BK174.out 6).trans rfl
           refine value_ (w1 := w') (v := .agg #[.string (⟨#[71, 69, 84]⟩ : ByteArray), .string (⟨#[47]⟩ : ByteArray), .int .i64 0, .slice Ao21 y171.length co21, .bool false, .slice none 0 0, .slice none 0 0]) (wanted_on rfl rfl rfl (e38.trans (by first | rfl | (simp [*]; done)))) rfl ?_ ?_
           ·go_simp
            (try simp only [i64_w])
            try rfl
           refine hK.out _ _ ⟨v179, v182, v194, v198, v201, m41_, (by rw [ha.out]; exact putSel_upk 31 hb_ rfl rfl rfl), Q_HO173, Q_BK174, Q_BK175, Q_HB, Q_HO180, Q_HO183, Mark.x (hoff 41 (by kernel_rfl)), Mark.x (hoff 41 (by kernel_rfl)), Mark.x (hoff 41 (by kernel_rfl)), Mark.x (hoff 41 (by kernel_rfl))⟩
          refine steps_cons ?_ ?_
          ·rintro b a w' ⟨v179, v182, v194, v198, v201, m41_, ha, Q_HO173, Q_BK174, Q_BK175, Q_HB, Q_HO180, Q_HO183, Q_HO195, Q_HO199, Q_HO202, Q_X41_⟩ hb_ hon hoff
           refine ⟨_, rfl, fun K hK => ?_⟩
           have e39 : a.tmps[39]? = some (.agg #[.string (⟨#[71, 69, 84]⟩ : ByteArray), .string (⟨#[47]⟩ : ByteArray), .int .i64 0, .slice Ao21 y171.length co21, .bool false, .slice none 0 0, .slice none 0 0]) := by rw [ha]; exact putSel_on (e := (31, 39, .agg #[.string (⟨#[71, 69, 84]⟩ : ByteArray), .string (⟨#[47]⟩ : ByteArray), .int .i64 0, .slice Ao21 y171.length co21, .bool false, .slice none 0 0, .slice none 0 0])) 31 rfl rfl (hon 31 (by kernel_rfl)) rfl
           have e38 : a.tmps[38]? = some (.bool (!false)) := by rw [ha]; exact putSel_on (e := (30, 38, .bool (!false))) 30 rfl rfl (hon 30 (by kernel_rfl)) rfl
           replace ha := Aside0.mk ha
           have HO173 := Aside0.mk Q_HO173
           have BK174 := Aside0.mk Q_BK174
           have BK175 := Aside0.mk Q_BK175
           have HB := Aside0.mk Q_HB
           have HO180 := Aside0.mk (Q_HO180 (hon 11 (by kernel_rfl)))
           have HO183 := Aside0.mk (Q_HO183 (hon 13 (by kernel_rfl)))
           refine goes_ Tryd.func16 (by kernel_rfl) rfl #[.agg #[.string (⟨#[71, 69, 84]⟩ : ByteArray), .string (⟨#[47]⟩ : ByteArray), .int .i64 0, .slice Ao21 y171.length co21, .bool false, .slice none 0 0, .slice none 0 0]] (wanted_on rfl rfl rfl (e38.trans (by first | rfl | (simp [*]; done)))) rfl rfl (by simp only [List.map_toArray, List.map_cons, List.map_nil, Act.eval, Array.getD_eq_getD_getElem?, Option.getD_some, e39, e38] <;> rfl) ?_
           refine (record_Expects.calls k (⟨#[71, 69, 84]⟩ : ByteArray) (⟨#[47]⟩ : ByteArray) 0 _ _ y171 false _ _ ([] : List Int) _ _ ([] : List (S31)) false _ ?side1 ?side2 ?side3 ?side4 ?side5 ?side6 A13.out).mono ?_
           (case side1 => repeat (first | exact (Kd.R_reads' HO173.out).2.2 | (with_reducible refine Kd.C_alloc ?_ _) | (with_reducible refine Kd.C_drewN ?_ _) | (with_reducible refine Kd.C_drew ?_)))
           (case side2 => exact (Kd.R_reads' HO173.out).2.1)
           (case side3 => exact Kd.C_nil _ _)
           (case side4 => exact Nat.le_refl _)
           (case side5 => exact Kd.C_nil _ _)
           (case side6 => exact Nat.le_refl _)
           rintro e w42 ⟨rfl, hb⟩
           refine ⟨_, rfl, ?_⟩
           have n0_ := Aside0.mk (Kd.R_below (Mark.r HO173) hb)
           have n1_ := Aside0.mk (Kd.N_below (Mark.n HO180) hb)
           have n2_ := Aside0.mk (Kd.N_below (Mark.n HO183) hb)
           have n3_ := Aside0.mk (blk_below (g := gb174) (o := .cells #[.string (⟨#[71, 69, 84]⟩ : ByteArray), .string (⟨#[47]⟩ : ByteArray), .int .i64 0, .slice Ao21 y171.length co21, .bool false, .slice none 0 0, .slice none 0 0] 25 (0, 0)) (Mark.b BK174) hb)
           have n4_ := Aside0.mk (blk_below (g := gb175) (o := .cells #[.string (⟨#[71, 69, 84]⟩ : ByteArray), .string (⟨#[47]⟩ : ByteArray), .int .i64 1, .slice Ao21 y171.length co21, .bool false, .slice none 0 0, .slice none 0 0] 25 (0, 0)) (Mark.b BK175) hb)
           have n5_ := Aside0.mk (below_step Mark.h hb)
           clear HO173
           clear HO180
           clear HO183
           clear BK174
           clear BK175
           clear HB
           have HO173 := n0_
           have HO180 := n1_
           have HO183 := n2_
           have BK174 := n3_
           have BK175 := n4_
           have HB := n5_
           clear n0_ n1_ n2_ n3_ n4_ n5_
           (try clear hb)
           (try clear hb2)
           (try clear hk)
           (try clear hi)
           refine hK.out _ _ ⟨v179, v182, v194, v198, v201, m41_, (by rw [ha.out]; exact putSel_upk 32 hb_ rfl rfl rfl), (Mark.r HO173), (Mark.b BK174), (Mark.b BK175), Mark.h, fun _ => (Mark.n HO180), fun _ => (Mark.n HO183), Mark.x (hoff 41 (by kernel_rfl)), Mark.x (hoff 41 (by kernel_rfl)), Mark.x (hoff 41 (by kernel_rfl)), Mark.x (hoff 41 (by kernel_rfl))⟩
          refine steps_cons ?_ ?_
          ·rintro b a w' ⟨v179, v182, v194, v198, v201, m41_, ha, Q_HO173, Q_BK174, Q_BK175, Q_HB, Q_HO180, Q_HO183, Q_HO195, Q_HO199, Q_HO202, Q_X41_⟩ hb_ hon hoff
           refine ⟨_, rfl, fun K hK => ?_⟩
           have e40 : a.tmps[40]? = some (.bool false) := by rw [ha]; exact putSel_on (e := (32, 40, .bool false)) 32 rfl rfl (hon 32 (by kernel_rfl)) rfl
           have e38 : a.tmps[38]? = some (.bool (!false)) := by rw [ha]; exact putSel_on (e := (30, 38, .bool (!false))) 30 rfl rfl (hon 30 (by kernel_rfl)) rfl
           replace ha := Aside0.mk ha
           have HO173 := Aside0.mk Q_HO173
           have BK174 := Aside0.mk Q_BK174
           have BK175 := Aside0.mk Q_BK175
           have HB := Aside0.mk Q_HB
           have HO180 := Aside0.mk (Q_HO180 (hon 11 (by kernel_rfl)))
           have HO183 := Aside0.mk (Q_HO183 (hon 13 (by kernel_rfl)))
           refine value_ (w1 := w') (v := .bool (!false)) (wanted_on rfl rfl rfl (e38.trans (by first | rfl | (simp [*]; done)))) rfl ?_ ?_
           ·go_simp
            (try simp only [i64_w])
            try rfl
           refine hK.out _ _ ⟨v179, v182, v194, v198, v201, m41_, (by rw [ha.out]; exact putSel_upk 33 hb_ rfl rfl rfl), Q_HO173, Q_BK174, Q_BK175, Q_HB, Q_HO180, Q_HO183, Mark.x (hoff 41 (by kernel_rfl)), Mark.x (hoff 41 (by kernel_rfl)), Mark.x (hoff 41 (by kernel_rfl)), Mark.x (hoff 41 (by kernel_rfl))⟩
          refine steps_cons ?_ ?_
          ·rintro b a w' ⟨v179, v182, v194, v198, v201, m41_, ha, Q_HO173, Q_BK174, Q_BK175, Q_HB, Q_HO180, Q_HO183, Q_HO195, Q_HO199, Q_HO202, Q_X41_⟩ hb_ hon hoff
           refine ⟨_, rfl, fun K hK => ?_⟩
           have e38 : a.tmps[38]? = some (.bool (!false)) := by rw [ha]; exact putSel_on (e := (30, 38, .bool (!false))) 30 rfl rfl (hon 30 (by kernel_rfl)) rfl
           have e41 : a.tmps[41]? = some (.bool (!false)) := by rw [ha]; exact putSel_on (e := (33, 41, .bool (!false))) 33 rfl rfl (hon 33 (by kernel_rfl)) rfl
           replace ha := Aside0.mk ha
           have HO173 := Aside0.mk Q_HO173
           have BK174 := Aside0.mk Q_BK174
           have BK175 := Aside0.mk Q_BK175
           have HB := Aside0.mk Q_HB
           have HO180 := Aside0.mk (Q_HO180 (hon 11 (by kernel_rfl)))
           have HO183 := Aside0.mk (Q_HO183 (hon 13 (by kernel_rfl)))
           refine value_ (w1 := w') (v := .bool (!false)) (by rfl) rfl ?_ ?_
           ·go_simp
            (try simp only [i64_w])
            try rfl
           refine hK.out _ _ ⟨v179, v182, v194, v198, v201, m41_, (by rw [ha.out]; exact putSel_upk 34 hb_ rfl rfl rfl), Q_HO173, Q_BK174, Q_BK175, Q_HB, Q_HO180, Q_HO183, Mark.x (hoff 41 (by kernel_rfl)), Mark.x (hoff 41 (by kernel_rfl)), Mark.x (hoff 41 (by kernel_rfl)), Mark.x (hoff 41 (by kernel_rfl))⟩
          refine steps_cons ?_ ?_
          ·rintro b a w' ⟨v179, v182, v194, v198, v201, m41_, ha, Q_HO173, Q_BK174, Q_BK175, Q_HB, Q_HO180, Q_HO183, Q_HO195, Q_HO199, Q_HO202, Q_X41_⟩ hb_ hon hoff
           refine ⟨_, rfl, fun K hK => ?_⟩
           have e42 : a.tmps[42]? = some (.bool (!false)) := by rw [ha]; exact putSel_on (e := (34, 42, .bool (!false))) 34 rfl rfl (hon 34 (by kernel_rfl)) rfl
           replace ha := Aside0.mk ha
           have HO173 := Aside0.mk Q_HO173
           have BK174 := Aside0.mk Q_BK174
           have BK175 := Aside0.mk Q_BK175
           have HB := Aside0.mk Q_HB
           have HO180 := Aside0.mk (Q_HO180 (hon 11 (by kernel_rfl)))
           have HO183 := Aside0.mk (Q_HO183 (hon 13 (by kernel_rfl)))
           refine value_ (w1 := w') (v := .bool (!false)) (by rfl) rfl ?_ ?_
           ·go_simp
            (try simp only [i64_w])
            try rfl
           refine hK.out _ _ ⟨v179, v182, v194, v198, v201, m41_, (by rw [ha.out]; exact putSel_upk 35 hb_ rfl rfl rfl), Q_HO173, Q_BK174, Q_BK175, Q_HB, Q_HO180, Q_HO183, Mark.x (hoff 41 (by kernel_rfl)), Mark.x (hoff 41 (by kernel_rfl)), Mark.x (hoff 41 (by kernel_rfl)), Mark.x (hoff 41 (by kernel_rfl))⟩
          refine steps_cons ?_ ?_
          ·rintro b a w' ⟨v179, v182, v194, v198, v201, m41_, ha, Q_HO173, Q_BK174, Q_BK175, Q_HB, Q_HO180, Q_HO183, Q_HO195, Q_HO199, Q_HO202, Q_X41_⟩ hb_ hon hoff
           refine ⟨_, rfl, fun K hK => ?_⟩
           have e2 : a.tmps[2]? = some (.pointer (some ⟨gb175, 0, none⟩)) := by rw [ha]; exact (putSel_off rfl).trans rfl
           have e43 : a.tmps[43]? = some (.bool (!false)) := by rw [ha]; exact putSel_on (e := (35, 43, .bool (!false))) 35 rfl rfl (hon 35 (by kernel_rfl)) rfl
           replace ha := Aside0.mk ha
           have HO173 := Aside0.mk Q_HO173
           have BK174 := Aside0.mk Q_BK174
           have BK175 := Aside0.mk Q_BK175
           have HB := Aside0.mk Q_HB
           have HO180 := Aside0.mk (Q_HO180 (hon 11 (by kernel_rfl)))
           have HO183 := Aside0.mk (Q_HO183 (hon 13 (by kernel_rfl)))
           have hc0_ : w'.cell? ⟨gb175, 0, none⟩ = some (.string (⟨#[71, 69, 84]⟩ : ByteArray)) := (blk_cell BK175.out 0).trans rfl
           have hc1_ : w'.cell? ⟨gb175, 1, none⟩ = some (.string (⟨#[47]⟩ : ByteArray)) := (blk_cell BK175.out 1).trans rfl
           have hc2_ : w'.cell? ⟨gb175, 2, none⟩ = some (.int .i64 1) := (blk_cell BK175.out 2).trans rfl
           have hc3_ : w'.cell? ⟨gb175, 3, none⟩ = some (.slice Ao21 y171.length co21) := (blk_cell BK175.out 3).trans rfl
           have hc4_ : w'.cell? ⟨gb175, 4, none⟩ = some (.bool false) := (blk_cell BK175.out 4).trans rfl
           have hc5_ : w'.cell? ⟨gb175, 5, none⟩ = some (.slice none 0 0) := (blk_cell BK175.out 5).trans rfl
           have hc6_ : w'.cell? ⟨gb175, 6, none⟩ = some (.slice none 0 0) := (blk_cell BK175.out 6).trans rfl
           refine value_ (w1 := w') (v := .agg #[.string (⟨#[71, 69, 84]⟩ : ByteArray), .string (⟨#[47]⟩ : ByteArray), .int .i64 1, .slice Ao21 y171.length co21, .bool false, .slice none 0 0, .slice none 0 0]) (wanted_on rfl rfl rfl (e43.trans (by first | rfl | (simp [*]; done)))) rfl ?_ ?_
           ·go_simp
            (try simp only [i64_w])
            try rfl
           refine hK.out _ _ ⟨v179, v182, v194, v198, v201, m41_, (by rw [ha.out]; exact putSel_upk 36 hb_ rfl rfl rfl), Q_HO173, Q_BK174, Q_BK175, Q_HB, Q_HO180, Q_HO183, Mark.x (hoff 41 (by kernel_rfl)), Mark.x (hoff 41 (by kernel_rfl)), Mark.x (hoff 41 (by kernel_rfl)), Mark.x (hoff 41 (by kernel_rfl))⟩
          refine steps_cons ?_ ?_
          ·rintro b a w' ⟨v179, v182, v194, v198, v201, m41_, ha, Q_HO173, Q_BK174, Q_BK175, Q_HB, Q_HO180, Q_HO183, Q_HO195, Q_HO199, Q_HO202, Q_X41_⟩ hb_ hon hoff
           refine ⟨_, rfl, fun K hK => ?_⟩
           have e44 : a.tmps[44]? = some (.agg #[.string (⟨#[71, 69, 84]⟩ : ByteArray), .string (⟨#[47]⟩ : ByteArray), .int .i64 1, .slice Ao21 y171.length co21, .bool false, .slice none 0 0, .slice none 0 0]) := by rw [ha]; exact putSel_on (e := (36, 44, .agg #[.string (⟨#[71, 69, 84]⟩ : ByteArray), .string (⟨#[47]⟩ : ByteArray), .int .i64 1, .slice Ao21 y171.length co21, .bool false, .slice none 0 0, .slice none 0 0])) 36 rfl rfl (hon 36 (by kernel_rfl)) rfl
           have e43 : a.tmps[43]? = some (.bool (!false)) := by rw [ha]; exact putSel_on (e := (35, 43, .bool (!false))) 35 rfl rfl (hon 35 (by kernel_rfl)) rfl
           replace ha := Aside0.mk ha
           have HO173 := Aside0.mk Q_HO173
           have BK174 := Aside0.mk Q_BK174
           have BK175 := Aside0.mk Q_BK175
           have HB := Aside0.mk Q_HB
           have HO180 := Aside0.mk (Q_HO180 (hon 11 (by kernel_rfl)))
           have HO183 := Aside0.mk (Q_HO183 (hon 13 (by kernel_rfl)))
           refine goes_ Tryd.func16 (by kernel_rfl) rfl #[.agg #[.string (⟨#[71, 69, 84]⟩ : ByteArray), .string (⟨#[47]⟩ : ByteArray), .int .i64 1, .slice Ao21 y171.length co21, .bool false, .slice none 0 0, .slice none 0 0]] (wanted_on rfl rfl rfl (e43.trans (by first | rfl | (simp [*]; done)))) rfl rfl (by simp only [List.map_toArray, List.map_cons, List.map_nil, Act.eval, Array.getD_eq_getD_getElem?, Option.getD_some, e44, e43] <;> rfl) ?_
           refine (record_Expects.calls k (⟨#[71, 69, 84]⟩ : ByteArray) (⟨#[47]⟩ : ByteArray) 1 _ _ y171 false _ _ ([] : List Int) _ _ ([] : List (S31)) true _ ?side1 ?side2 ?side3 ?side4 ?side5 ?side6 A15.out).mono ?_
           (case side1 => repeat (first | exact (Kd.R_reads' HO173.out).2.2 | (with_reducible refine Kd.C_alloc ?_ _) | (with_reducible refine Kd.C_drewN ?_ _) | (with_reducible refine Kd.C_drew ?_)))
           (case side2 => exact (Kd.R_reads' HO173.out).2.1)
           (case side3 => exact Kd.C_nil _ _)
           (case side4 => exact Nat.le_refl _)
           (case side5 => exact Kd.C_nil _ _)
           (case side6 => exact Nat.le_refl _)
           rintro e w43 ⟨rfl, hb⟩
           refine ⟨_, rfl, ?_⟩
           have n0_ := Aside0.mk (Kd.R_below (Mark.r HO173) hb)
           have n1_ := Aside0.mk (Kd.N_below (Mark.n HO180) hb)
           have n2_ := Aside0.mk (Kd.N_below (Mark.n HO183) hb)
           have n3_ := Aside0.mk (blk_below (g := gb174) (o := .cells #[.string (⟨#[71, 69, 84]⟩ : ByteArray), .string (⟨#[47]⟩ : ByteArray), .int .i64 0, .slice Ao21 y171.length co21, .bool false, .slice none 0 0, .slice none 0 0] 25 (0, 0)) (Mark.b BK174) hb)
           have n4_ := Aside0.mk (blk_below (g := gb175) (o := .cells #[.string (⟨#[71, 69, 84]⟩ : ByteArray), .string (⟨#[47]⟩ : ByteArray), .int .i64 1, .slice Ao21 y171.length co21, .bool false, .slice none 0 0, .slice none 0 0] 25 (0, 0)) (Mark.b BK175) hb)
           have n5_ := Aside0.mk (below_step Mark.h hb)
           clear HO173
           clear HO180
           clear HO183
           clear BK174
           clear BK175
           clear HB
           have HO173 := n0_
           have HO180 := n1_
           have HO183 := n2_
           have BK174 := n3_
           have BK175 := n4_
           have HB := n5_
           clear n0_ n1_ n2_ n3_ n4_ n5_
           (try clear hb)
           (try clear hb2)
           (try clear hk)
           (try clear hi)
           refine hK.out _ _ ⟨v179, v182, v194, v198, v201, m41_, (by rw [ha.out]; exact putSel_upk 37 hb_ rfl rfl rfl), (Mark.r HO173), (Mark.b BK174), (Mark.b BK175), Mark.h, fun _ => (Mark.n HO180), fun _ => (Mark.n HO183), Mark.x (hoff 41 (by kernel_rfl)), Mark.x (hoff 41 (by kernel_rfl)), Mark.x (hoff 41 (by kernel_rfl)), Mark.x (hoff 41 (by kernel_rfl))⟩
          refine steps_cons ?_ ?_
          ·rintro b a w' ⟨v179, v182, v194, v198, v201, m41_, ha, Q_HO173, Q_BK174, Q_BK175, Q_HB, Q_HO180, Q_HO183, Q_HO195, Q_HO199, Q_HO202, Q_X41_⟩ hb_ hon hoff
           refine ⟨_, rfl, fun K hK => ?_⟩
           have e43 : a.tmps[43]? = some (.bool (!false)) := by rw [ha]; exact putSel_on (e := (35, 43, .bool (!false))) 35 rfl rfl (hon 35 (by kernel_rfl)) rfl
           have e45 : a.tmps[45]? = some (.bool true) := by rw [ha]; exact putSel_on (e := (37, 45, .bool true)) 37 rfl rfl (hon 37 (by kernel_rfl)) rfl
           replace ha := Aside0.mk ha
           have HO173 := Aside0.mk Q_HO173
           have BK174 := Aside0.mk Q_BK174
           have BK175 := Aside0.mk Q_BK175
           have HB := Aside0.mk Q_HB
           have HO180 := Aside0.mk (Q_HO180 (hon 11 (by kernel_rfl)))
           have HO183 := Aside0.mk (Q_HO183 (hon 13 (by kernel_rfl)))
           refine value_ (w1 := w') (v := .bool true) (by rfl) rfl ?_ ?_
           ·go_simp
            (try simp only [i64_w])
            try rfl
           refine hK.out _ _ ⟨v179, v182, v194, v198, v201, m41_, (by rw [ha.out]; exact putSel_upk 38 hb_ rfl rfl rfl), Q_HO173, Q_BK174, Q_BK175, Q_HB, Q_HO180, Q_HO183, Mark.x (hoff 41 (by kernel_rfl)), Mark.x (hoff 41 (by kernel_rfl)), Mark.x (hoff 41 (by kernel_rfl)), Mark.x (hoff 41 (by kernel_rfl))⟩
          refine steps_cons ?_ ?_
          ·rintro b a w' ⟨v179, v182, v194, v198, v201, m41_, ha, Q_HO173, Q_BK174, Q_BK175, Q_HB, Q_HO180, Q_HO183, Q_HO195, Q_HO199, Q_HO202, Q_X41_⟩ hb_ hon hoff
           refine ⟨_, rfl, fun K hK => ?_⟩
           have e46 : a.tmps[46]? = some (.bool true) := by rw [ha]; exact putSel_on (e := (38, 46, .bool true)) 38 rfl rfl (hon 38 (by kernel_rfl)) rfl
           replace ha := Aside0.mk ha
           have HO173 := Aside0.mk Q_HO173
           have BK174 := Aside0.mk Q_BK174
           have BK175 := Aside0.mk Q_BK175
           have HB := Aside0.mk Q_HB
           have HO180 := Aside0.mk (Q_HO180 (hon 11 (by kernel_rfl)))
           have HO183 := Aside0.mk (Q_HO183 (hon 13 (by kernel_rfl)))
           refine value_ (w1 := w') (v := .bool true) (by rfl) rfl ?_ ?_
           ·go_simp
            (try simp only [i64_w])
            try rfl
           refine hK.out _ _ ⟨v179, v182, v194, v198, v201, m41_, (by rw [ha.out]; exact putSel_upk 39 hb_ rfl rfl rfl), Q_HO173, Q_BK174, Q_BK175, Q_HB, Q_HO180, Q_HO183, Mark.x (hoff 41 (by kernel_rfl)), Mark.x (hoff 41 (by kernel_rfl)), Mark.x (hoff 41 (by kernel_rfl)), Mark.x (hoff 41 (by kernel_rfl))⟩
          refine steps_cons ?_ ?_
          ·rintro b a w' ⟨v179, v182, v194, v198, v201, m41_, ha, Q_HO173, Q_BK174, Q_BK175, Q_HB, Q_HO180, Q_HO183, Q_HO195, Q_HO199, Q_HO202, Q_X41_⟩ hb_ hon hoff
           refine ⟨_, rfl, fun K hK => ?_⟩
           have e2 : a.tmps[2]? = some (.pointer (some ⟨gb175, 0, none⟩)) := by rw [ha]; exact (putSel_off rfl).trans rfl
           have e47 : a.tmps[47]? = some (.bool true) := by rw [ha]; exact putSel_on (e := (39, 47, .bool true)) 39 rfl rfl (hon 39 (by kernel_rfl)) rfl
           replace ha := Aside0.mk ha
           have HO173 := Aside0.mk Q_HO173
           have BK174 := Aside0.mk Q_BK174
           have BK175 := Aside0.mk Q_BK175
           have HB := Aside0.mk Q_HB
           have HO180 := Aside0.mk (Q_HO180 (hon 11 (by kernel_rfl)))
           have HO183 := Aside0.mk (Q_HO183 (hon 13 (by kernel_rfl)))
           have hc0_ : w'.cell? ⟨gb175, 0, none⟩ = some (.string (⟨#[71, 69, 84]⟩ : ByteArray)) := (blk_cell BK175.out 0).trans rfl
           have hc1_ : w'.cell? ⟨gb175, 1, none⟩ = some (.string (⟨#[47]⟩ : ByteArray)) := (blk_cell BK175.out 1).trans rfl
           have hc2_ : w'.cell? ⟨gb175, 2, none⟩ = some (.int .i64 1) := (blk_cell BK175.out 2).trans rfl
           have hc3_ : w'.cell? ⟨gb175, 3, none⟩ = some (.slice Ao21 y171.length co21) := (blk_cell BK175.out 3).trans rfl
           have hc4_ : w'.cell? ⟨gb175, 4, none⟩ = some (.bool false) := (blk_cell BK175.out 4).trans rfl
           have hc5_ : w'.cell? ⟨gb175, 5, none⟩ = some (.slice none 0 0) := (blk_cell BK175.out 5).trans rfl
           have hc6_ : w'.cell? ⟨gb175, 6, none⟩ = some (.slice none 0 0) := (blk_cell BK175.out 6).trans rfl
           refine value_ (w1 := w') (v := .agg #[.string (⟨#[71, 69, 84]⟩ : ByteArray), .string (⟨#[47]⟩ : ByteArray), .int .i64 1, .slice Ao21 y171.length co21, .bool false, .slice none 0 0, .slice none 0 0]) (wanted_on rfl rfl rfl (e47.trans (by first | rfl | (simp [*]; done)))) rfl ?_ ?_
           ·go_simp
            (try simp only [i64_w])
            try rfl
           refine hK.out _ _ ⟨v179, v182, v194, v198, v201, m41_, (by rw [ha.out]; exact putSel_upk 40 hb_ rfl rfl rfl), Q_HO173, Q_BK174, Q_BK175, Q_HB, Q_HO180, Q_HO183, Mark.x (hoff 41 (by kernel_rfl)), Mark.x (hoff 41 (by kernel_rfl)), Mark.x (hoff 41 (by kernel_rfl)), Mark.x (hoff 41 (by kernel_rfl))⟩
          refine steps_cons ?_ ?_
          ·rintro b a w' ⟨v179, v182, v194, v198, v201, m41_, ha, Q_HO173, Q_BK174, Q_BK175, Q_HB, Q_HO180, Q_HO183, Q_HO195, Q_HO199, Q_HO202, Q_X41_⟩ hb_ hon hoff
           refine ⟨_, rfl, fun K hK => ?_⟩
           have e48 : a.tmps[48]? = some (.agg #[.string (⟨#[71, 69, 84]⟩ : ByteArray), .string (⟨#[47]⟩ : ByteArray), .int .i64 1, .slice Ao21 y171.length co21, .bool false, .slice none 0 0, .slice none 0 0]) := by rw [ha]; exact putSel_on (e := (40, 48, .agg #[.string (⟨#[71, 69, 84]⟩ : ByteArray), .string (⟨#[47]⟩ : ByteArray), .int .i64 1, .slice Ao21 y171.length co21, .bool false, .slice none 0 0, .slice none 0 0])) 40 rfl rfl (hon 40 (by kernel_rfl)) rfl
           have e47 : a.tmps[47]? = some (.bool true) := by rw [ha]; exact putSel_on (e := (39, 47, .bool true)) 39 rfl rfl (hon 39 (by kernel_rfl)) rfl
           replace ha := Aside0.mk ha
           have HO173 := Aside0.mk Q_HO173
           have BK174 := Aside0.mk Q_BK174
           have BK175 := Aside0.mk Q_BK175
           have HB := Aside0.mk Q_HB
           have HO180 := Aside0.mk (Q_HO180 (hon 11 (by kernel_rfl)))
           have HO183 := Aside0.mk (Q_HO183 (hon 13 (by kernel_rfl)))
           refine goes_ Tryd.func18 (by kernel_rfl) rfl #[.agg #[.string (⟨#[71, 69, 84]⟩ : ByteArray), .string (⟨#[47]⟩ : ByteArray), .int .i64 1, .slice Ao21 y171.length co21, .bool false, .slice none 0 0, .slice none 0 0]] (wanted_on rfl rfl rfl (e47.trans (by first | rfl | (simp [*]; done)))) rfl rfl (by simp only [List.map_toArray, List.map_cons, List.map_nil, Act.eval, Array.getD_eq_getD_getElem?, Option.getD_some, e48, e47] <;> rfl) ?_
           refine (record_Copy.calls (⟨#[71, 69, 84]⟩ : ByteArray) (⟨#[47]⟩ : ByteArray) 1 _ _ y171 false _ _ ([] : List Int) _ _ ([] : List (S31)) t190 t191 t192 t193 t196 t197 t200 _ ?side1 ?side2 ?side3 ?side4 ?side5 ?side6 A17.out).mono ?_
           (case side1 => repeat (first | exact (Kd.R_reads' HO173.out).2.2 | (with_reducible refine Kd.C_alloc ?_ _) | (with_reducible refine Kd.C_drewN ?_ _) | (with_reducible refine Kd.C_drew ?_)))
           (case side2 => exact (Kd.R_reads' HO173.out).2.1)
           (case side3 => exact Kd.C_nil _ _)
           (case side4 => exact Nat.le_refl _)
           (case side5 => exact Kd.C_nil _ _)
           (case side6 => exact Nat.le_refl _)
           rintro e w44 ⟨v194, v198, v201, rfl, ho0, ho1, ho2, hb⟩
           refine ⟨_, rfl, ?_⟩
           have n0_ := Aside0.mk (Kd.R_mono (Kd.R_told (Kd.R_told (Kd.R_old (Mark.r HO173) hb) (Kd.R_base ho0)) (Kd.R_base ho2)) (fun _ h_ => h_.1))
           have n1_ := Aside0.mk (Kd.N_mono (Kd.N_told (Kd.N_told (Kd.N_told (Kd.N_old (Mark.n HO180) hb) (Kd.R_base ho0)) (Kd.R_base ho1)) (Kd.R_base ho2)) (fun _ h_ => h_.1))
           have n2_ := Aside0.mk (Kd.N_mono (Kd.N_told (Kd.N_told (Kd.N_told (Kd.N_old (Mark.n HO183) hb) (Kd.R_base ho0)) (Kd.R_base ho1)) (Kd.R_base ho2)) (fun _ h_ => h_.1))
           have n3_ := Aside0.mk (Kd.R_lower (Kd.R_new' ho0 (Kd.R_lt (Mark.r HO173))) (below_size Mark.h))
           have n4_ := Aside0.mk (Kd.R_lower ho1 (below_size Mark.h))
           have n5_ := Aside0.mk (Kd.R_lower (Kd.R_new' ho2 (Kd.R_lt (Mark.r HO173))) (below_size Mark.h))
           have n6_ := Aside0.mk (blk_below (g := gb174) (o := .cells #[.string (⟨#[71, 69, 84]⟩ : ByteArray), .string (⟨#[47]⟩ : ByteArray), .int .i64 0, .slice Ao21 y171.length co21, .bool false, .slice none 0 0, .slice none 0 0] 25 (0, 0)) (Mark.b BK174) hb)
           have n7_ := Aside0.mk (blk_below (g := gb175) (o := .cells #[.string (⟨#[71, 69, 84]⟩ : ByteArray), .string (⟨#[47]⟩ : ByteArray), .int .i64 1, .slice Ao21 y171.length co21, .bool false, .slice none 0 0, .slice none 0 0] 25 (0, 0)) (Mark.b BK175) hb)
           have n8_ := Aside0.mk (below_step Mark.h hb)
           clear HO173
           clear HO180
           clear HO183
           clear BK174
           clear BK175
           clear HB
           have HO173 := n0_
           have HO180 := n1_
           have HO183 := n2_
           have HO195 := n3_
           have HO199 := n4_
           have HO202 := n5_
           have BK174 := n6_
           have BK175 := n7_
           have HB := n8_
           clear n0_ n1_ n2_ n3_ n4_ n5_ n6_ n7_ n8_
           (try clear hb)
           (try clear hb2)
           (try clear hk)
           (try clear hi)
           (try clear ho0)
           (try clear ho1)
           (try clear ho2)
           refine hK.out _ _ ⟨v179, v182, v194, v198, v201, (.agg #[.string t190, .string t191, .int .i64 t192, v194, .bool t196, v198, v201]), (by rw [ha.out]; exact putSel_upk 41 hb_ rfl rfl rfl), (by (with_reducible repeat (first | apply Kd.R_alloc | apply Kd.R_drewN | apply Kd.R_drew)); exact Kd.R_mono HO173.out (fun _ hk => by first | exact ⟨hk.1.2, hk.2⟩ | trivial | exact hk | exact hk.1 | exact hk.2 | exact hk.1.1 | exact hk.1.2 | exact hk.2.1 | exact hk.2.2 | exact hk.1.1.1 | exact hk.1.1.2 | exact hk.1.2.1 | exact hk.1.2.2 | exact hk.2.1.1 | exact hk.2.1.2 | exact hk.2.2.1 | exact hk.2.2.2 | exact hk.1.1.1.1 | exact hk.1.1.1.2 | exact hk.1.1.2.1 | exact hk.1.1.2.2 | exact hk.1.2.1.1 | exact hk.1.2.1.2 | exact hk.1.2.2.1 | exact hk.1.2.2.2 | exact hk.2.1.1.1 | exact hk.2.1.1.2 | exact hk.2.1.2.1 | exact hk.2.1.2.2 | exact hk.2.2.1.1 | exact hk.2.2.1.2 | exact hk.2.2.2.1 | exact hk.2.2.2.2)), (Mark.b BK174), (Mark.b BK175), Mark.h, fun _ => (by (with_reducible repeat (first | apply Kd.N_alloc | apply Kd.N_drewN | apply Kd.N_drew)); exact Kd.N_mono HO180.out (fun _ hk => by first | exact ⟨hk.1.1.1.1, ⟨hk.1.1.2, ⟨hk.1.2, ⟨hk.2, ⟨hk.1.1.1.2.1, hk.1.1.1.2.2⟩⟩⟩⟩⟩ | trivial | exact hk | exact hk.1 | exact hk.2 | exact hk.1.1 | exact hk.1.2 | exact hk.2.1 | exact hk.2.2 | exact hk.1.1.1 | exact hk.1.1.2 | exact hk.1.2.1 | exact hk.1.2.2 | exact hk.2.1.1 | exact hk.2.1.2 | exact hk.2.2.1 | exact hk.2.2.2 | exact hk.1.1.1.1 | exact hk.1.1.1.2 | exact hk.1.1.2.1 | exact hk.1.1.2.2 | exact hk.1.2.1.1 | exact hk.1.2.1.2 | exact hk.1.2.2.1 | exact hk.1.2.2.2 | exact hk.2.1.1.1 | exact hk.2.1.1.2 | exact hk.2.1.2.1 | exact hk.2.1.2.2 | exact hk.2.2.1.1 | exact hk.2.2.1.2 | exact hk.2.2.2.1 | exact hk.2.2.2.2)), fun _ => (by (with_reducible repeat (first | apply Kd.N_alloc | apply Kd.N_drewN | apply Kd.N_drew)); exact Kd.N_mono HO183.out (fun _ hk => by first | exact ⟨hk.1.1.2, ⟨hk.1.2, ⟨hk.2, ⟨hk.1.1.1.1, hk.1.1.1.2⟩⟩⟩⟩ | trivial | exact hk | exact hk.1 | exact hk.2 | exact hk.1.1 | exact hk.1.2 | exact hk.2.1 | exact hk.2.2 | exact hk.1.1.1 | exact hk.1.1.2 | exact hk.1.2.1 | exact hk.1.2.2 | exact hk.2.1.1 | exact hk.2.1.2 | exact hk.2.2.1 | exact hk.2.2.2 | exact hk.1.1.1.1 | exact hk.1.1.1.2 | exact hk.1.1.2.1 | exact hk.1.1.2.2 | exact hk.1.2.1.1 | exact hk.1.2.1.2 | exact hk.1.2.2.1 | exact hk.1.2.2.2 | exact hk.2.1.1.1 | exact hk.2.1.1.2 | exact hk.2.1.2.1 | exact hk.2.1.2.2 | exact hk.2.2.1.1 | exact hk.2.2.1.2 | exact hk.2.2.2.1 | exact hk.2.2.2.2)), fun _ => (by (with_reducible repeat (first | apply Kd.R_alloc | apply Kd.R_drewN | apply Kd.R_drew)); exact Kd.R_mono HO195.out (fun _ hk => by first | exact ⟨hk.2, hk.1⟩ | trivial | exact hk | exact hk.1 | exact hk.2 | exact hk.1.1 | exact hk.1.2 | exact hk.2.1 | exact hk.2.2 | exact hk.1.1.1 | exact hk.1.1.2 | exact hk.1.2.1 | exact hk.1.2.2 | exact hk.2.1.1 | exact hk.2.1.2 | exact hk.2.2.1 | exact hk.2.2.2 | exact hk.1.1.1.1 | exact hk.1.1.1.2 | exact hk.1.1.2.1 | exact hk.1.1.2.2 | exact hk.1.2.1.1 | exact hk.1.2.1.2 | exact hk.1.2.2.1 | exact hk.1.2.2.2 | exact hk.2.1.1.1 | exact hk.2.1.1.2 | exact hk.2.1.2.1 | exact hk.2.1.2.2 | exact hk.2.2.1.1 | exact hk.2.2.1.2 | exact hk.2.2.2.1 | exact hk.2.2.2.2)), fun _ => (Mark.r HO199), fun _ => (by (with_reducible repeat (first | apply Kd.R_alloc | apply Kd.R_drewN | apply Kd.R_drew)); exact Kd.R_mono HO202.out (fun _ hk => by first | exact ⟨hk.2, hk.1⟩ | trivial | exact hk | exact hk.1 | exact hk.2 | exact hk.1.1 | exact hk.1.2 | exact hk.2.1 | exact hk.2.2 | exact hk.1.1.1 | exact hk.1.1.2 | exact hk.1.2.1 | exact hk.1.2.2 | exact hk.2.1.1 | exact hk.2.1.2 | exact hk.2.2.1 | exact hk.2.2.2 | exact hk.1.1.1.1 | exact hk.1.1.1.2 | exact hk.1.1.2.1 | exact hk.1.1.2.2 | exact hk.1.2.1.1 | exact hk.1.2.1.2 | exact hk.1.2.2.1 | exact hk.1.2.2.2 | exact hk.2.1.1.1 | exact hk.2.1.1.2 | exact hk.2.1.2.1 | exact hk.2.1.2.2 | exact hk.2.2.1.1 | exact hk.2.2.1.2 | exact hk.2.2.2.1 | exact hk.2.2.2.2)), fun _ => rfl⟩
          refine steps_cons ?_ ?_
          ·rintro b a w' ⟨v179, v182, v194, v198, v201, m41_, ha, Q_HO173, Q_BK174, Q_BK175, Q_HB, Q_HO180, Q_HO183, Q_HO195, Q_HO199, Q_HO202, Q_X41_⟩ hb_ hon hoff
           refine ⟨_, rfl, fun K hK => ?_⟩
           have e2 : a.tmps[2]? = some (.pointer (some ⟨gb175, 0, none⟩)) := by rw [ha]; exact (putSel_off rfl).trans rfl
           have e47 : a.tmps[47]? = some (.bool true) := by rw [ha]; exact putSel_on (e := (39, 47, .bool true)) 39 rfl rfl (hon 39 (by kernel_rfl)) rfl
           replace ha := Aside0.mk ha
           have HO173 := Aside0.mk Q_HO173
           have BK174 := Aside0.mk Q_BK174
           have BK175 := Aside0.mk Q_BK175
           have HB := Aside0.mk Q_HB
           have HO180 := Aside0.mk (Q_HO180 (hon 11 (by kernel_rfl)))
           have HO183 := Aside0.mk (Q_HO183 (hon 13 (by kernel_rfl)))
           have hc0_ : w'.cell? ⟨gb175, 0, none⟩ = some (.string (⟨#[71, 69, 84]⟩ : ByteArray)) := (blk_cell BK175.out 0).trans rfl
           have hc1_ : w'.cell? ⟨gb175, 1, none⟩ = some (.string (⟨#[47]⟩ : ByteArray)) := (blk_cell BK175.out 1).trans rfl
           have hc2_ : w'.cell? ⟨gb175, 2, none⟩ = some (.int .i64 1) := (blk_cell BK175.out 2).trans rfl
           have hc3_ : w'.cell? ⟨gb175, 3, none⟩ = some (.slice Ao21 y171.length co21) := (blk_cell BK175.out 3).trans rfl
           have hc4_ : w'.cell? ⟨gb175, 4, none⟩ = some (.bool false) := (blk_cell BK175.out 4).trans rfl
           have hc5_ : w'.cell? ⟨gb175, 5, none⟩ = some (.slice none 0 0) := (blk_cell BK175.out 5).trans rfl
           have hc6_ : w'.cell? ⟨gb175, 6, none⟩ = some (.slice none 0 0) := (blk_cell BK175.out 6).trans rfl
           refine value_ (w1 := w') (v := .agg #[.string (⟨#[71, 69, 84]⟩ : ByteArray), .string (⟨#[47]⟩ : ByteArray), .int .i64 1, .slice Ao21 y171.length co21, .bool false, .slice none 0 0, .slice none 0 0]) (wanted_on rfl rfl rfl (e47.trans (by first | rfl | (simp [*]; done)))) rfl ?_ ?_
           ·go_simp
            (try simp only [i64_w])
            try rfl
           refine hK.out _ _ ⟨v179, v182, v194, v198, v201, m41_, (by rw [ha.out]; exact putSel_upk 42 hb_ rfl rfl rfl), Q_HO173, Q_BK174, Q_BK175, Q_HB, Q_HO180, Q_HO183, Q_HO195, Q_HO199, Q_HO202, Q_X41_⟩
          refine steps_cons ?_ ?_
          ·rintro b a w' ⟨v179, v182, v194, v198, v201, m41_, ha, Q_HO173, Q_BK174, Q_BK175, Q_HB, Q_HO180, Q_HO183, Q_HO195, Q_HO199, Q_HO202, Q_X41_⟩ hb_ hon hoff
           refine ⟨_, rfl, fun K hK => ?_⟩
           have e49 : a.tmps[49]? = some (m41_) := by rw [ha]; exact putSel_on (e := (41, 49, m41_)) 41 rfl rfl (hon 41 (by kernel_rfl)) rfl
           rw [Q_X41_ (hon 41 (by kernel_rfl))] at e49
           have e50 : a.tmps[50]? = some (.agg #[.string (⟨#[71, 69, 84]⟩ : ByteArray), .string (⟨#[47]⟩ : ByteArray), .int .i64 1, .slice Ao21 y171.length co21, .bool false, .slice none 0 0, .slice none 0 0]) := by rw [ha]; exact putSel_on (e := (42, 50, .agg #[.string (⟨#[71, 69, 84]⟩ : ByteArray), .string (⟨#[47]⟩ : ByteArray), .int .i64 1, .slice Ao21 y171.length co21, .bool false, .slice none 0 0, .slice none 0 0])) 42 rfl rfl (hon 42 (by kernel_rfl)) rfl
           have e47 : a.tmps[47]? = some (.bool true) := by rw [ha]; exact putSel_on (e := (39, 47, .bool true)) 39 rfl rfl (hon 39 (by kernel_rfl)) rfl
           replace ha := Aside0.mk ha
           have HO173 := Aside0.mk Q_HO173
           have BK174 := Aside0.mk Q_BK174
           have BK175 := Aside0.mk Q_BK175
           have HB := Aside0.mk Q_HB
           have HO180 := Aside0.mk (Q_HO180 (hon 11 (by kernel_rfl)))
           have HO183 := Aside0.mk (Q_HO183 (hon 13 (by kernel_rfl)))
           have HO195 := Aside0.mk (Q_HO195 (hon 41 (by kernel_rfl)))
           have HO199 := Aside0.mk (Q_HO199 (hon 41 (by kernel_rfl)))
           have HO202 := Aside0.mk (Q_HO202 (hon 41 (by kernel_rfl)))
           obtain ⟨Ao45, co45, eo45⟩ := Kd.R_slice HO195.out
           (first | subst eo45 | (injection eo45 with f1_ f2_ f3_; have f4_ := f1_.symm; have f5_ := f3_.symm; clear f1_ f2_ f3_; subst f4_; subst f5_))
           obtain ⟨Ao46, co46, eo46⟩ := Kd.R_slice HO199.out
           (first | subst eo46 | (injection eo46 with f1_ f2_ f3_; have f4_ := f1_.symm; have f5_ := f3_.symm; clear f1_ f2_ f3_; subst f4_; subst f5_))
           obtain ⟨Ao47, co47, eo47⟩ := Kd.R_slice HO202.out
           (first | subst eo47 | (injection eo47 with f1_ f2_ f3_; have f4_ := f1_.symm; have f5_ := f3_.symm; clear f1_ f2_ f3_; subst f4_; subst f5_))
           refine goes_ Tryd.func10 (by kernel_rfl) rfl #[.agg #[.string t190, .string t191, .int .i64 t192, .slice Ao45 t193.length co45, .bool t196, .slice Ao46 t197.length co46, .slice Ao47 t200.length co47], .agg #[.string (⟨#[71, 69, 84]⟩ : ByteArray), .string (⟨#[47]⟩ : ByteArray), .int .i64 1, .slice Ao21 y171.length co21, .bool false, .slice none 0 0, .slice none 0 0]] (wanted_on rfl rfl rfl (e47.trans (by first | rfl | (simp [*]; done)))) rfl rfl (by simp only [List.map_toArray, List.map_cons, List.map_nil, Act.eval, Array.getD_eq_getD_getElem?, Option.getD_some, e49, e50, e47] <;> rfl) ?_
           refine (record_Same.calls k t190 t191 t192 _ _ t193 t196 _ _ t197 _ _ t200 (⟨#[71, 69, 84]⟩ : ByteArray) (⟨#[47]⟩ : ByteArray) 1 _ _ y171 false _ _ ([] : List Int) _ _ ([] : List (S31)) t203 _ ?side1 ?side2 ?side3 ?side4 ?side5 ?side6 ?side7 ?side8 ?side9 ?side10 ?side11 ?side12 A18.out).mono ?_
           (case side1 => repeat (first | exact (Kd.R_reads' HO195.out).2.2 | (with_reducible refine Kd.C_alloc ?_ _) | (with_reducible refine Kd.C_drewN ?_ _) | (with_reducible refine Kd.C_drew ?_)))
           (case side2 => exact (Kd.R_reads' HO195.out).2.1)
           (case side3 => repeat (first | exact (Kd.R_reads' HO199.out).2.2 | (with_reducible refine Kd.C_alloc ?_ _) | (with_reducible refine Kd.C_drewN ?_ _) | (with_reducible refine Kd.C_drew ?_)))
           (case side4 => exact (Kd.R_reads' HO199.out).2.1)
           (case side5 => repeat (first | exact (Kd.R_reads' HO202.out).2.2 | (with_reducible refine Kd.C_alloc ?_ _) | (with_reducible refine Kd.C_drewN ?_ _) | (with_reducible refine Kd.C_drew ?_)))
           (case side6 => exact (Kd.R_reads' HO202.out).2.1)
           (case side7 => repeat (first | exact (Kd.R_reads' HO173.out).2.2 | (with_reducible refine Kd.C_alloc ?_ _) | (with_reducible refine Kd.C_drewN ?_ _) | (with_reducible refine Kd.C_drew ?_)))
           (case side8 => exact (Kd.R_reads' HO173.out).2.1)
           (case side9 => exact Kd.C_nil _ _)
           (case side10 => exact Nat.le_refl _)
           (case side11 => exact Kd.C_nil _ _)
           (case side12 => exact Nat.le_refl _)
           rintro e w48 ⟨rfl, hb⟩
           refine ⟨_, rfl, ?_⟩
           have n0_ := Aside0.mk (Kd.R_below (Mark.r HO173) hb)
           have n1_ := Aside0.mk (Kd.N_below (Mark.n HO180) hb)
           have n2_ := Aside0.mk (Kd.N_below (Mark.n HO183) hb)
           have n3_ := Aside0.mk (Kd.R_below (Mark.r HO195) hb)
           have n4_ := Aside0.mk (Kd.R_below (Mark.r HO199) hb)
           have n5_ := Aside0.mk (Kd.R_below (Mark.r HO202) hb)
           have n6_ := Aside0.mk (blk_below (g := gb174) (o := .cells #[.string (⟨#[71, 69, 84]⟩ : ByteArray), .string (⟨#[47]⟩ : ByteArray), .int .i64 0, .slice Ao21 y171.length co21, .bool false, .slice none 0 0, .slice none 0 0] 25 (0, 0)) (Mark.b BK174) hb)
           have n7_ := Aside0.mk (blk_below (g := gb175) (o := .cells #[.string (⟨#[71, 69, 84]⟩ : ByteArray), .string (⟨#[47]⟩ : ByteArray), .int .i64 1, .slice Ao21 y171.length co21, .bool false, .slice none 0 0, .slice none 0 0] 25 (0, 0)) (Mark.b BK175) hb)
           have n8_ := Aside0.mk (below_step Mark.h hb)
           clear HO173
           clear HO180
           clear HO183
           clear HO195
           clear HO199
           clear HO202
           clear BK174
           clear BK175
           clear HB
           have HO173 := n0_
           have HO180 := n1_
           have HO183 := n2_
           have HO195 := n3_
           have HO199 := n4_
           have HO202 := n5_
           have BK174 := n6_
           have BK175 := n7_
           have HB := n8_
           clear n0_ n1_ n2_ n3_ n4_ n5_ n6_ n7_ n8_
           (try clear hb)
           (try clear hb2)
           (try clear hk)
           (try clear hi)
           refine hK.out _ _ ⟨v179, v182, .slice Ao45 t193.length co45, .slice Ao46 t197.length co46, .slice Ao47 t200.length co47, m41_, (by rw [ha.out]; exact putSel_upk 43 hb_ rfl rfl rfl), (Mark.r HO173), (Mark.b BK174), (Mark.b BK175), Mark.h, fun _ => (Mark.n HO180), fun _ => (Mark.n HO183), fun _ => (Mark.r HO195), fun _ => (Mark.r HO199), fun _ => (Mark.r HO202), Q_X41_⟩
          refine steps_cons ?_ ?_
          ·rintro b a w' ⟨v179, v182, v194, v198, v201, m41_, ha, Q_HO173, Q_BK174, Q_BK175, Q_HB, Q_HO180, Q_HO183, Q_HO195, Q_HO199, Q_HO202, Q_X41_⟩ hb_ hon hoff
           refine ⟨_, rfl, fun K hK => ?_⟩
           have e47 : a.tmps[47]? = some (.bool true) := by rw [ha]; exact putSel_on (e := (39, 47, .bool true)) 39 rfl rfl (hon 39 (by kernel_rfl)) rfl
           have e51 : a.tmps[51]? = some (.bool t203) := by rw [ha]; exact putSel_on (e := (43, 51, .bool t203)) 43 rfl rfl (hon 43 (by kernel_rfl)) rfl
           replace ha := Aside0.mk ha
           have HO173 := Aside0.mk Q_HO173
           have BK174 := Aside0.mk Q_BK174
           have BK175 := Aside0.mk Q_BK175
           have HB := Aside0.mk Q_HB
           have HO180 := Aside0.mk (Q_HO180 (hon 11 (by kernel_rfl)))
           have HO183 := Aside0.mk (Q_HO183 (hon 13 (by kernel_rfl)))
           have HO195 := Aside0.mk (Q_HO195 (hon 41 (by kernel_rfl)))
           have HO199 := Aside0.mk (Q_HO199 (hon 41 (by kernel_rfl)))
           have HO202 := Aside0.mk (Q_HO202 (hon 41 (by kernel_rfl)))
           refine value_ (w1 := w') (v := .bool t203) (by rfl) rfl ?_ ?_
           ·go_simp
            (try simp only [i64_w])
            try rfl
           refine hK.out _ _ ⟨v179, v182, v194, v198, v201, m41_, (by rw [ha.out]; exact putSel_upk 44 hb_ rfl rfl rfl), Q_HO173, Q_BK174, Q_BK175, Q_HB, Q_HO180, Q_HO183, Q_HO195, Q_HO199, Q_HO202, Q_X41_⟩
          refine steps_cons ?_ ?_
          ·rintro b a w' ⟨v179, v182, v194, v198, v201, m41_, ha, Q_HO173, Q_BK174, Q_BK175, Q_HB, Q_HO180, Q_HO183, Q_HO195, Q_HO199, Q_HO202, Q_X41_⟩ hb_ hon hoff
           refine ⟨_, rfl, fun K hK => ?_⟩
           have e52 : a.tmps[52]? = some (.bool t203) := by rw [ha]; exact putSel_on (e := (44, 52, .bool t203)) 44 rfl rfl (hon 44 (by kernel_rfl)) rfl
           replace ha := Aside0.mk ha
           have HO173 := Aside0.mk Q_HO173
           have BK174 := Aside0.mk Q_BK174
           have BK175 := Aside0.mk Q_BK175
           have HB := Aside0.mk Q_HB
           have HO180 := Aside0.mk (Q_HO180 (hon 11 (by kernel_rfl)))
           have HO183 := Aside0.mk (Q_HO183 (hon 13 (by kernel_rfl)))
           have HO195 := Aside0.mk (Q_HO195 (hon 41 (by kernel_rfl)))
           have HO199 := Aside0.mk (Q_HO199 (hon 41 (by kernel_rfl)))
           have HO202 := Aside0.mk (Q_HO202 (hon 41 (by kernel_rfl)))
           refine value_ (w1 := w') (v := .bool t203) (by rfl) rfl ?_ ?_
           ·go_simp
            (try simp only [i64_w])
            try rfl
           refine hK.out _ _ ⟨v179, v182, v194, v198, v201, m41_, (by rw [ha.out]; exact putSel_upk 45 hb_ rfl rfl rfl), Q_HO173, Q_BK174, Q_BK175, Q_HB, Q_HO180, Q_HO183, Q_HO195, Q_HO199, Q_HO202, Q_X41_⟩
          exact steps_nil
         rintro b a w48 hall ⟨v179, v182, v194, v198, v201, m41_, ha, Q_HO173, Q_BK174, Q_BK175, Q_HB, Q_HO180, Q_HO183, Q_HO195, Q_HO199, Q_HO202, Q_X41_⟩
         clear BK174 BK175 HB HO173
         have hb0_ := hall 0 (by kernel_rfl)
         have hb1_ := hall 1 (by kernel_rfl)
         have hb2_ := hall 2 (by kernel_rfl)
         have hb3_ := hall 3 (by kernel_rfl)
         have hb4_ := hall 4 (by kernel_rfl)
         have hb5_ := hall 5 (by kernel_rfl)
         have hb6_ := hall 6 (by kernel_rfl)
         have hb7_ := hall 7 (by kernel_rfl)
         have hb8_ := hall 8 (by kernel_rfl)
         have hb9_ := hall 9 (by kernel_rfl)
         have hb10_ := hall 10 (by kernel_rfl)
         have hb11_ := hall 11 (by kernel_rfl)
         have hb12_ := hall 12 (by kernel_rfl)
         have hb13_ := hall 13 (by kernel_rfl)
         have hb14_ := hall 14 (by kernel_rfl)
         have hb15_ := hall 15 (by kernel_rfl)
         have hb16_ := hall 16 (by kernel_rfl)
         have hb17_ := hall 17 (by kernel_rfl)
         have hb18_ := hall 18 (by kernel_rfl)
         have hb19_ := hall 19 (by kernel_rfl)
         have hb20_ := hall 20 (by kernel_rfl)
         have hb21_ := hall 21 (by kernel_rfl)
         have hb22_ := hall 22 (by kernel_rfl)
         have hb23_ := hall 23 (by kernel_rfl)
         have hb24_ := hall 24 (by kernel_rfl)
         have hb25_ := hall 25 (by kernel_rfl)
         have hb26_ := hall 26 (by kernel_rfl)
         have hb27_ := hall 27 (by kernel_rfl)
         have hb28_ := hall 28 (by kernel_rfl)
         have hb29_ := hall 29 (by kernel_rfl)
         have hb30_ := hall 30 (by kernel_rfl)
         have hb31_ := hall 31 (by kernel_rfl)
         have hb32_ := hall 32 (by kernel_rfl)
         have hb33_ := hall 33 (by kernel_rfl)
         have hb34_ := hall 34 (by kernel_rfl)
         have hb35_ := hall 35 (by kernel_rfl)
         have hb36_ := hall 36 (by kernel_rfl)
         have hb37_ := hall 37 (by kernel_rfl)
         have hb38_ := hall 38 (by kernel_rfl)
         have hb39_ := hall 39 (by kernel_rfl)
         have hb40_ := hall 40 (by kernel_rfl)
         have hb41_ := hall 41 (by kernel_rfl)
         have hb42_ := hall 42 (by kernel_rfl)
         have hb43_ := hall 43 (by kernel_rfl)
         have hb44_ := hall 44 (by kernel_rfl)
         have hb45_ := hall 45 (by kernel_rfl)
         subst ha
         obtain rfl := Q_X41_ hb41_
         simp only [putSel, hb0_, hb1_, hb2_, hb3_, hb4_, hb5_, hb6_, hb7_, hb8_, hb9_, hb10_, hb11_, hb12_, hb13_, hb14_, hb15_, hb16_, hb17_, hb18_, hb19_, hb20_, hb21_, hb22_, hb23_, hb24_, hb25_, hb26_, hb27_, hb28_, hb29_, hb30_, hb31_, hb32_, hb33_, hb34_, hb35_, hb36_, hb37_, hb38_, hb39_, hb40_, hb41_, hb42_, hb43_, hb44_, hb45_, if_true, Act.put, List.setIfInBounds_toArray, List.set_cons_zero, List.set_cons_succ]
         have HO173 := Aside0.mk Q_HO173
         clear Q_HO173
         have BK174 := Aside0.mk Q_BK174
         clear Q_BK174
         have BK175 := Aside0.mk Q_BK175
         clear Q_BK175
         have HB := Aside0.mk Q_HB
         clear Q_HB
         have HO180 := Aside0.mk (Q_HO180 hb11_)
         clear Q_HO180
         have HO183 := Aside0.mk (Q_HO183 hb13_)
         clear Q_HO183
         have HO195 := Aside0.mk (Q_HO195 hb41_)
         clear Q_HO195
         have HO199 := Aside0.mk (Q_HO199 hb41_)
         clear Q_HO199
         have HO202 := Aside0.mk (Q_HO202 hb41_)
         clear Q_HO202
         clear hall hb0_ hb1_ hb2_ hb3_ hb4_ hb5_ hb6_ hb7_ hb8_ hb9_ hb10_ hb11_ hb12_ hb13_ hb14_ hb15_ hb16_ hb17_ hb18_ hb19_ hb20_ hb21_ hb22_ hb23_ hb24_ hb25_ hb26_ hb27_ hb28_ hb29_ hb30_ hb31_ hb32_ hb33_ hb34_ hb35_ hb36_ hb37_ hb38_ hb39_ hb40_ hb41_ hb42_ hb43_ hb44_ hb45_
         try go_wp2
         go_ret
         exact ⟨by first | rfl | (simp [errW_none, errW_some] <;> rfl) | (simp [*, errW_none, errW_some] <;> rfl), Mark.h⟩
        ·replace c16 := Bool.eq_false_iff.mpr c16
         subst c16
         rw [if_neg (show ¬ (false = true) by decide)] at H
         exact absurd ((Option.some.inj H).trans HT.out) (by decide)
     ·replace c10 := Bool.eq_false_iff.mpr c10
      subst c10
      rw [if_neg (show ¬ (false = true) by decide)] at H
      exact absurd ((Option.some.inj H).trans HT.out) (by decide)
    ·rw [if_neg c8] at H
     have c8b0 : (t185 == 22) = false := beq_eq_false_iff_ne.mpr c8
     have c8b1 : (t185 != 22) = true := bne_iff_ne.mpr c8
     exact absurd ((Option.some.inj H).trans HT.out) (by decide)
   ·replace c6 := Bool.eq_false_iff.mpr c6
    subst c6
    rw [if_neg (show ¬ (false = true) by decide)] at H
    exact absurd ((Option.some.inj H).trans HT.out) (by decide)
 ·replace c2 := Bool.eq_false_iff.mpr c2
  subst c2
  rw [if_neg (show ¬ (false = true) by decide)] at H
  exact absurd ((Option.some.inj H).trans HT.out) (by decide)

end Go.Proofs.YtomofacchnmepaaDoor.PRecordCopies
