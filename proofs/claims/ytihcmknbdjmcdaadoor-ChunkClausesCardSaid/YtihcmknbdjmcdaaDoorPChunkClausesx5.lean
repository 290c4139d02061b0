-- Written by a program of this session (wip/tools/myprint.sh)
import Derived.Test.YtihcmknbdjmcdaaDoorPChunkClausesx0
import Derived.Test.YtihcmknbdjmcdaaDoorPChunkClausesx3
import Derived.Test.YtihcmknbdjmcdaaDoorPChunkClausesx4
namespace Go.Proofs.YtihcmknbdjmcdaaDoor.PChunkClauses
open Go.RowKit Go.Proofs.YtihcmknbdjmcdaaDoorW.PrintWords Go.Proofs.YtihcmknbdjmcdaaDoorW.PrintLast Go.Proofs.YtihcmknbdjmcdaaDoorW.PrintMore
attribute [local go_sem] max2_int min2_int max_two min_two max_three min_three max_four min_four   -- for this text's walks alone
set_option linter.unusedVariables false
set_option linter.unusedSimpArgs false

/-! ### parallaxlaw11_ChunkClauses: function 5 -/
mutual
def parallaxlaw11_ChunkClauses.j0 : Nat → Int → Int → Bool → Int → ByteArray → Int → Int → Int → Int → Int → Int → Int → Int → Bool → Bool → Option (Bool)
  | 0, _, _, _, _, _, _, _, _, _, _, _, _, _, _, _ => none
  | k + 1, x0, x1, x4, x12, x13, x203000, x203001, x203002, x203003, x203004, x203005, x203006, x203007, x203008, x203009 => if x4 = true then (if x13.size + 4 ≤ 9223372036854775807 then (parallaxlaw11_ChunkClauses.j1 k x0 x1 x12 (x13 ++ (⟨#[59, 97, 61, 98]⟩ : ByteArray)) x203000 x203001 x203002 x203003 x203004 x203005 x203006 x203007 x203008 x203009) else (none)) else (parallaxlaw11_ChunkClauses.j1 k x0 x1 x12 x13 x203000 x203001 x203002 x203003 x203004 x203005 x203006 x203007 x203008 x203009)
def parallaxlaw11_ChunkClauses.j1 : Nat → Int → Int → Int → ByteArray → Int → Int → Int → Int → Int → Int → Int → Int → Bool → Bool → Option (Bool)
  | 0, _, _, _, _, _, _, _, _, _, _, _, _, _, _ => none
  | k + 1, x0, x1, x12, x13, x203000, x203001, x203002, x203003, x203004, x203005, x203006, x203007, x203008, x203009 => if 0 ≤ x12 then ((chunk_Size.f k x13 (Go.bits .andNot .u32 (Go.bits .and .u32 x1 1073741823) (shl .u32 1 x12)) x203000 x203001 x203002 x203003 x203004 x203005 x203006 x203007 x203008 x203009).bind fun bt217 => ((chunk_Size.f k x13 (Go.bits .or .u32 (Go.bits .andNot .u32 (Go.bits .and .u32 x1 1073741823) (shl .u32 1 x12)) (shl .u32 1 x12)) x203000 x203001 x203002 x203003 x203004 x203005 x203006 x203007 x203008 x203009).bind fun bt219 => (if bt217.2 = 400 then (if bt219.2 = 0 then (parallaxlaw11_ChunkClauses.j2 k (bt219.1 == (wrap64 (x0)))) else (parallaxlaw11_ChunkClauses.j2 k false)) else (parallaxlaw11_ChunkClauses.j2 k false)))) else (none)
def parallaxlaw11_ChunkClauses.j2 : Nat → Bool → Option (Bool)
  | 0, _ => none
  | k + 1, x10 => some x10
end
def parallaxlaw11_ChunkClauses.f (k : Nat) (a0 : Int) (a1 : Int) (a2 : Bool) (a3 : Int) (a4 : Bool) : Option (Bool) := (parallaxlaw11_known.f k).bind fun t191 => (if t191 = true then ((parallaxref4_Usual.f).bind fun bt192 => ((some (([(⟨#[48, 120]⟩ : ByteArray), (⟨#[48, 88]⟩ : ByteArray)] : List ByteArray) : List ByteArray)).bind fun y203 => (if 0 ≤ (Int.tmod a3 2) then (if (Int.tmod a3 2) < (y203.length : Int) then ((parallaxref1_PutHex.f k (wrap64 (a0))).bind fun t207 => (if (rdOf ByteArray.empty y203 (Int.tmod a3 2)).size + t207.size ≤ 9223372036854775807 then (if a2 = true then ((some (([(⟨#[32]⟩ : ByteArray), (⟨#[]⟩ : ByteArray), (⟨#[9]⟩ : ByteArray)] : List ByteArray) : List ByteArray)).bind fun y208 => (if 0 ≤ (Int.tmod a3 3) then (if (Int.tmod a3 3) < (y208.length : Int) then ((parallaxref1_PutHex.f k (wrap64 (a0))).bind fun t212 => (if (rdOf ByteArray.empty y208 (Int.tmod a3 3)).size + t212.size ≤ 9223372036854775807 then ((some (([(⟨#[32]⟩ : ByteArray), (⟨#[9, 32]⟩ : ByteArray)] : List ByteArray) : List ByteArray)).bind fun y213 => (if (Int.tmod a3 2) < (y213.length : Int) then (if ((rdOf ByteArray.empty y208 (Int.tmod a3 3)) ++ t212).size + (rdOf ByteArray.empty y213 (Int.tmod a3 2)).size ≤ 9223372036854775807 then (parallaxlaw11_ChunkClauses.j0 k a0 a1 a4 28 (((rdOf ByteArray.empty y208 (Int.tmod a3 3)) ++ t212) ++ (rdOf ByteArray.empty y213 (Int.tmod a3 2))) bt192.1 bt192.2.1 bt192.2.2.1 bt192.2.2.2.1 bt192.2.2.2.2.1 bt192.2.2.2.2.2.1 bt192.2.2.2.2.2.2.1 bt192.2.2.2.2.2.2.2.1 bt192.2.2.2.2.2.2.2.2.1 bt192.2.2.2.2.2.2.2.2.2) else (none)) else (none))) else (none))) else (none)) else (none))) else (parallaxlaw11_ChunkClauses.j0 k a0 a1 a4 27 ((rdOf ByteArray.empty y203 (Int.tmod a3 2)) ++ t207) bt192.1 bt192.2.1 bt192.2.2.1 bt192.2.2.2.1 bt192.2.2.2.2.1 bt192.2.2.2.2.2.1 bt192.2.2.2.2.2.2.1 bt192.2.2.2.2.2.2.2.1 bt192.2.2.2.2.2.2.2.2.1 bt192.2.2.2.2.2.2.2.2.2)) else (none))) else (none)) else (none)))) else (some false))
theorem parallaxlaw11_ChunkClauses.mono_l : ∀ k, (∀ y0 y1 y2 y3 y4 y5 y6 y7 y8 y9 y10 y11 y12 y13 y14, LeO (parallaxlaw11_ChunkClauses.j0 k y0 y1 y2 y3 y4 y5 y6 y7 y8 y9 y10 y11 y12 y13 y14) (parallaxlaw11_ChunkClauses.j0 (k + 1) y0 y1 y2 y3 y4 y5 y6 y7 y8 y9 y10 y11 y12 y13 y14)) ∧ (∀ y0 y1 y2 y3 y4 y5 y6 y7 y8 y9 y10 y11 y12 y13, LeO (parallaxlaw11_ChunkClauses.j1 k y0 y1 y2 y3 y4 y5 y6 y7 y8 y9 y10 y11 y12 y13) (parallaxlaw11_ChunkClauses.j1 (k + 1) y0 y1 y2 y3 y4 y5 y6 y7 y8 y9 y10 y11 y12 y13)) ∧ (∀ y0, LeO (parallaxlaw11_ChunkClauses.j2 k y0) (parallaxlaw11_ChunkClauses.j2 (k + 1) y0))
  | 0 => ⟨fun _ _ _ _ _ _ _ _ _ _ _ _ _ _ _ r h => by simp [parallaxlaw11_ChunkClauses.j0] at h, fun _ _ _ _ _ _ _ _ _ _ _ _ _ _ r h => by simp [parallaxlaw11_ChunkClauses.j1] at h, fun _ r h => by simp [parallaxlaw11_ChunkClauses.j2] at h⟩
  | k + 1 => by
    obtain ⟨ih0, ih1, ih2⟩ := parallaxlaw11_ChunkClauses.mono_l k
    refine ⟨?_, ?_, ?_⟩
    · intro y0 y1 y2 y3 y4 y5 y6 y7 y8 y9 y10 y11 y12 y13 y14
      unfold parallaxlaw11_ChunkClauses.j0
      repeat' first
      | (with_reducible exact ih0 _ _ _ _ _ _ _ _ _ _ _ _ _ _ _)
      | (with_reducible exact ih1 _ _ _ _ _ _ _ _ _ _ _ _ _ _)
      | (with_reducible exact ih2 _)
      | (with_reducible exact chunk_Size.mono _ _ _ _ _ _ _ _ _ _ _ _ _)
      | (with_reducible exact parallaxlaw11_known.mono _)
      | (with_reducible exact parallaxref1_PutHex.mono _ _)
      | (with_reducible exact LeO.refl _)
      | (with_reducible exact LeO.none _)
      | (with_reducible refine LeO.ite ?_ ?_)
      | (with_reducible refine LeO.bind ?_ (fun _ => ?_))
      | exact ih0 _ _ _ _ _ _ _ _ _ _ _ _ _ _ _
      | exact ih1 _ _ _ _ _ _ _ _ _ _ _ _ _ _
      | exact ih2 _
      | exact chunk_Size.mono _ _ _ _ _ _ _ _ _ _ _ _ _
      | exact parallaxlaw11_known.mono _
      | exact parallaxref1_PutHex.mono _ _
      | exact LeO.none _
      | refine LeO.ite ?_ ?_
      | refine LeO.bind ?_ (fun _ => ?_)
    · intro y0 y1 y2 y3 y4 y5 y6 y7 y8 y9 y10 y11 y12 y13
      unfold parallaxlaw11_ChunkClauses.j1
      repeat' first
      | (with_reducible exact ih0 _ _ _ _ _ _ _ _ _ _ _ _ _ _ _)
      | (with_reducible exact ih1 _ _ _ _ _ _ _ _ _ _ _ _ _ _)
      | (with_reducible exact ih2 _)
      | (with_reducible exact chunk_Size.mono _ _ _ _ _ _ _ _ _ _ _ _ _)
      | (with_reducible exact parallaxlaw11_known.mono _)
      | (with_reducible exact parallaxref1_PutHex.mono _ _)
      | (with_reducible exact LeO.refl _)
      | (with_reducible exact LeO.none _)
      | (with_reducible refine LeO.ite ?_ ?_)
      | (with_reducible refine LeO.bind ?_ (fun _ => ?_))
      | exact ih0 _ _ _ _ _ _ _ _ _ _ _ _ _ _ _
      | exact ih1 _ _ _ _ _ _ _ _ _ _ _ _ _ _
      | exact ih2 _
      | exact chunk_Size.mono _ _ _ _ _ _ _ _ _ _ _ _ _
      | exact parallaxlaw11_known.mono _
      | exact parallaxref1_PutHex.mono _ _
      | exact LeO.none _
      | refine LeO.ite ?_ ?_
      | refine LeO.bind ?_ (fun _ => ?_)
    · intro y0
      unfold parallaxlaw11_ChunkClauses.j2
      repeat' first
      | (with_reducible exact ih0 _ _ _ _ _ _ _ _ _ _ _ _ _ _ _)
      | (with_reducible exact ih1 _ _ _ _ _ _ _ _ _ _ _ _ _ _)
      | (with_reducible exact ih2 _)
      | (with_reducible exact chunk_Size.mono _ _ _ _ _ _ _ _ _ _ _ _ _)
      | (with_reducible exact parallaxlaw11_known.mono _)
      | (with_reducible exact parallaxref1_PutHex.mono _ _)
      | (with_reducible exact LeO.refl _)
      | (with_reducible exact LeO.none _)
      | (with_reducible refine LeO.ite ?_ ?_)
      | (with_reducible refine LeO.bind ?_ (fun _ => ?_))
      | exact ih0 _ _ _ _ _ _ _ _ _ _ _ _ _ _ _
      | exact ih1 _ _ _ _ _ _ _ _ _ _ _ _ _ _
      | exact ih2 _
      | exact chunk_Size.mono _ _ _ _ _ _ _ _ _ _ _ _ _
      | exact parallaxlaw11_known.mono _
      | exact parallaxref1_PutHex.mono _ _
      | exact LeO.none _
      | refine LeO.ite ?_ ?_
      | refine LeO.bind ?_ (fun _ => ?_)
theorem parallaxlaw11_ChunkClauses.mono : ∀ a0 a1 a2 a3 a4 k, LeO (parallaxlaw11_ChunkClauses.f k a0 a1 a2 a3 a4) (parallaxlaw11_ChunkClauses.f (k + 1) a0 a1 a2 a3 a4) := by
  intro a0 a1 a2 a3 a4 k
  obtain ⟨ih0, ih1, ih2⟩ := parallaxlaw11_ChunkClauses.mono_l k
  unfold parallaxlaw11_ChunkClauses.f
  repeat' first
      | (with_reducible exact ih0 _ _ _ _ _ _ _ _ _ _ _ _ _ _ _)
      | (with_reducible exact ih1 _ _ _ _ _ _ _ _ _ _ _ _ _ _)
      | (with_reducible exact ih2 _)
      | (with_reducible exact chunk_Size.mono _ _ _ _ _ _ _ _ _ _ _ _ _)
      | (with_reducible exact parallaxlaw11_known.mono _)
      | (with_reducible exact parallaxref1_PutHex.mono _ _)
      | (with_reducible exact LeO.refl _)
      | (with_reducible exact LeO.none _)
      | (with_reducible refine LeO.ite ?_ ?_)
      | (with_reducible refine LeO.bind ?_ (fun _ => ?_))
      | exact ih0 _ _ _ _ _ _ _ _ _ _ _ _ _ _ _
      | exact ih1 _ _ _ _ _ _ _ _ _ _ _ _ _ _
      | exact ih2 _
      | exact chunk_Size.mono _ _ _ _ _ _ _ _ _ _ _ _ _
      | exact parallaxlaw11_known.mono _
      | exact parallaxref1_PutHex.mono _ _
      | exact LeO.none _
      | refine LeO.ite ?_ ?_
      | refine LeO.bind ?_ (fun _ => ?_)
def parallaxlaw11_ChunkClauses.T4 : Bool × List (List Nat × List Nat) := (true, [([], []), ([], []), ([1], [1]), ([0, 2], [0, 2]), ([3], [3]), ([], []), ([5], [5]), ([6], [6]), ([4, 7], [4, 7]), ([7], []), ([8, 9, 0, 1, 2, 3, 4, 5, 6, 7, 8, 9], [8])])
def parallaxlaw11_ChunkClauses.B4 : List Nat := [0, 0, 2, 7, 15, 0, 32, 96, 255, 224, 1023]
theorem parallaxlaw11_ChunkClauses.tab4 : rtab .any (opsOf Tryd.f5 4) = parallaxlaw11_ChunkClauses.T4 := by kernel_rfl
theorem parallaxlaw11_ChunkClauses.bits4 : waitsOk parallaxlaw11_ChunkClauses.T4.2 parallaxlaw11_ChunkClauses.B4 = true := by kernel_rfl
def parallaxlaw11_ChunkClauses.T6 : Bool × List (List Nat × List Nat) := (true, [([], []), ([], []), ([1], [1]), ([0, 2], [0, 2]), ([3], [3]), ([], []), ([5], [5]), ([6], [6]), ([4, 7], [4, 7]), ([], []), ([], []), ([10], [10]), ([9, 11], [9, 11]), ([12], [12]), ([8, 13], [8, 13]), ([7], []), ([14, 15, 0, 1, 2, 3, 4, 5, 6, 7, 8, 9, 10, 11, 12, 13, 14, 15], [14])])
def parallaxlaw11_ChunkClauses.B6 : List Nat := [0, 0, 2, 7, 15, 0, 32, 96, 255, 0, 0, 1024, 3584, 7680, 16383, 224, 65535]
theorem parallaxlaw11_ChunkClauses.tab6 : rtab .any (opsOf Tryd.f5 6) = parallaxlaw11_ChunkClauses.T6 := by kernel_rfl
theorem parallaxlaw11_ChunkClauses.bits6 : waitsOk parallaxlaw11_ChunkClauses.T6.2 parallaxlaw11_ChunkClauses.B6 = true := by kernel_rfl
def parallaxlaw11_ChunkClauses.T11 : Bool × List (List Nat × List Nat) := (true, [([], []), ([], []), ([], []), ([2], [2]), ([1, 3], [1, 3]), ([], []), ([0, 4, 5], [0, 4, 5]), ([6], [6]), ([7], [7]), ([7], [7]), ([8, 6, 0, 1, 2, 3, 4, 5, 6, 7, 8], [8]), ([9, 10, 0, 1, 2, 3, 4, 5, 6, 7, 8, 9, 10], [9])])
def parallaxlaw11_ChunkClauses.B11 : List Nat := [0, 0, 0, 4, 14, 0, 63, 127, 255, 255, 511, 2047]
theorem parallaxlaw11_ChunkClauses.tab11 : rtab .any (opsOf Tryd.f5 11) = parallaxlaw11_ChunkClauses.T11 := by kernel_rfl
theorem parallaxlaw11_ChunkClauses.bits11 : waitsOk parallaxlaw11_ChunkClauses.T11.2 parallaxlaw11_ChunkClauses.B11 = true := by kernel_rfl
set_option maxHeartbeats 8000000 in
set_option maxRecDepth 100000 in
theorem parallaxlaw11_ChunkClauses.calls (k : Nat) (a0 : Int) (a1 : Int) (a2 : Bool) (a3 : Int) (a4 : Bool) (r : Bool) (w : World) (hq0 : (Lit.int .u16 a0).wf = true) (hq1 : (Lit.int .u32 a1).wf = true) (hq3 : (Lit.int .u8 a3).wf = true) (hT : r = true) (hL : Laid.LaidX w) (h : parallaxlaw11_ChunkClauses.f k a0 a1 a2 a3 a4 = some r) :
    Calls Tryd.prog 5 #[.int .u16 a0, .int .u32 a1, .bool a2, .int .u8 a3, .bool a4] w fun e w' => e = .returned (.bool r) ∧ Below w.heap.size w w' := by
  have hu29 := Tryd.underlying29
  have HQ0 := Aside0.mk hq0
  clear hq0
  have HQ1 := Aside0.mk hq1
  clear hq1
  have HQ3 := Aside0.mk hq3
  clear hq3
  have HT := Aside0.mk hT
  clear hT
  have HB := Aside0.mk (Below.refl w.heap.size w)
  have HLX := Aside0.mk hL
  clear hL
  have H : ((parallaxlaw11_known.f k).bind fun t191 => (if t191 = true then ((parallaxref4_Usual.f).bind fun bt192 => ((some (([(⟨#[48, 120]⟩ : ByteArray), (⟨#[48, 88]⟩ : ByteArray)] : List ByteArray) : List ByteArray)).bind fun y203 => (if 0 ≤ (Int.tmod a3 2) then (if (Int.tmod a3 2) < (y203.length : Int) then ((parallaxref1_PutHex.f k (wrap64 (a0))).bind fun t207 => (if (rdOf ByteArray.empty y203 (Int.tmod a3 2)).size + t207.size ≤ 9223372036854775807 then (if a2 = true then ((some (([(⟨#[32]⟩ : ByteArray), (⟨#[]⟩ : ByteArray), (⟨#[9]⟩ : ByteArray)] : List ByteArray) : List ByteArray)).bind fun y208 => (if 0 ≤ (Int.tmod a3 3) then (if (Int.tmod a3 3) < (y208.length : Int) then ((parallaxref1_PutHex.f k (wrap64 (a0))).bind fun t212 => (if (rdOf ByteArray.empty y208 (Int.tmod a3 3)).size + t212.size ≤ 9223372036854775807 then ((some (([(⟨#[32]⟩ : ByteArray), (⟨#[9, 32]⟩ : ByteArray)] : List ByteArray) : List ByteArray)).bind fun y213 => (if (Int.tmod a3 2) < (y213.length : Int) then (if ((rdOf ByteArray.empty y208 (Int.tmod a3 3)) ++ t212).size + (rdOf ByteArray.empty y213 (Int.tmod a3 2)).size ≤ 9223372036854775807 then (parallaxlaw11_ChunkClauses.j0 k a0 a1 a4 28 (((rdOf ByteArray.empty y208 (Int.tmod a3 3)) ++ t212) ++ (rdOf ByteArray.empty y213 (Int.tmod a3 2))) bt192.1 bt192.2.1 bt192.2.2.1 bt192.2.2.2.1 bt192.2.2.2.2.1 bt192.2.2.2.2.2.1 bt192.2.2.2.2.2.2.1 bt192.2.2.2.2.2.2.2.1 bt192.2.2.2.2.2.2.2.2.1 bt192.2.2.2.2.2.2.2.2.2) else (none)) else (none))) else (none))) else (none)) else (none))) else (parallaxlaw11_ChunkClauses.j0 k a0 a1 a4 27 ((rdOf ByteArray.empty y203 (Int.tmod a3 2)) ++ t207) bt192.1 bt192.2.1 bt192.2.2.1 bt192.2.2.2.1 bt192.2.2.2.2.1 bt192.2.2.2.2.2.1 bt192.2.2.2.2.2.2.1 bt192.2.2.2.2.2.2.2.1 bt192.2.2.2.2.2.2.2.2.1 bt192.2.2.2.2.2.2.2.2.2)) else (none))) else (none)) else (none)))) else (some false))) = some r := h
  clear h
  replace H := Option.bind_eq_some_iff.mp H
  obtain ⟨t191, A60, H⟩ := H
  (try dsimp only at H)
  have A6 := Aside0.mk A60
  clear A60
  by_cases c7 : t191 = true
  · subst c7
    rw [if_pos rfl] at H
    replace H := Option.bind_eq_some_iff.mp H
    obtain ⟨⟨t192, t193, t194, t195, t196, t197, t198, t199, t200, t201⟩, A80, H⟩ := H
    (try dsimp only at H)
    have A8 := Aside0.mk A80
    clear A80
    obtain ⟨y203, hy203⟩ : ∃ y_ : List ByteArray, y_ = (([(⟨#[48, 120]⟩ : ByteArray), (⟨#[48, 88]⟩ : ByteArray)] : List ByteArray)) := ⟨_, rfl⟩
    replace H : (if 0 ≤ (Int.tmod a3 2) then (if (Int.tmod a3 2) < (y203.length : Int) then ((parallaxref1_PutHex.f k (wrap64 (a0))).bind fun t207 => (if (rdOf ByteArray.empty y203 (Int.tmod a3 2)).size + t207.size ≤ 9223372036854775807 then (if a2 = true then ((some (([(⟨#[32]⟩ : ByteArray), (⟨#[]⟩ : ByteArray), (⟨#[9]⟩ : ByteArray)] : List ByteArray) : List ByteArray)).bind fun y208 => (if 0 ≤ (Int.tmod a3 3) then (if (Int.tmod a3 3) < (y208.length : Int) then ((parallaxref1_PutHex.f k (wrap64 (a0))).bind fun t212 => (if (rdOf ByteArray.empty y208 (Int.tmod a3 3)).size + t212.size ≤ 9223372036854775807 then ((some (([(⟨#[32]⟩ : ByteArray), (⟨#[9, 32]⟩ : ByteArray)] : List ByteArray) : List ByteArray)).bind fun y213 => (if (Int.tmod a3 2) < (y213.length : Int) then (if ((rdOf ByteArray.empty y208 (Int.tmod a3 3)) ++ t212).size + (rdOf ByteArray.empty y213 (Int.tmod a3 2)).size ≤ 9223372036854775807 then (parallaxlaw11_ChunkClauses.j0 k a0 a1 a4 28 (((rdOf ByteArray.empty y208 (Int.tmod a3 3)) ++ t212) ++ (rdOf ByteArray.empty y213 (Int.tmod a3 2))) t192 t193 t194 t195 t196 t197 t198 t199 t200 t201) else (none)) else (none))) else (none))) else (none)) else (none))) else (parallaxlaw11_ChunkClauses.j0 k a0 a1 a4 27 ((rdOf ByteArray.empty y203 (Int.tmod a3 2)) ++ t207) t192 t193 t194 t195 t196 t197 t198 t199 t200 t201)) else (none))) else (none)) else (none)) = some r := by first | (rw [hy203]; with_reducible exact H) | (have H2_ := (Option.bind_some _ _).symm.trans H; rw [hy203]; with_reducible exact H2_) | (have H2_ := (Option.bind_some _ _).symm.trans H; with_reducible exact H2_) | with_reducible exact H | (rw [hy203]; exact H) | exact H
    have Ny203 := Aside0.mk hy203
    clear hy203
    obtain ⟨ji9, hji9⟩ : ∃ j_ : Int, (Int.tmod a3 2) = j_ := ⟨_, rfl⟩
    replace H : (if 0 ≤ (ji9) then (if (ji9) < (y203.length : Int) then ((parallaxref1_PutHex.f k (wrap64 (a0))).bind fun t207 => (if (rdOf ByteArray.empty y203 (ji9)).size + t207.size ≤ 9223372036854775807 then (if a2 = true then ((some (([(⟨#[32]⟩ : ByteArray), (⟨#[]⟩ : ByteArray), (⟨#[9]⟩ : ByteArray)] : List ByteArray) : List ByteArray)).bind fun y208 => (if 0 ≤ (Int.tmod a3 3) then (if (Int.tmod a3 3) < (y208.length : Int) then ((parallaxref1_PutHex.f k (wrap64 (a0))).bind fun t212 => (if (rdOf ByteArray.empty y208 (Int.tmod a3 3)).size + t212.size ≤ 9223372036854775807 then ((some (([(⟨#[32]⟩ : ByteArray), (⟨#[9, 32]⟩ : ByteArray)] : List ByteArray) : List ByteArray)).bind fun y213 => (if (ji9) < (y213.length : Int) then (if ((rdOf ByteArray.empty y208 (Int.tmod a3 3)) ++ t212).size + (rdOf ByteArray.empty y213 (ji9)).size ≤ 9223372036854775807 then (parallaxlaw11_ChunkClauses.j0 k a0 a1 a4 28 (((rdOf ByteArray.empty y208 (Int.tmod a3 3)) ++ t212) ++ (rdOf ByteArray.empty y213 (ji9))) t192 t193 t194 t195 t196 t197 t198 t199 t200 t201) else (none)) else (none))) else (none))) else (none)) else (none))) else (parallaxlaw11_ChunkClauses.j0 k a0 a1 a4 27 ((rdOf ByteArray.empty y203 (ji9)) ++ t207) t192 t193 t194 t195 t196 t197 t198 t199 t200 t201)) else (none))) else (none)) else (none)) = some r := by first | (rw [hji9] at H; exact H) | (simp only [hji9] at H ⊢; exact H)
    (try rw [hji9] at A6)
    (try rw [hji9] at A8)
    by_cases c10 : 0 ≤ (ji9)
    · rw [if_pos c10] at H
      have c10b0 : decide (0 ≤ (ji9)) = true := decide_eq_true c10
      clear c10
      by_cases c11 : (ji9) < (y203.length : Int)
      · rw [if_pos c11] at H
        have c11b0 : decide ((ji9) < (y203.length : Int)) = true := decide_eq_true c11
        clear c11
        replace H := Option.bind_eq_some_iff.mp H
        obtain ⟨t207, A120, H⟩ := H
        (try dsimp only at H)
        have A12 := Aside0.mk A120
        clear A120
        by_cases c13 : (rdOf ByteArray.empty y203 (ji9)).size + t207.size ≤ 9223372036854775807
        · rw [if_pos c13] at H
          have c13b0 := eq_true c13
          have c13b1 : decide ((rdOf ByteArray.empty y203 (ji9)).size + t207.size ≤ 9223372036854775807) = true := decide_eq_true c13
          try have c13b2 : (9223372036854775807 < (rdOf ByteArray.empty y203 (ji9)).size + t207.size) = False := eq_false (Nat.not_lt.2 c13)
          have HC14 := Aside0.mk H
          clear H
          go_enter Tryd.func5, Tryd.ntmps5
          try go_wp2_with (first | ((with_reducible refine gate_callee (f := 7) rfl ?_); refine goesL_ (some 19) rfl rfl Tryd.func7 (by kernel_rfl) rfl #[] rfl (by (try simp only [List.map_toArray, List.map_cons, List.map_nil]); first | done | rfl | (simp only [List.length_drop, List.length_take]; rfl)) ?_; (with_reducible refine (parallaxlaw11_known.calls k  true _ ?side1 A6.out).mono ?_); (case side1 => exact Laid.below HLX.out (by repeat (first | (with_reducible first | exact HB.out | apply below_alloc | apply pw_below_drewN | apply below_drew1) | exact HB.out))); rintro e w15 ⟨rfl, hb⟩; refine ⟨_, rfl, ?_⟩; have n0_ := Aside0.mk (below_step (by repeat (first | (with_reducible first | exact HB.out | apply below_alloc | apply pw_below_drewN | apply below_drew1) | exact HB.out)) hb); clear HB; have HB := n0_; clear n0_; (try clear hb); (try clear hb2); (try clear hk); (try clear hi)) | ((with_reducible refine gate_callee (f := 17) rfl ?_); refine goesL_ (some 21) rfl rfl Tryd.func17 (by kernel_rfl) rfl #[] rfl (by (try simp only [List.map_toArray, List.map_cons, List.map_nil]); first | done | rfl | (simp only [List.length_drop, List.length_take]; rfl)) ?_; (with_reducible refine (parallaxref4_Usual.calls  t192 t193 t194 t195 t196 t197 t198 t199 t200 t201 _ A8.out).mono ?_); rintro e w16 ⟨rfl, hb⟩; refine ⟨_, rfl, ?_⟩; have n0_ := Aside0.mk (below_step (by repeat (first | (with_reducible first | exact HB.out | apply below_alloc | apply pw_below_drewN | apply below_drew1) | exact HB.out)) hb); clear HB; have HB := n0_; clear n0_; (try clear hb); (try clear hb2); (try clear hk); (try clear hi)) | ((with_reducible refine gate_dst (N := 11) rfl ?_); refine box_event ?hg (N := 11) ?hd (cs := #[.int .i64 0, .int .i64 0, .int .i64 0, .int .i64 0, .int .i64 0, .int .i64 0, .int .i64 0, .int .i64 0, .bool false, .bool false]) (t := 29) ?hr ?_; (case hd => rfl); (case hg => rfl); (case hr => first | (go_simp; done) | (go_simp; rfl)); intro gb202 hg w17 hbox hb; have n0_ := Aside0.mk (below_step (by repeat (first | (with_reducible first | exact HB.out | apply below_alloc | apply pw_below_drewN | apply below_drew1) | exact HB.out)) hb); have n1_ := Aside0.mk (hbox); have n2_ := Aside0.mk ((by rw [hg]; exact (below_size (by repeat (first | (with_reducible first | exact HB.out | apply below_alloc | apply pw_below_drewN | apply below_drew1) | exact HB.out))) : w.heap.size ≤ gb202)); have n3_ := Aside0.mk ((by rw [hg]; exact (below_size (by repeat (first | (with_reducible first | exact HB.out | apply below_alloc | apply pw_below_drewN | apply below_drew1) | exact HB.out))) : w.heap.size ≤ gb202)); clear HB; have HB := n0_; have BK202 := n1_; have GW202 := n2_; have GE202 := n3_; clear n0_ n1_ n2_ n3_; clear hb hbox hg; have hcz18_0 : w17.cell? ⟨gb202, 0, none⟩ = some (.int .i64 0) := (blk_cell BK202.out 0).trans rfl; have hcz18_1 : w17.cell? ⟨gb202, 1, none⟩ = some (.int .i64 0) := (blk_cell BK202.out 1).trans rfl; have hcz18_2 : w17.cell? ⟨gb202, 2, none⟩ = some (.int .i64 0) := (blk_cell BK202.out 2).trans rfl; have hcz18_3 : w17.cell? ⟨gb202, 3, none⟩ = some (.int .i64 0) := (blk_cell BK202.out 3).trans rfl; have hcz18_4 : w17.cell? ⟨gb202, 4, none⟩ = some (.int .i64 0) := (blk_cell BK202.out 4).trans rfl; have hcz18_5 : w17.cell? ⟨gb202, 5, none⟩ = some (.int .i64 0) := (blk_cell BK202.out 5).trans rfl; have hcz18_6 : w17.cell? ⟨gb202, 6, none⟩ = some (.int .i64 0) := (blk_cell BK202.out 6).trans rfl; have hcz18_7 : w17.cell? ⟨gb202, 7, none⟩ = some (.int .i64 0) := (blk_cell BK202.out 7).trans rfl; have hcz18_8 : w17.cell? ⟨gb202, 8, none⟩ = some (.bool false) := (blk_cell BK202.out 8).trans rfl; have hcz18_9 : w17.cell? ⟨gb202, 9, none⟩ = some (.bool false) := (blk_cell BK202.out 9).trans rfl; have hfz18_0 := blk_frozen BK202.out 0; have hfz18_1 := blk_frozen BK202.out 1; have hfz18_2 := blk_frozen BK202.out 2; have hfz18_3 := blk_frozen BK202.out 3; have hfz18_4 := blk_frozen BK202.out 4; have hfz18_5 := blk_frozen BK202.out 5; have hfz18_6 := blk_frozen BK202.out 6; have hfz18_7 := blk_frozen BK202.out 7; have hfz18_8 := blk_frozen BK202.out 8; have hfz18_9 := blk_frozen BK202.out 9))
          have pi206 : (0 ≤ ((ji9) : Int)) = True := eq_true (of_decide_eq_true (by first | (with_reducible assumption) | assumption))
          have qi206 : ((ji9) < (y203.length : Int)) = True := eq_true (of_decide_eq_true (by first | (with_reducible assumption) | assumption))
          have n0_ : Aside0 (((((((((((w17.setCell ⟨gb202, 0, none⟩ (.int .i64 t192)).setCell ⟨gb202, 1, none⟩ (.int .i64 t193)).setCell ⟨gb202, 2, none⟩ (.int .i64 t194)).setCell ⟨gb202, 3, none⟩ (.int .i64 t195)).setCell ⟨gb202, 4, none⟩ (.int .i64 t196)).setCell ⟨gb202, 5, none⟩ (.int .i64 t197)).setCell ⟨gb202, 6, none⟩ (.int .i64 t198)).setCell ⟨gb202, 7, none⟩ (.int .i64 t199)).setCell ⟨gb202, 8, none⟩ (.bool t200)).setCell ⟨gb202, 9, none⟩ (.bool t201)).heap[gb202]? = some (.cells #[.int .i64 t192, .int .i64 t193, .int .i64 t194, .int .i64 t195, .int .i64 t196, .int .i64 t197, .int .i64 t198, .int .i64 t199, .bool t200, .bool t201] 29 (0, 0))) := ⟨by (with_reducible repeat (first | refine blk_drewN ?_ _ | refine blk_drew ?_ | refine blk_alloc ?_ _)); refine blk_put (cs := #[.int .i64 t192, .int .i64 t193, .int .i64 t194, .int .i64 t195, .int .i64 t196, .int .i64 t197, .int .i64 t198, .int .i64 t199, .bool t200, .bool false]) ?_ 9 _ rfl; (with_reducible repeat (first | refine blk_drewN ?_ _ | refine blk_drew ?_ | refine blk_alloc ?_ _)); refine blk_put (cs := #[.int .i64 t192, .int .i64 t193, .int .i64 t194, .int .i64 t195, .int .i64 t196, .int .i64 t197, .int .i64 t198, .int .i64 t199, .bool false, .bool false]) ?_ 8 _ rfl; (with_reducible repeat (first | refine blk_drewN ?_ _ | refine blk_drew ?_ | refine blk_alloc ?_ _)); refine blk_put (cs := #[.int .i64 t192, .int .i64 t193, .int .i64 t194, .int .i64 t195, .int .i64 t196, .int .i64 t197, .int .i64 t198, .int .i64 0, .bool false, .bool false]) ?_ 7 _ rfl; (with_reducible repeat (first | refine blk_drewN ?_ _ | refine blk_drew ?_ | refine blk_alloc ?_ _)); refine blk_put (cs := #[.int .i64 t192, .int .i64 t193, .int .i64 t194, .int .i64 t195, .int .i64 t196, .int .i64 t197, .int .i64 0, .int .i64 0, .bool false, .bool false]) ?_ 6 _ rfl; (with_reducible repeat (first | refine blk_drewN ?_ _ | refine blk_drew ?_ | refine blk_alloc ?_ _)); refine blk_put (cs := #[.int .i64 t192, .int .i64 t193, .int .i64 t194, .int .i64 t195, .int .i64 t196, .int .i64 0, .int .i64 0, .int .i64 0, .bool false, .bool false]) ?_ 5 _ rfl; (with_reducible repeat (first | refine blk_drewN ?_ _ | refine blk_drew ?_ | refine blk_alloc ?_ _)); refine blk_put (cs := #[.int .i64 t192, .int .i64 t193, .int .i64 t194, .int .i64 t195, .int .i64 0, .int .i64 0, .int .i64 0, .int .i64 0, .bool false, .bool false]) ?_ 4 _ rfl; (with_reducible repeat (first | refine blk_drewN ?_ _ | refine blk_drew ?_ | refine blk_alloc ?_ _)); refine blk_put (cs := #[.int .i64 t192, .int .i64 t193, .int .i64 t194, .int .i64 0, .int .i64 0, .int .i64 0, .int .i64 0, .int .i64 0, .bool false, .bool false]) ?_ 3 _ rfl; (with_reducible repeat (first | refine blk_drewN ?_ _ | refine blk_drew ?_ | refine blk_alloc ?_ _)); refine blk_put (cs := #[.int .i64 t192, .int .i64 t193, .int .i64 0, .int .i64 0, .int .i64 0, .int .i64 0, .int .i64 0, .int .i64 0, .bool false, .bool false]) ?_ 2 _ rfl; (with_reducible repeat (first | refine blk_drewN ?_ _ | refine blk_drew ?_ | refine blk_alloc ?_ _)); refine blk_put (cs := #[.int .i64 t192, .int .i64 0, .int .i64 0, .int .i64 0, .int .i64 0, .int .i64 0, .int .i64 0, .int .i64 0, .bool false, .bool false]) ?_ 1 _ rfl; (with_reducible repeat (first | refine blk_drewN ?_ _ | refine blk_drew ?_ | refine blk_alloc ?_ _)); refine blk_put (cs := #[.int .i64 0, .int .i64 0, .int .i64 0, .int .i64 0, .int .i64 0, .int .i64 0, .int .i64 0, .int .i64 0, .bool false, .bool false]) ?_ 0 _ rfl; (with_reducible repeat (first | refine blk_drewN ?_ _ | refine blk_drew ?_ | refine blk_alloc ?_ _)); exact BK202.out⟩
          have n1_ : Aside0 (Below w.heap.size w ((((((((((w17.setCell ⟨gb202, 0, none⟩ (.int .i64 t192)).setCell ⟨gb202, 1, none⟩ (.int .i64 t193)).setCell ⟨gb202, 2, none⟩ (.int .i64 t194)).setCell ⟨gb202, 3, none⟩ (.int .i64 t195)).setCell ⟨gb202, 4, none⟩ (.int .i64 t196)).setCell ⟨gb202, 5, none⟩ (.int .i64 t197)).setCell ⟨gb202, 6, none⟩ (.int .i64 t198)).setCell ⟨gb202, 7, none⟩ (.int .i64 t199)).setCell ⟨gb202, 8, none⟩ (.bool t200)).setCell ⟨gb202, 9, none⟩ (.bool t201))) := ⟨by repeat (first | (with_reducible first | exact HB.out | apply below_alloc | apply pw_below_drewN | apply below_drew1 | refine below_set ?_ GE202.out) | exact HB.out)⟩
          (try clear BK202)
          (try clear HB)
          generalize ((((((((((w17.setCell ⟨gb202, 0, none⟩ (.int .i64 t192)).setCell ⟨gb202, 1, none⟩ (.int .i64 t193)).setCell ⟨gb202, 2, none⟩ (.int .i64 t194)).setCell ⟨gb202, 3, none⟩ (.int .i64 t195)).setCell ⟨gb202, 4, none⟩ (.int .i64 t196)).setCell ⟨gb202, 5, none⟩ (.int .i64 t197)).setCell ⟨gb202, 6, none⟩ (.int .i64 t198)).setCell ⟨gb202, 7, none⟩ (.int .i64 t199)).setCell ⟨gb202, 8, none⟩ (.bool t200)).setCell ⟨gb202, 9, none⟩ (.bool t201)) = w19 at n0_ n1_ ⊢
          have BK202 := n0_
          have HB := n1_
          clear n0_ n1_
          have n0_ := Aside0.mk (blk_drew BK202.out)
          have n1_ := Aside0.mk (below_drew1 HB.out)
          clear BK202
          clear HB
          have BK202 := n0_
          have HB := n1_
          clear n0_ n1_
          refine start_ (n := 11) (S := fun w' => True) (ds := []) #[false, false, false, false, false, false, false, false, false, false, false] (by kernel_rfl) rfl rfl trivial (fun hHeld => ?_); refine with_tabW parallaxlaw11_ChunkClauses.tab4 parallaxlaw11_ChunkClauses.bits4 (fun HT_ HW_ => ?_)
          generalize w19.drew = w20 at BK202 HB hHeld ⊢
          refine pure_ (i := 1) (N := some 23) (v := ?_) (a' := ?_) #[false, true, false, false, false, false, false, false, false, false, false] rfl rfl (any_of HT_.out (by kernel_rfl)) (fun _ _ _ h => h) (Or.inl ⟨by rfl, ?_⟩) ?_ ?_
          rotate_left
          · intro w'
            go_simp
            with_reducible rfl
          rotate_left
          · simp only [Act.put, List.setIfInBounds_toArray, List.set_cons_zero, List.set_cons_succ, i64_w, i32_w]
            rfl
          refine pure_ (i := 5) (N := some 27) (v := ?_) (a' := ?_) #[false, true, false, false, false, true, false, false, false, false, false] rfl rfl (any_of HT_.out (by kernel_rfl)) (fun _ _ _ h => h) (Or.inl ⟨by rfl, ?_⟩) ?_ ?_
          rotate_left
          · intro w'
            go_simp
            with_reducible rfl
          rotate_left
          · simp only [Act.put, List.setIfInBounds_toArray, List.set_cons_zero, List.set_cons_succ, i64_w, i32_w]
            rfl
          refine inv_at [0, 2, 3, 4, 6, 7, 8, 9, 10] (fun a0_ b a w' => ∃ (v204 : Value) (adz_v204 : Addr) (m3_ : Value), a = putSel a0_ b [(0, 22, v204), (2, 24, .int .u8 ji9), (3, 25, m3_), (4, 26, .string (rdOf ByteArray.empty y203 (ji9))), (6, 28, .int .i64 (wrap64 (a0))), (7, 29, .string t207), (8, 30, .string ((rdOf ByteArray.empty y203 (ji9)) ++ t207)), (9, 12, .int .i64 27), (10, 13, .string ((rdOf ByteArray.empty y203 (ji9)) ++ t207))] ∧ (w'.heap[gb202]? = some (.cells #[.int .i64 t192, .int .i64 t193, .int .i64 t194, .int .i64 t195, .int .i64 t196, .int .i64 t197, .int .i64 t198, .int .i64 t199, .bool t200, .bool t201] 29 (0, 0))) ∧ (Below w.heap.size w w') ∧ (b 0 = true → Kd.R Kd.string 9 w' w.heap.size (fun _ => True) v204 y203) ∧ (b 0 = true → ∃ c_, (v204 : Value) = .slice (some adz_v204) y203.length c_) ∧ (b 3 = true → (m3_ : Value) = .pointer (some (adz_v204.add ((ji9)).toNat)))) HT_.out HW_.out (by kernel_rfl) (by kernel_rfl) ?_ ?_ ?_
          · exact ⟨.bool false, ⟨0, 0, none⟩, .bool false, by simp only [putSel, Bool.false_eq_true, if_false], BK202.out, HB.out, fun h_ => absurd h_ (by decide), fun h_ => absurd h_ (by decide), fun h_ => absurd h_ (by decide)⟩
          · skip
            clear BK202 HB
            refine steps_cons ?_ ?_
            · rintro b a w' ⟨v204, adz_v204, m3_, ha, Q_BK202, Q_HB, Q_HO205, Q_HA_HO205, Q_X3_⟩ hb_ hon hoff
              refine ⟨_, rfl, fun K hK => ?_⟩
              replace ha := Aside0.mk ha
              have BK202 := Aside0.mk Q_BK202
              have HB := Aside0.mk Q_HB
              refine Kd.R_lit_step Kd.string _ 9 ?hg (N := 22) ?hd (xs := ([(⟨#[48, 120]⟩ : ByteArray), (⟨#[48, 88]⟩ : ByteArray)] : List ByteArray)) (inner := [.string (⟨#[48, 120]⟩ : ByteArray), .string (⟨#[48, 88]⟩ : ByteArray)]) (ok := fun _ => True) (okp := fun _ => True) ?hr ?hp (fun _ hk => hk) trivial (Below.refl _ _) (Nat.le_refl _) (by simp) ?_; (case hd => rfl); (case hg => rfl); (case hr => first | (go_simp; done) | (go_simp; rfl)); (case hp => exact (Reps.one (show Kd.M Kd.string _ _ _ (⟨#[48, 120]⟩ : ByteArray) [.string (⟨#[48, 120]⟩ : ByteArray)] from rfl) (Reps.one (show Kd.M Kd.string _ _ _ (⟨#[48, 88]⟩ : ByteArray) [.string (⟨#[48, 88]⟩ : ByteArray)] from rfl) (Reps.none _ _))))
              intro v204 w21 ho22 hb hg_ hnew_
              clear hg_ hnew_
              (first | rw [← Ny203.out] at ho22 | (simp only [Int.reduceToNat] at ho22; rw [← Ny203.out] at ho22))
              have n0_ := Aside0.mk (Kd.R_lower ho22 (below_size (by repeat (first | (with_reducible first | exact HB.out | apply below_alloc | apply pw_below_drewN | apply below_drew1 | refine below_set ?_ GE202.out) | exact HB.out))))
              have n1_ := Aside0.mk (blk_below (g := gb202) (o := .cells #[.int .i64 t192, .int .i64 t193, .int .i64 t194, .int .i64 t195, .int .i64 t196, .int .i64 t197, .int .i64 t198, .int .i64 t199, .bool t200, .bool t201] 29 (0, 0)) (by (with_reducible repeat (first | refine blk_drewN ?_ _ | refine blk_drew ?_ | refine blk_alloc ?_ _)); exact BK202.out) hb)
              have n2_ := Aside0.mk (below_step (by repeat (first | (with_reducible first | exact HB.out | apply below_alloc | apply pw_below_drewN | apply below_drew1 | refine below_set ?_ GE202.out) | exact HB.out)) hb)
              clear BK202
              clear HB
              have HO205 := n0_
              have BK202 := n1_
              have HB := n2_
              clear n0_ n1_ n2_
              clear hb ho22
              obtain ⟨Ao23, co23, eo23⟩ := Kd.R_slice HO205.out
              subst eo23
              obtain ⟨ado23, fo23, _⟩ := Kd.at_string (Kd.R_reads' HO205.out).2.2 0 (by decide) (by rw [Ny203.out]; simp)
              cases fo23
              refine hK.out _ _ ⟨.slice (some ado23) y203.length co23, ado23, m3_, (by rw [ha.out]; exact putSel_upk 0 hb_ rfl rfl rfl), (by (with_reducible repeat (first | refine blk_drewN ?_ _ | refine blk_drew ?_ | refine blk_alloc ?_ _)); exact BK202.out), (by repeat (first | (with_reducible first | exact HB.out | apply below_alloc | apply pw_below_drewN | apply below_drew1 | refine below_set ?_ GE202.out) | exact HB.out)), fun _ => (by (with_reducible repeat (first | apply Kd.R_alloc | apply Kd.R_drewN | apply Kd.R_drew)); exact HO205.out), fun _ => ⟨_, rfl⟩, fun h0_ => absurd ((hoff 3 (by kernel_rfl)).symm.trans h0_) (by decide)⟩
            refine steps_cons ?_ ?_
            · rintro b a w' ⟨v204, adz_v204, m3_, ha, Q_BK202, Q_HB, Q_HO205, Q_HA_HO205, Q_X3_⟩ hb_ hon hoff
              refine ⟨_, rfl, fun K hK => ?_⟩
              have e23 : a.tmps[23]? = some (.int .u8 a3) := by rw [ha]; exact (putSel_off rfl).trans rfl
              replace ha := Aside0.mk ha
              have BK202 := Aside0.mk Q_BK202
              have HB := Aside0.mk Q_HB
              refine value_ (w1 := w') (v := .int .u8 ji9) (by rfl) rfl ?_ ?_
              · go_simp
                (try simp only [i64_w])
                try rfl
              refine hK.out _ _ ⟨v204, adz_v204, m3_, (by rw [ha.out]; exact putSel_upk 1 hb_ rfl rfl rfl), Q_BK202, Q_HB, Q_HO205, Q_HA_HO205, fun h0_ => absurd ((hoff 3 (by kernel_rfl)).symm.trans h0_) (by decide)⟩
            refine steps_cons ?_ ?_
            · rintro b a w' ⟨v204, adz_v204, m3_, ha, Q_BK202, Q_HB, Q_HO205, Q_HA_HO205, Q_X3_⟩ hb_ hon hoff
              refine ⟨_, rfl, fun K hK => ?_⟩
              have e22 : a.tmps[22]? = some (v204) := by rw [ha]; exact putSel_on (e := (0, 22, v204)) 0 rfl rfl (hon 0 (by kernel_rfl)) rfl
              have e24 : a.tmps[24]? = some (.int .u8 ji9) := by rw [ha]; exact putSel_on (e := (2, 24, .int .u8 ji9)) 1 rfl rfl (hon 2 (by kernel_rfl)) rfl
              replace ha := Aside0.mk ha
              have BK202 := Aside0.mk Q_BK202
              have HB := Aside0.mk Q_HB
              have HO205 := Aside0.mk (Q_HO205 (hon 0 (by kernel_rfl)))
              have HA_HO205 := Aside0.mk (Q_HA_HO205 (hon 0 (by kernel_rfl)))
              obtain ⟨c_, hv_⟩ := HA_HO205.out
              rw [hv_] at e22
              refine value_ (w1 := w') (v := .pointer (some (adz_v204.add ((ji9)).toNat))) (by rfl) rfl ?_ ?_
              · go_simp
                (try simp only [i64_w])
                try rfl
              refine hK.out _ _ ⟨v204, adz_v204, (.pointer (some (adz_v204.add ((ji9)).toNat))), (by rw [ha.out]; exact putSel_upk 2 hb_ rfl rfl rfl), Q_BK202, Q_HB, Q_HO205, Q_HA_HO205, fun _ => rfl⟩
            refine steps_cons ?_ ?_
            · rintro b a w' ⟨v204, adz_v204, m3_, ha, Q_BK202, Q_HB, Q_HO205, Q_HA_HO205, Q_X3_⟩ hb_ hon hoff
              refine ⟨_, rfl, fun K hK => ?_⟩
              have e25 : a.tmps[25]? = some (m3_) := by rw [ha]; exact putSel_on (e := (3, 25, m3_)) 2 rfl rfl (hon 3 (by kernel_rfl)) rfl
              rw [Q_X3_ (hon 3 (by kernel_rfl))] at e25
              replace ha := Aside0.mk ha
              have BK202 := Aside0.mk Q_BK202
              have HB := Aside0.mk Q_HB
              have HO205 := Aside0.mk (Q_HO205 (hon 0 (by kernel_rfl)))
              have HA_HO205 := Aside0.mk (Q_HA_HO205 (hon 0 (by kernel_rfl)))
              obtain ⟨c_, hv_⟩ := HA_HO205.out
              have hF_ := HO205.out
              rw [hv_] at hF_
              obtain ⟨ad_, ea_, hx_⟩ := Kd.at_string (Kd.R_reads' hF_).2.2 (ji9) (of_eq_true pi206) (of_eq_true qi206)
              cases ea_
              refine value_ (w1 := w') (v := .string (rdOf ByteArray.empty y203 (ji9))) (by rfl) rfl ?_ ?_
              · go_simp
                (try simp only [i64_w])
                try rfl
              refine hK.out _ _ ⟨v204, adz_v204, m3_, (by rw [ha.out]; exact putSel_upk 3 hb_ rfl rfl rfl), Q_BK202, Q_HB, Q_HO205, Q_HA_HO205, Q_X3_⟩
            refine steps_cons ?_ ?_
            · rintro b a w' ⟨v204, adz_v204, m3_, ha, Q_BK202, Q_HB, Q_HO205, Q_HA_HO205, Q_X3_⟩ hb_ hon hoff
              refine ⟨_, rfl, fun K hK => ?_⟩
              have e27 : a.tmps[27]? = some (.int .u16 a0) := by rw [ha]; exact (putSel_off rfl).trans rfl
              replace ha := Aside0.mk ha
              have BK202 := Aside0.mk Q_BK202
              have HB := Aside0.mk Q_HB
              refine value_ (w1 := w') (v := .int .i64 (wrap64 (a0))) (by rfl) rfl ?_ ?_
              · go_simp
                (try simp only [i64_w])
                try rfl
              refine hK.out _ _ ⟨v204, adz_v204, m3_, (by rw [ha.out]; exact putSel_upk 4 hb_ rfl rfl rfl), Q_BK202, Q_HB, Q_HO205, Q_HA_HO205, Q_X3_⟩
            refine steps_cons ?_ ?_
            · rintro b a w' ⟨v204, adz_v204, m3_, ha, Q_BK202, Q_HB, Q_HO205, Q_HA_HO205, Q_X3_⟩ hb_ hon hoff
              refine ⟨_, rfl, fun K hK => ?_⟩
              have e28 : a.tmps[28]? = some (.int .i64 (wrap64 (a0))) := by rw [ha]; exact putSel_on (e := (6, 28, .int .i64 (wrap64 (a0)))) 4 rfl rfl (hon 6 (by kernel_rfl)) rfl
              replace ha := Aside0.mk ha
              have BK202 := Aside0.mk Q_BK202
              have HB := Aside0.mk Q_HB
              refine goes_ Tryd.func11 (by kernel_rfl) rfl #[.int .i64 (wrap64 (a0))] (by rfl) rfl rfl (by first | (simp only [List.map_toArray, List.map_cons, List.map_nil, Act.eval, Array.getD_eq_getD_getElem?, Option.getD_some, e28]; done) | (simp only [List.map_toArray, List.map_cons, List.map_nil, Act.eval, Array.getD_eq_getD_getElem?, Option.getD_some, e28]; rfl)) ?_
              with_reducible refine (parallaxref1_PutHex.calls k (wrap64 (a0)) t207 _ A12.out).mono ?_
              rintro e w21 ⟨rfl, hb⟩
              refine ⟨_, rfl, ?_⟩
              have n0_ := Aside0.mk (blk_below (g := gb202) (o := .cells #[.int .i64 t192, .int .i64 t193, .int .i64 t194, .int .i64 t195, .int .i64 t196, .int .i64 t197, .int .i64 t198, .int .i64 t199, .bool t200, .bool t201] 29 (0, 0)) (by (with_reducible repeat (first | refine blk_drewN ?_ _ | refine blk_drew ?_ | refine blk_alloc ?_ _)); exact BK202.out) hb)
              have n1_ := Aside0.mk (below_step (by repeat (first | (with_reducible first | exact HB.out | apply below_alloc | apply pw_below_drewN | apply below_drew1 | refine below_set ?_ GE202.out) | exact HB.out)) hb)
              have z_HO205 := fun (h0_ : b 0 = true) => (show Kd.R Kd.string 9 w21 w.heap.size (fun _ => True) v204 y203 from by first | exact (Kd.R_below (by (with_reducible repeat (first | apply Kd.R_alloc | apply Kd.R_drewN | apply Kd.R_drew)); exact (Q_HO205 h0_)) hb) | exact Kd.R_mono (Kd.R_below (by (with_reducible repeat (first | apply Kd.R_alloc | apply Kd.R_drewN | apply Kd.R_drew)); exact (Q_HO205 h0_)) hb) (fun _ h_ => by first | trivial | exact h_ | exact h_.1))
              clear BK202
              clear HB
              have BK202 := n0_
              have HB := n1_
              clear n0_ n1_
              (try clear hb)
              (try clear hb2)
              (try clear hk)
              (try clear hi)
              refine hK.out _ _ ⟨v204, adz_v204, m3_, (by rw [ha.out]; exact putSel_upk 5 hb_ rfl rfl rfl), (by (with_reducible repeat (first | refine blk_drewN ?_ _ | refine blk_drew ?_ | refine blk_alloc ?_ _)); exact BK202.out), (by repeat (first | (with_reducible first | exact HB.out | apply below_alloc | apply pw_below_drewN | apply below_drew1 | refine below_set ?_ GE202.out) | exact HB.out)), z_HO205, Q_HA_HO205, Q_X3_⟩
            refine steps_cons ?_ ?_
            · rintro b a w' ⟨v204, adz_v204, m3_, ha, Q_BK202, Q_HB, Q_HO205, Q_HA_HO205, Q_X3_⟩ hb_ hon hoff
              refine ⟨_, rfl, fun K hK => ?_⟩
              have e26 : a.tmps[26]? = some (.string (rdOf ByteArray.empty y203 (ji9))) := by rw [ha]; exact putSel_on (e := (4, 26, .string (rdOf ByteArray.empty y203 (ji9)))) 3 rfl rfl (hon 4 (by kernel_rfl)) rfl
              have e29 : a.tmps[29]? = some (.string t207) := by rw [ha]; exact putSel_on (e := (7, 29, .string t207)) 5 rfl rfl (hon 7 (by kernel_rfl)) rfl
              replace ha := Aside0.mk ha
              have BK202 := Aside0.mk Q_BK202
              have HB := Aside0.mk Q_HB
              have HO205 := Aside0.mk (Q_HO205 (hon 0 (by kernel_rfl)))
              have HA_HO205 := Aside0.mk (Q_HA_HO205 (hon 0 (by kernel_rfl)))
              refine value_ (w1 := w') (v := .string ((rdOf ByteArray.empty y203 (ji9)) ++ t207)) (by rfl) rfl ?_ ?_
              · go_simp
                (try simp only [i64_w])
                try rfl
              refine hK.out _ _ ⟨v204, adz_v204, m3_, (by rw [ha.out]; exact putSel_upk 6 hb_ rfl rfl rfl), Q_BK202, Q_HB, Q_HO205, Q_HA_HO205, Q_X3_⟩
            refine steps_cons ?_ ?_
            · rintro b a w' ⟨v204, adz_v204, m3_, ha, Q_BK202, Q_HB, Q_HO205, Q_HA_HO205, Q_X3_⟩ hb_ hon hoff
              refine ⟨_, rfl, fun K hK => ?_⟩
              replace ha := Aside0.mk ha
              have BK202 := Aside0.mk Q_BK202
              have HB := Aside0.mk Q_HB
              refine value_ (w1 := w') (v := .int .i64 27) (by rfl) rfl ?_ ?_
              · go_simp
                (try simp only [i64_w])
                try rfl
              refine hK.out _ _ ⟨v204, adz_v204, m3_, (by rw [ha.out]; exact putSel_upk 7 hb_ rfl rfl rfl), Q_BK202, Q_HB, Q_HO205, Q_HA_HO205, Q_X3_⟩
            refine steps_cons ?_ ?_
            · rintro b a w' ⟨v204, adz_v204, m3_, ha, Q_BK202, Q_HB, Q_HO205, Q_HA_HO205, Q_X3_⟩ hb_ hon hoff
              refine ⟨_, rfl, fun K hK => ?_⟩
              have e30 : a.tmps[30]? = some (.string ((rdOf ByteArray.empty y203 (ji9)) ++ t207)) := by rw [ha]; exact putSel_on (e := (8, 30, .string ((rdOf ByteArray.empty y203 (ji9)) ++ t207))) 6 rfl rfl (hon 8 (by kernel_rfl)) rfl
              replace ha := Aside0.mk ha
              have BK202 := Aside0.mk Q_BK202
              have HB := Aside0.mk Q_HB
              have HO205 := Aside0.mk (Q_HO205 (hon 0 (by kernel_rfl)))
              have HA_HO205 := Aside0.mk (Q_HA_HO205 (hon 0 (by kernel_rfl)))
              refine value_ (w1 := w') (v := .string ((rdOf ByteArray.empty y203 (ji9)) ++ t207)) (by rfl) rfl ?_ ?_
              · go_simp
                (try simp only [i64_w])
                try rfl
              refine hK.out _ _ ⟨v204, adz_v204, m3_, (by rw [ha.out]; exact putSel_upk 8 hb_ rfl rfl rfl), Q_BK202, Q_HB, Q_HO205, Q_HA_HO205, Q_X3_⟩
            exact steps_nil
          rintro b a w25 hall ⟨v204, adz_v204, m3_, ha, Q_BK202, Q_HB, Q_HO205, Q_HA_HO205, Q_X3_⟩
          clear BK202 HB
          have hb0_ := hall 0 (by kernel_rfl)
          have hb2_ := hall 2 (by kernel_rfl)
          have hb3_ := hall 3 (by kernel_rfl)
          have hb4_ := hall 4 (by kernel_rfl)
          have hb6_ := hall 6 (by kernel_rfl)
          have hb7_ := hall 7 (by kernel_rfl)
          have hb8_ := hall 8 (by kernel_rfl)
          have hb9_ := hall 9 (by kernel_rfl)
          have hb10_ := hall 10 (by kernel_rfl)
          subst ha
          obtain rfl := Q_X3_ hb3_
          simp only [putSel, hb0_, hb2_, hb3_, hb4_, hb6_, hb7_, hb8_, hb9_, hb10_, if_true, Act.put, List.setIfInBounds_toArray, List.set_cons_zero, List.set_cons_succ]
          have BK202 := Aside0.mk Q_BK202
          clear Q_BK202
          have HB := Aside0.mk Q_HB
          clear Q_HB
          have HO205 := Aside0.mk (Q_HO205 hb0_)
          clear Q_HO205
          have HA_HO205 := Aside0.mk (Q_HA_HO205 hb0_)
          clear Q_HA_HO205
          clear hall hb0_ hb2_ hb3_ hb4_ hb6_ hb7_ hb8_ hb9_ hb10_
          obtain ⟨co26, eo26⟩ := HA_HO205.out
          clear HA_HO205
          subst eo26
          go_upto_if 31 with (fail)
          go_cut [12, 13] (fun v12 v13 wc => ∃ (kq : Nat) (x12_13 : Int) (x13_13 : ByteArray), v12 = .int .i64 x12_13 ∧ v13 = .string x13_13 ∧ Aside0 (parallaxlaw11_ChunkClauses.j0 kq a0 a1 a4 x12_13 x13_13 t192 t193 t194 t195 t196 t197 t198 t199 t200 t201 = some r) ∧ Aside0 (kq ≤ k) ∧ Aside0 (wc.heap[gb202]? = some (.cells #[.int .i64 t192, .int .i64 t193, .int .i64 t194, .int .i64 t195, .int .i64 t196, .int .i64 t197, .int .i64 t198, .int .i64 t199, .bool t200, .bool t201] 29 (0, 0))) ∧ Aside0 (Below w.heap.size w wc))
          case first =>
            have H := HC14.out
            clear HC14
            by_cases c27 : a2 = true
            · subst c27
              rw [if_pos rfl] at H
              obtain ⟨y208, hy208⟩ : ∃ y_ : List ByteArray, y_ = (([(⟨#[32]⟩ : ByteArray), (⟨#[]⟩ : ByteArray), (⟨#[9]⟩ : ByteArray)] : List ByteArray)) := ⟨_, rfl⟩
              replace H : (if 0 ≤ (Int.tmod a3 3) then (if (Int.tmod a3 3) < (y208.length : Int) then ((parallaxref1_PutHex.f k (wrap64 (a0))).bind fun t212 => (if (rdOf ByteArray.empty y208 (Int.tmod a3 3)).size + t212.size ≤ 9223372036854775807 then ((some (([(⟨#[32]⟩ : ByteArray), (⟨#[9, 32]⟩ : ByteArray)] : List ByteArray) : List ByteArray)).bind fun y213 => (if (ji9) < (y213.length : Int) then (if ((rdOf ByteArray.empty y208 (Int.tmod a3 3)) ++ t212).size + (rdOf ByteArray.empty y213 (ji9)).size ≤ 9223372036854775807 then (parallaxlaw11_ChunkClauses.j0 k a0 a1 a4 28 (((rdOf ByteArray.empty y208 (Int.tmod a3 3)) ++ t212) ++ (rdOf ByteArray.empty y213 (ji9))) t192 t193 t194 t195 t196 t197 t198 t199 t200 t201) else (none)) else (none))) else (none))) else (none)) else (none)) = some r := by first | (rw [hy208]; with_reducible exact H) | (have H2_ := (Option.bind_some _ _).symm.trans H; rw [hy208]; with_reducible exact H2_) | (have H2_ := (Option.bind_some _ _).symm.trans H; with_reducible exact H2_) | with_reducible exact H | (rw [hy208]; exact H) | exact H
              have Ny208 := Aside0.mk hy208
              clear hy208
              obtain ⟨ji28, hji28⟩ : ∃ j_ : Int, (Int.tmod a3 3) = j_ := ⟨_, rfl⟩
              replace H : (if 0 ≤ (ji28) then (if (ji28) < (y208.length : Int) then ((parallaxref1_PutHex.f k (wrap64 (a0))).bind fun t212 => (if (rdOf ByteArray.empty y208 (ji28)).size + t212.size ≤ 9223372036854775807 then ((some (([(⟨#[32]⟩ : ByteArray), (⟨#[9, 32]⟩ : ByteArray)] : List ByteArray) : List ByteArray)).bind fun y213 => (if (ji9) < (y213.length : Int) then (if ((rdOf ByteArray.empty y208 (ji28)) ++ t212).size + (rdOf ByteArray.empty y213 (ji9)).size ≤ 9223372036854775807 then (parallaxlaw11_ChunkClauses.j0 k a0 a1 a4 28 (((rdOf ByteArray.empty y208 (ji28)) ++ t212) ++ (rdOf ByteArray.empty y213 (ji9))) t192 t193 t194 t195 t196 t197 t198 t199 t200 t201) else (none)) else (none))) else (none))) else (none)) else (none)) = some r := by first | (rw [hji28] at H; exact H) | (simp only [hji28] at H ⊢; exact H)
              by_cases c29 : 0 ≤ (ji28)
              · rw [if_pos c29] at H
                have c29b0 : decide (0 ≤ (ji28)) = true := decide_eq_true c29
                clear c29
                (first | rw [c29b0] | (simp only [i64_w, i32_w]; rw [c29b0]) | skip)
                by_cases c30 : (ji28) < (y208.length : Int)
                · rw [if_pos c30] at H
                  have c30b0 : decide ((ji28) < (y208.length : Int)) = true := decide_eq_true c30
                  clear c30
                  replace H := Option.bind_eq_some_iff.mp H
                  obtain ⟨t212, A310, H⟩ := H
                  have E_ : t207 = t212 := Option.some.inj (A12.out.symm.trans A310)
                  subst E_
                  (try dsimp only at H)
                  have A31 := Aside0.mk A310
                  clear A310
                  by_cases c32 : (rdOf ByteArray.empty y208 (ji28)).size + t207.size ≤ 9223372036854775807
                  · rw [if_pos c32] at H
                    have c32b0 := eq_true c32
                    have c32b1 : decide ((rdOf ByteArray.empty y208 (ji28)).size + t207.size ≤ 9223372036854775807) = true := decide_eq_true c32
                    try have c32b2 : (9223372036854775807 < (rdOf ByteArray.empty y208 (ji28)).size + t207.size) = False := eq_false (Nat.not_lt.2 c32)
                    obtain ⟨y213, hy213⟩ : ∃ y_ : List ByteArray, y_ = (([(⟨#[32]⟩ : ByteArray), (⟨#[9, 32]⟩ : ByteArray)] : List ByteArray)) := ⟨_, rfl⟩
                    replace H : (if (ji9) < (y213.length : Int) then (if ((rdOf ByteArray.empty y208 (ji28)) ++ t207).size + (rdOf ByteArray.empty y213 (ji9)).size ≤ 9223372036854775807 then (parallaxlaw11_ChunkClauses.j0 k a0 a1 a4 28 (((rdOf ByteArray.empty y208 (ji28)) ++ t207) ++ (rdOf ByteArray.empty y213 (ji9))) t192 t193 t194 t195 t196 t197 t198 t199 t200 t201) else (none)) else (none)) = some r := by first | (rw [hy213]; with_reducible exact H) | (have H2_ := (Option.bind_some _ _).symm.trans H; rw [hy213]; with_reducible exact H2_) | (have H2_ := (Option.bind_some _ _).symm.trans H; with_reducible exact H2_) | with_reducible exact H | (rw [hy213]; exact H) | exact H
                    have Ny213 := Aside0.mk hy213
                    clear hy213
                    by_cases c33 : (ji9) < (y213.length : Int)
                    · rw [if_pos c33] at H
                      have c33b0 : decide ((ji9) < (y213.length : Int)) = true := decide_eq_true c33
                      clear c33
                      by_cases c34 : ((rdOf ByteArray.empty y208 (ji28)) ++ t207).size + (rdOf ByteArray.empty y213 (ji9)).size ≤ 9223372036854775807
                      · rw [if_pos c34] at H
                        have c34b0 := eq_true c34
                        have c34b1 : decide (((rdOf ByteArray.empty y208 (ji28)) ++ t207).size + (rdOf ByteArray.empty y213 (ji9)).size ≤ 9223372036854775807) = true := decide_eq_true c34
                        try have c34b2 : (9223372036854775807 < ((rdOf ByteArray.empty y208 (ji28)) ++ t207).size + (rdOf ByteArray.empty y213 (ji9)).size) = False := eq_false (Nat.not_lt.2 c34)
                        (try (have c34b3 : (9223372036854775807 < (rdOf ByteArray.empty y208 (ji28)).size + t207.size + (rdOf ByteArray.empty y213 (ji9)).size) = False := eq_false (by have h_ := c34; simp only [ByteArray.size_append] at h_; exact Nat.not_lt.mpr h_)))
                        (try (have c34b4 : decide ((rdOf ByteArray.empty y208 (ji28)).size + t207.size + (rdOf ByteArray.empty y213 (ji9)).size ≤ 9223372036854775807) = true := decide_eq_true (by have h_ := c34; simp only [ByteArray.size_append] at h_; exact h_)))
                        have H' := Aside0.mk H
                        clear H
                        try go_wp2
                        have pi211 : (0 ≤ ((ji28) : Int)) = True := eq_true (of_decide_eq_true (by first | (with_reducible assumption) | assumption))
                        have qi211 : ((ji28) < (y208.length : Int)) = True := eq_true (of_decide_eq_true (by first | (with_reducible assumption) | assumption))
                        have pi216 : (0 ≤ ((ji9) : Int)) = True := eq_true (of_decide_eq_true (by first | (with_reducible assumption) | assumption))
                        have qi216 : ((ji9) < (y213.length : Int)) = True := eq_true (of_decide_eq_true (by first | (with_reducible assumption) | assumption))
                        have n0_ := Aside0.mk (Kd.R_drew HO205.out)
                        have n1_ := Aside0.mk (blk_drew BK202.out)
                        have n2_ := Aside0.mk (below_drew1 HB.out)
                        clear HO205
                        clear BK202
                        clear HB
                        have HO205 := n0_
                        have BK202 := n1_
                        have HB := n2_
                        clear n0_ n1_ n2_
                        refine start_ (n := 17) (S := fun w' => True) (ds := []) #[false, false, false, false, false, false, false, false, false, false, false, false, false, false, false, false, false] (by kernel_rfl) rfl rfl trivial (fun hHeld => ?_); refine with_tabW parallaxlaw11_ChunkClauses.tab6 parallaxlaw11_ChunkClauses.bits6 (fun HT_ HW_ => ?_)
                        generalize w25.drew = w35 at HO205 BK202 HB hHeld ⊢
                        refine pure_ (i := 1) (N := some 33) (v := ?_) (a' := ?_) #[false, true, false, false, false, false, false, false, false, false, false, false, false, false, false, false, false] rfl rfl (any_of HT_.out (by kernel_rfl)) (fun _ _ _ h => h) (Or.inl ⟨by rfl, ?_⟩) ?_ ?_
                        rotate_left
                        · intro w'
                          go_simp
                          with_reducible rfl
                        rotate_left
                        · simp only [Act.put, List.setIfInBounds_toArray, List.set_cons_zero, List.set_cons_succ, i64_w, i32_w]
                          rfl
                        refine pure_ (i := 5) (N := some 37) (v := ?_) (a' := ?_) #[false, true, false, false, false, true, false, false, false, false, false, false, false, false, false, false, false] rfl rfl (any_of HT_.out (by kernel_rfl)) (fun _ _ _ h => h) (Or.inl ⟨by rfl, ?_⟩) ?_ ?_
                        rotate_left
                        · intro w'
                          go_simp
                          with_reducible rfl
                        rotate_left
                        · simp only [Act.put, List.setIfInBounds_toArray, List.set_cons_zero, List.set_cons_succ, i64_w, i32_w]
                          rfl
                        refine pure_ (i := 10) (N := some 42) (v := ?_) (a' := ?_) #[false, true, false, false, false, true, false, false, false, false, true, false, false, false, false, false, false] rfl rfl (any_of HT_.out (by kernel_rfl)) (fun _ _ _ h => h) (Or.inl ⟨by rfl, ?_⟩) ?_ ?_
                        rotate_left
                        · intro w'
                          go_simp
                          with_reducible rfl
                        rotate_left
                        · simp only [Act.put, List.setIfInBounds_toArray, List.set_cons_zero, List.set_cons_succ, i64_w, i32_w]
                          rfl
                        refine inv_at [0, 2, 3, 4, 6, 7, 8, 9, 11, 12, 13, 14, 15, 16] (fun a0_ b a w' => ∃ (v209 : Value) (adz_v209 : Addr) (v214 : Value) (adz_v214 : Addr) (m3_ : Value) (m12_ : Value), a = putSel a0_ b [(0, 32, v209), (2, 34, .int .u8 ji28), (3, 35, m3_), (4, 36, .string (rdOf ByteArray.empty y208 (ji28))), (6, 38, .int .i64 (wrap64 (a0))), (7, 39, .string t207), (8, 40, .string ((rdOf ByteArray.empty y208 (ji28)) ++ t207)), (9, 41, v214), (11, 43, .int .u8 ji9), (12, 44, m12_), (13, 45, .string (rdOf ByteArray.empty y213 (ji9))), (14, 46, .string (((rdOf ByteArray.empty y208 (ji28)) ++ t207) ++ (rdOf ByteArray.empty y213 (ji9)))), (15, 12, .int .i64 28), (16, 13, .string (((rdOf ByteArray.empty y208 (ji28)) ++ t207) ++ (rdOf ByteArray.empty y213 (ji9))))] ∧ (Kd.R Kd.string 9 w' w.heap.size (fun _ => True) (.slice (some adz_v204) y203.length co26) y203) ∧ (w'.heap[gb202]? = some (.cells #[.int .i64 t192, .int .i64 t193, .int .i64 t194, .int .i64 t195, .int .i64 t196, .int .i64 t197, .int .i64 t198, .int .i64 t199, .bool t200, .bool t201] 29 (0, 0))) ∧ (Below w.heap.size w w') ∧ (b 0 = true → Kd.R Kd.string 9 w' w.heap.size (fun k_ => some k_ ≠ (.slice (some adz_v204) y203.length co26 : Value).ownBlock) v209 y208) ∧ (b 0 = true → ∃ c_, (v209 : Value) = .slice (some adz_v209) y208.length c_) ∧ (b 9 = true → Kd.R Kd.string 9 w' w.heap.size (fun k_ => some k_ ≠ (.slice (some adz_v204) y203.length co26 : Value).ownBlock) v214 y213) ∧ (b 9 = true → ∃ c_, (v214 : Value) = .slice (some adz_v214) y213.length c_) ∧ (b 3 = true → (m3_ : Value) = .pointer (some (adz_v209.add ((ji28)).toNat))) ∧ (b 12 = true → (m12_ : Value) = .pointer (some (adz_v214.add ((ji9)).toNat)))) HT_.out HW_.out (by kernel_rfl) (by kernel_rfl) ?_ ?_ ?_
                        · exact ⟨.bool false, ⟨0, 0, none⟩, .bool false, ⟨0, 0, none⟩, .bool false, .bool false, by simp only [putSel, Bool.false_eq_true, if_false], HO205.out, BK202.out, HB.out, fun h_ => absurd h_ (by decide), fun h_ => absurd h_ (by decide), fun h_ => absurd h_ (by decide), fun h_ => absurd h_ (by decide), fun h_ => absurd h_ (by decide), fun h_ => absurd h_ (by decide)⟩
                        · skip
                          clear BK202 HB HO205
                          refine steps_cons ?_ ?_
                          · rintro b a w' ⟨v209, adz_v209, v214, adz_v214, m3_, m12_, ha, Q_HO205, Q_BK202, Q_HB, Q_HO210, Q_HA_HO210, Q_HO215, Q_HA_HO215, Q_X3_, Q_X12_⟩ hb_ hon hoff
                            refine ⟨_, rfl, fun K hK => ?_⟩
                            replace ha := Aside0.mk ha
                            have HO205 := Aside0.mk Q_HO205
                            have BK202 := Aside0.mk Q_BK202
                            have HB := Aside0.mk Q_HB
                            refine Kd.R_lit_step Kd.string _ 9 ?hg (N := 32) ?hd (xs := ([(⟨#[32]⟩ : ByteArray), (⟨#[]⟩ : ByteArray), (⟨#[9]⟩ : ByteArray)] : List ByteArray)) (inner := [.string (⟨#[32]⟩ : ByteArray), .string (⟨#[]⟩ : ByteArray), .string (⟨#[9]⟩ : ByteArray)]) (ok := fun _ => True) (okp := fun _ => True) ?hr ?hp (fun _ hk => hk) trivial (Below.refl _ _) (Nat.le_refl _) (by simp) ?_; (case hd => rfl); (case hg => rfl); (case hr => first | (go_simp; done) | (go_simp; rfl)); (case hp => exact (Reps.one (show Kd.M Kd.string _ _ _ (⟨#[32]⟩ : ByteArray) [.string (⟨#[32]⟩ : ByteArray)] from rfl) (Reps.one (show Kd.M Kd.string _ _ _ (⟨#[]⟩ : ByteArray) [.string (⟨#[]⟩ : ByteArray)] from rfl) (Reps.one (show Kd.M Kd.string _ _ _ (⟨#[9]⟩ : ByteArray) [.string (⟨#[9]⟩ : ByteArray)] from rfl) (Reps.none _ _)))))
                            intro v209 w36 ho37 hb hg_ hnew_
                            clear hg_ hnew_
                            (first | rw [← Ny208.out] at ho37 | (simp only [Int.reduceToNat] at ho37; rw [← Ny208.out] at ho37))
                            have n0_ := Aside0.mk (Kd.R_elder' (by (with_reducible repeat (first | apply Kd.R_alloc | apply Kd.R_drewN | apply Kd.R_drew)); exact HO205.out) (Kd.R_base ho37) hb)
                            have n1_ := Aside0.mk (Kd.R_lower (Kd.R_new' ho37 (Kd.R_lt (by (with_reducible repeat (first | apply Kd.R_alloc | apply Kd.R_drewN | apply Kd.R_drew)); exact HO205.out))) (below_size (by repeat (first | (with_reducible first | exact HB.out | apply below_alloc | apply pw_below_drewN | apply below_drew1 | refine below_set ?_ GE202.out) | exact HB.out))))
                            have n2_ := Aside0.mk (blk_below (g := gb202) (o := .cells #[.int .i64 t192, .int .i64 t193, .int .i64 t194, .int .i64 t195, .int .i64 t196, .int .i64 t197, .int .i64 t198, .int .i64 t199, .bool t200, .bool t201] 29 (0, 0)) (by (with_reducible repeat (first | refine blk_drewN ?_ _ | refine blk_drew ?_ | refine blk_alloc ?_ _)); exact BK202.out) hb)
                            have n3_ := Aside0.mk (below_step (by repeat (first | (with_reducible first | exact HB.out | apply below_alloc | apply pw_below_drewN | apply below_drew1 | refine below_set ?_ GE202.out) | exact HB.out)) hb)
                            have z_HO215 := fun (h0_ : b 9 = true) => (show Kd.R Kd.string 9 w36 w.heap.size (fun k_ => some k_ ≠ (.slice (some adz_v204) y203.length co26 : Value).ownBlock) v214 y213 from by first | exact (Kd.R_elder' (by (with_reducible repeat (first | apply Kd.R_alloc | apply Kd.R_drewN | apply Kd.R_drew)); exact (Q_HO215 h0_)) (Kd.R_base ho37) hb) | exact Kd.R_mono (Kd.R_elder' (by (with_reducible repeat (first | apply Kd.R_alloc | apply Kd.R_drewN | apply Kd.R_drew)); exact (Q_HO215 h0_)) (Kd.R_base ho37) hb) (fun _ h_ => by first | trivial | exact h_ | exact h_.1))
                            clear HO205
                            clear BK202
                            clear HB
                            have HO205 := n0_
                            have HO210 := n1_
                            have BK202 := n2_
                            have HB := n3_
                            clear n0_ n1_ n2_ n3_
                            clear hb ho37
                            obtain ⟨Ao38, co38, eo38⟩ := Kd.R_slice HO210.out
                            subst eo38
                            obtain ⟨ado38, fo38, _⟩ := Kd.at_string (Kd.R_reads' HO210.out).2.2 0 (by decide) (by rw [Ny208.out]; simp)
                            cases fo38
                            refine hK.out _ _ ⟨.slice (some ado38) y208.length co38, ado38, v214, adz_v214, m3_, m12_, (by rw [ha.out]; exact putSel_upk 0 hb_ rfl rfl rfl), (by (with_reducible repeat (first | apply Kd.R_alloc | apply Kd.R_drewN | apply Kd.R_drew)); exact Kd.R_mono HO205.out (fun _ hk => (by first | exact hk.2 | exact True.intro))), (by (with_reducible repeat (first | refine blk_drewN ?_ _ | refine blk_drew ?_ | refine blk_alloc ?_ _)); exact BK202.out), (by repeat (first | (with_reducible first | exact HB.out | apply below_alloc | apply pw_below_drewN | apply below_drew1 | refine below_set ?_ GE202.out) | exact HB.out)), fun _ => (by (with_reducible repeat (first | apply Kd.R_alloc | apply Kd.R_drewN | apply Kd.R_drew)); exact Kd.R_mono HO210.out (fun _ hk => (by first | exact hk.2 | exact True.intro))), fun _ => ⟨_, rfl⟩, z_HO215, Q_HA_HO215, fun h0_ => absurd ((hoff 3 (by kernel_rfl)).symm.trans h0_) (by decide), Q_X12_⟩
                          refine steps_cons ?_ ?_
                          · rintro b a w' ⟨v209, adz_v209, v214, adz_v214, m3_, m12_, ha, Q_HO205, Q_BK202, Q_HB, Q_HO210, Q_HA_HO210, Q_HO215, Q_HA_HO215, Q_X3_, Q_X12_⟩ hb_ hon hoff
                            refine ⟨_, rfl, fun K hK => ?_⟩
                            have e33 : a.tmps[33]? = some (.int .u8 a3) := by rw [ha]; exact (putSel_off rfl).trans rfl
                            replace ha := Aside0.mk ha
                            have HO205 := Aside0.mk Q_HO205
                            have BK202 := Aside0.mk Q_BK202
                            have HB := Aside0.mk Q_HB
                            refine value_ (w1 := w') (v := .int .u8 ji28) (by rfl) rfl ?_ ?_
                            · go_simp
                              (try simp only [i64_w])
                              try rfl
                            refine hK.out _ _ ⟨v209, adz_v209, v214, adz_v214, m3_, m12_, (by rw [ha.out]; exact putSel_upk 1 hb_ rfl rfl rfl), Q_HO205, Q_BK202, Q_HB, Q_HO210, Q_HA_HO210, Q_HO215, Q_HA_HO215, fun h0_ => absurd ((hoff 3 (by kernel_rfl)).symm.trans h0_) (by decide), Q_X12_⟩
                          refine steps_cons ?_ ?_
                          · rintro b a w' ⟨v209, adz_v209, v214, adz_v214, m3_, m12_, ha, Q_HO205, Q_BK202, Q_HB, Q_HO210, Q_HA_HO210, Q_HO215, Q_HA_HO215, Q_X3_, Q_X12_⟩ hb_ hon hoff
                            refine ⟨_, rfl, fun K hK => ?_⟩
                            have e32 : a.tmps[32]? = some (v209) := by rw [ha]; exact putSel_on (e := (0, 32, v209)) 0 rfl rfl (hon 0 (by kernel_rfl)) rfl
                            have e34 : a.tmps[34]? = some (.int .u8 ji28) := by rw [ha]; exact putSel_on (e := (2, 34, .int .u8 ji28)) 1 rfl rfl (hon 2 (by kernel_rfl)) rfl
                            replace ha := Aside0.mk ha
                            have HO205 := Aside0.mk Q_HO205
                            have BK202 := Aside0.mk Q_BK202
                            have HB := Aside0.mk Q_HB
                            have HO210 := Aside0.mk (Q_HO210 (hon 0 (by kernel_rfl)))
                            have HA_HO210 := Aside0.mk (Q_HA_HO210 (hon 0 (by kernel_rfl)))
                            obtain ⟨c_, hv_⟩ := HA_HO210.out
                            rw [hv_] at e32
                            refine value_ (w1 := w') (v := .pointer (some (adz_v209.add ((ji28)).toNat))) (by rfl) rfl ?_ ?_
                            · go_simp
                              (try simp only [i64_w])
                              try rfl
                            refine hK.out _ _ ⟨v209, adz_v209, v214, adz_v214, (.pointer (some (adz_v209.add ((ji28)).toNat))), m12_, (by rw [ha.out]; exact putSel_upk 2 hb_ rfl rfl rfl), Q_HO205, Q_BK202, Q_HB, Q_HO210, Q_HA_HO210, Q_HO215, Q_HA_HO215, fun _ => rfl, Q_X12_⟩
                          refine steps_cons ?_ ?_
                          · rintro b a w' ⟨v209, adz_v209, v214, adz_v214, m3_, m12_, ha, Q_HO205, Q_BK202, Q_HB, Q_HO210, Q_HA_HO210, Q_HO215, Q_HA_HO215, Q_X3_, Q_X12_⟩ hb_ hon hoff
                            refine ⟨_, rfl, fun K hK => ?_⟩
                            have e35 : a.tmps[35]? = some (m3_) := by rw [ha]; exact putSel_on (e := (3, 35, m3_)) 2 rfl rfl (hon 3 (by kernel_rfl)) rfl
                            rw [Q_X3_ (hon 3 (by kernel_rfl))] at e35
                            replace ha := Aside0.mk ha
                            have HO205 := Aside0.mk Q_HO205
                            have BK202 := Aside0.mk Q_BK202
                            have HB := Aside0.mk Q_HB
                            have HO210 := Aside0.mk (Q_HO210 (hon 0 (by kernel_rfl)))
                            have HA_HO210 := Aside0.mk (Q_HA_HO210 (hon 0 (by kernel_rfl)))
                            obtain ⟨c_, hv_⟩ := HA_HO210.out
                            have hF_ := HO210.out
                            rw [hv_] at hF_
                            obtain ⟨ad_, ea_, hx_⟩ := Kd.at_string (Kd.R_reads' hF_).2.2 (ji28) (of_eq_true pi211) (of_eq_true qi211)
                            cases ea_
                            refine value_ (w1 := w') (v := .string (rdOf ByteArray.empty y208 (ji28))) (by rfl) rfl ?_ ?_
                            · go_simp
                              (try simp only [i64_w])
                              try rfl
                            refine hK.out _ _ ⟨v209, adz_v209, v214, adz_v214, m3_, m12_, (by rw [ha.out]; exact putSel_upk 3 hb_ rfl rfl rfl), Q_HO205, Q_BK202, Q_HB, Q_HO210, Q_HA_HO210, Q_HO215, Q_HA_HO215, Q_X3_, Q_X12_⟩
                          refine steps_cons ?_ ?_
                          · rintro b a w' ⟨v209, adz_v209, v214, adz_v214, m3_, m12_, ha, Q_HO205, Q_BK202, Q_HB, Q_HO210, Q_HA_HO210, Q_HO215, Q_HA_HO215, Q_X3_, Q_X12_⟩ hb_ hon hoff
                            refine ⟨_, rfl, fun K hK => ?_⟩
                            have e37 : a.tmps[37]? = some (.int .u16 a0) := by rw [ha]; exact (putSel_off rfl).trans rfl
                            replace ha := Aside0.mk ha
                            have HO205 := Aside0.mk Q_HO205
                            have BK202 := Aside0.mk Q_BK202
                            have HB := Aside0.mk Q_HB
                            refine value_ (w1 := w') (v := .int .i64 (wrap64 (a0))) (by rfl) rfl ?_ ?_
                            · go_simp
                              (try simp only [i64_w])
                              try rfl
                            refine hK.out _ _ ⟨v209, adz_v209, v214, adz_v214, m3_, m12_, (by rw [ha.out]; exact putSel_upk 4 hb_ rfl rfl rfl), Q_HO205, Q_BK202, Q_HB, Q_HO210, Q_HA_HO210, Q_HO215, Q_HA_HO215, Q_X3_, Q_X12_⟩
                          refine steps_cons ?_ ?_
                          · rintro b a w' ⟨v209, adz_v209, v214, adz_v214, m3_, m12_, ha, Q_HO205, Q_BK202, Q_HB, Q_HO210, Q_HA_HO210, Q_HO215, Q_HA_HO215, Q_X3_, Q_X12_⟩ hb_ hon hoff
                            refine ⟨_, rfl, fun K hK => ?_⟩
                            have e38 : a.tmps[38]? = some (.int .i64 (wrap64 (a0))) := by rw [ha]; exact putSel_on (e := (6, 38, .int .i64 (wrap64 (a0)))) 4 rfl rfl (hon 6 (by kernel_rfl)) rfl
                            replace ha := Aside0.mk ha
                            have HO205 := Aside0.mk Q_HO205
                            have BK202 := Aside0.mk Q_BK202
                            have HB := Aside0.mk Q_HB
                            refine goes_ Tryd.func11 (by kernel_rfl) rfl #[.int .i64 (wrap64 (a0))] (by rfl) rfl rfl (by first | (simp only [List.map_toArray, List.map_cons, List.map_nil, Act.eval, Array.getD_eq_getD_getElem?, Option.getD_some, e38]; done) | (simp only [List.map_toArray, List.map_cons, List.map_nil, Act.eval, Array.getD_eq_getD_getElem?, Option.getD_some, e38]; rfl)) ?_
                            with_reducible refine (parallaxref1_PutHex.calls k (wrap64 (a0)) t207 _ A31.out).mono ?_
                            rintro e w36 ⟨rfl, hb⟩
                            refine ⟨_, rfl, ?_⟩
                            have n0_ := Aside0.mk (Kd.R_below (by (with_reducible repeat (first | apply Kd.R_alloc | apply Kd.R_drewN | apply Kd.R_drew)); exact HO205.out) hb)
                            have n1_ := Aside0.mk (blk_below (g := gb202) (o := .cells #[.int .i64 t192, .int .i64 t193, .int .i64 t194, .int .i64 t195, .int .i64 t196, .int .i64 t197, .int .i64 t198, .int .i64 t199, .bool t200, .bool t201] 29 (0, 0)) (by (with_reducible repeat (first | refine blk_drewN ?_ _ | refine blk_drew ?_ | refine blk_alloc ?_ _)); exact BK202.out) hb)
                            have n2_ := Aside0.mk (below_step (by repeat (first | (with_reducible first | exact HB.out | apply below_alloc | apply pw_below_drewN | apply below_drew1 | refine below_set ?_ GE202.out) | exact HB.out)) hb)
                            have z_HO210 := fun (h0_ : b 0 = true) => (show Kd.R Kd.string 9 w36 w.heap.size (fun k_ => some k_ ≠ (.slice (some adz_v204) y203.length co26 : Value).ownBlock) v209 y208 from by first | exact (Kd.R_below (by (with_reducible repeat (first | apply Kd.R_alloc | apply Kd.R_drewN | apply Kd.R_drew)); exact (Q_HO210 h0_)) hb) | exact Kd.R_mono (Kd.R_below (by (with_reducible repeat (first | apply Kd.R_alloc | apply Kd.R_drewN | apply Kd.R_drew)); exact (Q_HO210 h0_)) hb) (fun _ h_ => by first | trivial | exact h_ | exact h_.1))
                            have z_HO215 := fun (h0_ : b 9 = true) => (show Kd.R Kd.string 9 w36 w.heap.size (fun k_ => some k_ ≠ (.slice (some adz_v204) y203.length co26 : Value).ownBlock) v214 y213 from by first | exact (Kd.R_below (by (with_reducible repeat (first | apply Kd.R_alloc | apply Kd.R_drewN | apply Kd.R_drew)); exact (Q_HO215 h0_)) hb) | exact Kd.R_mono (Kd.R_below (by (with_reducible repeat (first | apply Kd.R_alloc | apply Kd.R_drewN | apply Kd.R_drew)); exact (Q_HO215 h0_)) hb) (fun _ h_ => by first | trivial | exact h_ | exact h_.1))
                            clear HO205
                            clear BK202
                            clear HB
                            have HO205 := n0_
                            have BK202 := n1_
                            have HB := n2_
                            clear n0_ n1_ n2_
                            (try clear hb)
                            (try clear hb2)
                            (try clear hk)
                            (try clear hi)
                            refine hK.out _ _ ⟨v209, adz_v209, v214, adz_v214, m3_, m12_, (by rw [ha.out]; exact putSel_upk 5 hb_ rfl rfl rfl), (by (with_reducible repeat (first | apply Kd.R_alloc | apply Kd.R_drewN | apply Kd.R_drew)); exact HO205.out), (by (with_reducible repeat (first | refine blk_drewN ?_ _ | refine blk_drew ?_ | refine blk_alloc ?_ _)); exact BK202.out), (by repeat (first | (with_reducible first | exact HB.out | apply below_alloc | apply pw_below_drewN | apply below_drew1 | refine below_set ?_ GE202.out) | exact HB.out)), z_HO210, Q_HA_HO210, z_HO215, Q_HA_HO215, Q_X3_, Q_X12_⟩
                          refine steps_cons ?_ ?_
                          · rintro b a w' ⟨v209, adz_v209, v214, adz_v214, m3_, m12_, ha, Q_HO205, Q_BK202, Q_HB, Q_HO210, Q_HA_HO210, Q_HO215, Q_HA_HO215, Q_X3_, Q_X12_⟩ hb_ hon hoff
                            refine ⟨_, rfl, fun K hK => ?_⟩
                            have e36 : a.tmps[36]? = some (.string (rdOf ByteArray.empty y208 (ji28))) := by rw [ha]; exact putSel_on (e := (4, 36, .string (rdOf ByteArray.empty y208 (ji28)))) 3 rfl rfl (hon 4 (by kernel_rfl)) rfl
                            have e39 : a.tmps[39]? = some (.string t207) := by rw [ha]; exact putSel_on (e := (7, 39, .string t207)) 5 rfl rfl (hon 7 (by kernel_rfl)) rfl
                            replace ha := Aside0.mk ha
                            have HO205 := Aside0.mk Q_HO205
                            have BK202 := Aside0.mk Q_BK202
                            have HB := Aside0.mk Q_HB
                            have HO210 := Aside0.mk (Q_HO210 (hon 0 (by kernel_rfl)))
                            have HA_HO210 := Aside0.mk (Q_HA_HO210 (hon 0 (by kernel_rfl)))
                            refine value_ (w1 := w') (v := .string ((rdOf ByteArray.empty y208 (ji28)) ++ t207)) (by rfl) rfl ?_ ?_
                            · go_simp
                              (try simp only [i64_w])
                              try rfl
                            refine hK.out _ _ ⟨v209, adz_v209, v214, adz_v214, m3_, m12_, (by rw [ha.out]; exact putSel_upk 6 hb_ rfl rfl rfl), Q_HO205, Q_BK202, Q_HB, Q_HO210, Q_HA_HO210, Q_HO215, Q_HA_HO215, Q_X3_, Q_X12_⟩
                          refine steps_cons ?_ ?_
                          · rintro b a w' ⟨v209, adz_v209, v214, adz_v214, m3_, m12_, ha, Q_HO205, Q_BK202, Q_HB, Q_HO210, Q_HA_HO210, Q_HO215, Q_HA_HO215, Q_X3_, Q_X12_⟩ hb_ hon hoff
                            refine ⟨_, rfl, fun K hK => ?_⟩
                            replace ha := Aside0.mk ha
                            have HO205 := Aside0.mk Q_HO205
                            have BK202 := Aside0.mk Q_BK202
                            have HB := Aside0.mk Q_HB
                            refine Kd.R_lit_step Kd.string _ 9 ?hg (N := 41) ?hd (xs := ([(⟨#[32]⟩ : ByteArray), (⟨#[9, 32]⟩ : ByteArray)] : List ByteArray)) (inner := [.string (⟨#[32]⟩ : ByteArray), .string (⟨#[9, 32]⟩ : ByteArray)]) (ok := fun _ => True) (okp := fun _ => True) ?hr ?hp (fun _ hk => hk) trivial (Below.refl _ _) (Nat.le_refl _) (by simp) ?_; (case hd => rfl); (case hg => rfl); (case hr => first | (go_simp; done) | (go_simp; rfl)); (case hp => exact (Reps.one (show Kd.M Kd.string _ _ _ (⟨#[32]⟩ : ByteArray) [.string (⟨#[32]⟩ : ByteArray)] from rfl) (Reps.one (show Kd.M Kd.string _ _ _ (⟨#[9, 32]⟩ : ByteArray) [.string (⟨#[9, 32]⟩ : ByteArray)] from rfl) (Reps.none _ _))))
                            intro v214 w36 ho37 hb hg_ hnew_
                            clear hg_ hnew_
                            (first | rw [← Ny213.out] at ho37 | (simp only [Int.reduceToNat] at ho37; rw [← Ny213.out] at ho37))
                            have n0_ := Aside0.mk (Kd.R_elder' (by (with_reducible repeat (first | apply Kd.R_alloc | apply Kd.R_drewN | apply Kd.R_drew)); exact HO205.out) (Kd.R_base ho37) hb)
                            have n1_ := Aside0.mk (Kd.R_lower (Kd.R_new' ho37 (Kd.R_lt (by (with_reducible repeat (first | apply Kd.R_alloc | apply Kd.R_drewN | apply Kd.R_drew)); exact HO205.out))) (below_size (by repeat (first | (with_reducible first | exact HB.out | apply below_alloc | apply pw_below_drewN | apply below_drew1 | refine below_set ?_ GE202.out) | exact HB.out))))
                            have n2_ := Aside0.mk (blk_below (g := gb202) (o := .cells #[.int .i64 t192, .int .i64 t193, .int .i64 t194, .int .i64 t195, .int .i64 t196, .int .i64 t197, .int .i64 t198, .int .i64 t199, .bool t200, .bool t201] 29 (0, 0)) (by (with_reducible repeat (first | refine blk_drewN ?_ _ | refine blk_drew ?_ | refine blk_alloc ?_ _)); exact BK202.out) hb)
                            have n3_ := Aside0.mk (below_step (by repeat (first | (with_reducible first | exact HB.out | apply below_alloc | apply pw_below_drewN | apply below_drew1 | refine below_set ?_ GE202.out) | exact HB.out)) hb)
                            have z_HO210 := fun (h0_ : b 0 = true) => (show Kd.R Kd.string 9 w36 w.heap.size (fun k_ => some k_ ≠ (.slice (some adz_v204) y203.length co26 : Value).ownBlock) v209 y208 from by first | exact (Kd.R_elder' (by (with_reducible repeat (first | apply Kd.R_alloc | apply Kd.R_drewN | apply Kd.R_drew)); exact (Q_HO210 h0_)) (Kd.R_base ho37) hb) | exact Kd.R_mono (Kd.R_elder' (by (with_reducible repeat (first | apply Kd.R_alloc | apply Kd.R_drewN | apply Kd.R_drew)); exact (Q_HO210 h0_)) (Kd.R_base ho37) hb) (fun _ h_ => by first | trivial | exact h_ | exact h_.1))
                            clear HO205
                            clear BK202
                            clear HB
                            have HO205 := n0_
                            have HO215 := n1_
                            have BK202 := n2_
                            have HB := n3_
                            clear n0_ n1_ n2_ n3_
                            clear hb ho37
                            obtain ⟨Ao38, co38, eo38⟩ := Kd.R_slice HO215.out
                            subst eo38
                            obtain ⟨ado38, fo38, _⟩ := Kd.at_string (Kd.R_reads' HO215.out).2.2 0 (by decide) (by rw [Ny213.out]; simp)
                            cases fo38
                            refine hK.out _ _ ⟨v209, adz_v209, .slice (some ado38) y213.length co38, ado38, m3_, m12_, (by rw [ha.out]; exact putSel_upk 7 hb_ rfl rfl rfl), (by (with_reducible repeat (first | apply Kd.R_alloc | apply Kd.R_drewN | apply Kd.R_drew)); exact Kd.R_mono HO205.out (fun _ hk => (by first | exact hk.2 | exact True.intro))), (by (with_reducible repeat (first | refine blk_drewN ?_ _ | refine blk_drew ?_ | refine blk_alloc ?_ _)); exact BK202.out), (by repeat (first | (with_reducible first | exact HB.out | apply below_alloc | apply pw_below_drewN | apply below_drew1 | refine below_set ?_ GE202.out) | exact HB.out)), z_HO210, Q_HA_HO210, fun _ => (by (with_reducible repeat (first | apply Kd.R_alloc | apply Kd.R_drewN | apply Kd.R_drew)); exact Kd.R_mono HO215.out (fun _ hk => (by first | exact hk.2 | exact True.intro))), fun _ => ⟨_, rfl⟩, Q_X3_, fun h0_ => absurd ((hoff 12 (by kernel_rfl)).symm.trans h0_) (by decide)⟩
                          refine steps_cons ?_ ?_
                          · rintro b a w' ⟨v209, adz_v209, v214, adz_v214, m3_, m12_, ha, Q_HO205, Q_BK202, Q_HB, Q_HO210, Q_HA_HO210, Q_HO215, Q_HA_HO215, Q_X3_, Q_X12_⟩ hb_ hon hoff
                            refine ⟨_, rfl, fun K hK => ?_⟩
                            have e42 : a.tmps[42]? = some (.int .u8 a3) := by rw [ha]; exact (putSel_off rfl).trans rfl
                            replace ha := Aside0.mk ha
                            have HO205 := Aside0.mk Q_HO205
                            have BK202 := Aside0.mk Q_BK202
                            have HB := Aside0.mk Q_HB
                            refine value_ (w1 := w') (v := .int .u8 ji9) (by rfl) rfl ?_ ?_
                            · go_simp
                              (try simp only [i64_w])
                              try rfl
                            refine hK.out _ _ ⟨v209, adz_v209, v214, adz_v214, m3_, m12_, (by rw [ha.out]; exact putSel_upk 8 hb_ rfl rfl rfl), Q_HO205, Q_BK202, Q_HB, Q_HO210, Q_HA_HO210, Q_HO215, Q_HA_HO215, Q_X3_, fun h0_ => absurd ((hoff 12 (by kernel_rfl)).symm.trans h0_) (by decide)⟩
                          refine steps_cons ?_ ?_
                          · rintro b a w' ⟨v209, adz_v209, v214, adz_v214, m3_, m12_, ha, Q_HO205, Q_BK202, Q_HB, Q_HO210, Q_HA_HO210, Q_HO215, Q_HA_HO215, Q_X3_, Q_X12_⟩ hb_ hon hoff
                            refine ⟨_, rfl, fun K hK => ?_⟩
                            have e41 : a.tmps[41]? = some (v214) := by rw [ha]; exact putSel_on (e := (9, 41, v214)) 7 rfl rfl (hon 9 (by kernel_rfl)) rfl
                            have e43 : a.tmps[43]? = some (.int .u8 ji9) := by rw [ha]; exact putSel_on (e := (11, 43, .int .u8 ji9)) 8 rfl rfl (hon 11 (by kernel_rfl)) rfl
                            replace ha := Aside0.mk ha
                            have HO205 := Aside0.mk Q_HO205
                            have BK202 := Aside0.mk Q_BK202
                            have HB := Aside0.mk Q_HB
                            have HO215 := Aside0.mk (Q_HO215 (hon 9 (by kernel_rfl)))
                            have HA_HO215 := Aside0.mk (Q_HA_HO215 (hon 9 (by kernel_rfl)))
                            obtain ⟨c_, hv_⟩ := HA_HO215.out
                            rw [hv_] at e41
                            refine value_ (w1 := w') (v := .pointer (some (adz_v214.add ((ji9)).toNat))) (by rfl) rfl ?_ ?_
                            · go_simp
                              (try simp only [i64_w])
                              try rfl
                            refine hK.out _ _ ⟨v209, adz_v209, v214, adz_v214, m3_, (.pointer (some (adz_v214.add ((ji9)).toNat))), (by rw [ha.out]; exact putSel_upk 9 hb_ rfl rfl rfl), Q_HO205, Q_BK202, Q_HB, Q_HO210, Q_HA_HO210, Q_HO215, Q_HA_HO215, Q_X3_, fun _ => rfl⟩
                          refine steps_cons ?_ ?_
                          · rintro b a w' ⟨v209, adz_v209, v214, adz_v214, m3_, m12_, ha, Q_HO205, Q_BK202, Q_HB, Q_HO210, Q_HA_HO210, Q_HO215, Q_HA_HO215, Q_X3_, Q_X12_⟩ hb_ hon hoff
                            refine ⟨_, rfl, fun K hK => ?_⟩
                            have e44 : a.tmps[44]? = some (m12_) := by rw [ha]; exact putSel_on (e := (12, 44, m12_)) 9 rfl rfl (hon 12 (by kernel_rfl)) rfl
                            rw [Q_X12_ (hon 12 (by kernel_rfl))] at e44
                            replace ha := Aside0.mk ha
                            have HO205 := Aside0.mk Q_HO205
                            have BK202 := Aside0.mk Q_BK202
                            have HB := Aside0.mk Q_HB
                            have HO215 := Aside0.mk (Q_HO215 (hon 9 (by kernel_rfl)))
                            have HA_HO215 := Aside0.mk (Q_HA_HO215 (hon 9 (by kernel_rfl)))
                            obtain ⟨c_, hv_⟩ := HA_HO215.out
                            have hF_ := HO215.out
                            rw [hv_] at hF_
                            obtain ⟨ad_, ea_, hx_⟩ := Kd.at_string (Kd.R_reads' hF_).2.2 (ji9) (of_eq_true pi216) (of_eq_true qi216)
                            cases ea_
                            refine value_ (w1 := w') (v := .string (rdOf ByteArray.empty y213 (ji9))) (by rfl) rfl ?_ ?_
                            · go_simp
                              (try simp only [i64_w])
                              try rfl
                            refine hK.out _ _ ⟨v209, adz_v209, v214, adz_v214, m3_, m12_, (by rw [ha.out]; exact putSel_upk 10 hb_ rfl rfl rfl), Q_HO205, Q_BK202, Q_HB, Q_HO210, Q_HA_HO210, Q_HO215, Q_HA_HO215, Q_X3_, Q_X12_⟩
                          refine steps_cons ?_ ?_
                          · rintro b a w' ⟨v209, adz_v209, v214, adz_v214, m3_, m12_, ha, Q_HO205, Q_BK202, Q_HB, Q_HO210, Q_HA_HO210, Q_HO215, Q_HA_HO215, Q_X3_, Q_X12_⟩ hb_ hon hoff
                            refine ⟨_, rfl, fun K hK => ?_⟩
                            have e40 : a.tmps[40]? = some (.string ((rdOf ByteArray.empty y208 (ji28)) ++ t207)) := by rw [ha]; exact putSel_on (e := (8, 40, .string ((rdOf ByteArray.empty y208 (ji28)) ++ t207))) 6 rfl rfl (hon 8 (by kernel_rfl)) rfl
                            have e45 : a.tmps[45]? = some (.string (rdOf ByteArray.empty y213 (ji9))) := by rw [ha]; exact putSel_on (e := (13, 45, .string (rdOf ByteArray.empty y213 (ji9)))) 10 rfl rfl (hon 13 (by kernel_rfl)) rfl
                            replace ha := Aside0.mk ha
                            have HO205 := Aside0.mk Q_HO205
                            have BK202 := Aside0.mk Q_BK202
                            have HB := Aside0.mk Q_HB
                            have HO210 := Aside0.mk (Q_HO210 (hon 0 (by kernel_rfl)))
                            have HA_HO210 := Aside0.mk (Q_HA_HO210 (hon 0 (by kernel_rfl)))
                            have HO215 := Aside0.mk (Q_HO215 (hon 9 (by kernel_rfl)))
                            have HA_HO215 := Aside0.mk (Q_HA_HO215 (hon 9 (by kernel_rfl)))
                            refine value_ (w1 := w') (v := .string (((rdOf ByteArray.empty y208 (ji28)) ++ t207) ++ (rdOf ByteArray.empty y213 (ji9)))) (by rfl) rfl ?_ ?_
                            · go_simp
                              (try simp only [i64_w])
                              try rfl
                            refine hK.out _ _ ⟨v209, adz_v209, v214, adz_v214, m3_, m12_, (by rw [ha.out]; exact putSel_upk 11 hb_ rfl rfl rfl), Q_HO205, Q_BK202, Q_HB, Q_HO210, Q_HA_HO210, Q_HO215, Q_HA_HO215, Q_X3_, Q_X12_⟩
                          refine steps_cons ?_ ?_
                          · rintro b a w' ⟨v209, adz_v209, v214, adz_v214, m3_, m12_, ha, Q_HO205, Q_BK202, Q_HB, Q_HO210, Q_HA_HO210, Q_HO215, Q_HA_HO215, Q_X3_, Q_X12_⟩ hb_ hon hoff
                            refine ⟨_, rfl, fun K hK => ?_⟩
                            replace ha := Aside0.mk ha
                            have HO205 := Aside0.mk Q_HO205
                            have BK202 := Aside0.mk Q_BK202
                            have HB := Aside0.mk Q_HB
                            refine value_ (w1 := w') (v := .int .i64 28) (by rfl) rfl ?_ ?_
                            · go_simp
                              (try simp only [i64_w])
                              try rfl
                            refine hK.out _ _ ⟨v209, adz_v209, v214, adz_v214, m3_, m12_, (by rw [ha.out]; exact putSel_upk 12 hb_ rfl rfl rfl), Q_HO205, Q_BK202, Q_HB, Q_HO210, Q_HA_HO210, Q_HO215, Q_HA_HO215, Q_X3_, Q_X12_⟩
                          refine steps_cons ?_ ?_
                          · rintro b a w' ⟨v209, adz_v209, v214, adz_v214, m3_, m12_, ha, Q_HO205, Q_BK202, Q_HB, Q_HO210, Q_HA_HO210, Q_HO215, Q_HA_HO215, Q_X3_, Q_X12_⟩ hb_ hon hoff
                            refine ⟨_, rfl, fun K hK => ?_⟩
                            have e46 : a.tmps[46]? = some (.string (((rdOf ByteArray.empty y208 (ji28)) ++ t207) ++ (rdOf ByteArray.empty y213 (ji9)))) := by rw [ha]; exact putSel_on (e := (14, 46, .string (((rdOf ByteArray.empty y208 (ji28)) ++ t207) ++ (rdOf ByteArray.empty y213 (ji9))))) 11 rfl rfl (hon 14 (by kernel_rfl)) rfl
                            replace ha := Aside0.mk ha
                            have HO205 := Aside0.mk Q_HO205
                            have BK202 := Aside0.mk Q_BK202
                            have HB := Aside0.mk Q_HB
                            have HO210 := Aside0.mk (Q_HO210 (hon 0 (by kernel_rfl)))
                            have HA_HO210 := Aside0.mk (Q_HA_HO210 (hon 0 (by kernel_rfl)))
                            have HO215 := Aside0.mk (Q_HO215 (hon 9 (by kernel_rfl)))
                            have HA_HO215 := Aside0.mk (Q_HA_HO215 (hon 9 (by kernel_rfl)))
                            refine value_ (w1 := w') (v := .string (((rdOf ByteArray.empty y208 (ji28)) ++ t207) ++ (rdOf ByteArray.empty y213 (ji9)))) (by rfl) rfl ?_ ?_
                            · go_simp
                              (try simp only [i64_w])
                              try rfl
                            refine hK.out _ _ ⟨v209, adz_v209, v214, adz_v214, m3_, m12_, (by rw [ha.out]; exact putSel_upk 13 hb_ rfl rfl rfl), Q_HO205, Q_BK202, Q_HB, Q_HO210, Q_HA_HO210, Q_HO215, Q_HA_HO215, Q_X3_, Q_X12_⟩
                          exact steps_nil
                        rintro b a w43 hall ⟨v209, adz_v209, v214, adz_v214, m3_, m12_, ha, Q_HO205, Q_BK202, Q_HB, Q_HO210, Q_HA_HO210, Q_HO215, Q_HA_HO215, Q_X3_, Q_X12_⟩
                        clear BK202 HB HO205
                        have hb0_ := hall 0 (by kernel_rfl)
                        have hb2_ := hall 2 (by kernel_rfl)
                        have hb3_ := hall 3 (by kernel_rfl)
                        have hb4_ := hall 4 (by kernel_rfl)
                        have hb6_ := hall 6 (by kernel_rfl)
                        have hb7_ := hall 7 (by kernel_rfl)
                        have hb8_ := hall 8 (by kernel_rfl)
                        have hb9_ := hall 9 (by kernel_rfl)
                        have hb11_ := hall 11 (by kernel_rfl)
                        have hb12_ := hall 12 (by kernel_rfl)
                        have hb13_ := hall 13 (by kernel_rfl)
                        have hb14_ := hall 14 (by kernel_rfl)
                        have hb15_ := hall 15 (by kernel_rfl)
                        have hb16_ := hall 16 (by kernel_rfl)
                        subst ha
                        obtain rfl := Q_X3_ hb3_
                        obtain rfl := Q_X12_ hb12_
                        simp only [putSel, hb0_, hb2_, hb3_, hb4_, hb6_, hb7_, hb8_, hb9_, hb11_, hb12_, hb13_, hb14_, hb15_, hb16_, if_true, Act.put, List.setIfInBounds_toArray, List.set_cons_zero, List.set_cons_succ]
                        have HO205 := Aside0.mk Q_HO205
                        clear Q_HO205
                        have BK202 := Aside0.mk Q_BK202
                        clear Q_BK202
                        have HB := Aside0.mk Q_HB
                        clear Q_HB
                        have HO210 := Aside0.mk (Q_HO210 hb0_)
                        clear Q_HO210
                        have HA_HO210 := Aside0.mk (Q_HA_HO210 hb0_)
                        clear Q_HA_HO210
                        have HO215 := Aside0.mk (Q_HO215 hb9_)
                        clear Q_HO215
                        have HA_HO215 := Aside0.mk (Q_HA_HO215 hb9_)
                        clear Q_HA_HO215
                        clear hall hb0_ hb2_ hb3_ hb4_ hb6_ hb7_ hb8_ hb9_ hb11_ hb12_ hb13_ hb14_ hb15_ hb16_
                        obtain ⟨co44, eo44⟩ := HA_HO210.out
                        clear HA_HO210
                        subst eo44
                        obtain ⟨co45, eo45⟩ := HA_HO215.out
                        clear HA_HO215
                        subst eo45
                        try go_wp2
                        go_meet
                        case rel => exact ⟨_, (28), (((rdOf ByteArray.empty y208 (ji28)) ++ t207) ++ (rdOf ByteArray.empty y213 (ji9))), (by first | rfl | (simp; done) | (simp [*]; done)), (by first | rfl | (simp; done) | (simp only [← hji9, ← hji28] <;> (first | rfl | simp)) | (simp [*]; done)), H', ⟨by first | omega | exact Nat.le_refl _⟩, ⟨by (with_reducible repeat (first | refine blk_drewN ?_ _ | refine blk_drew ?_ | refine blk_alloc ?_ _)); exact BK202.out⟩, ⟨by repeat (first | (with_reducible first | exact HB.out | apply below_alloc | apply pw_below_drewN | apply below_drew1 | refine below_set ?_ GE202.out) | exact HB.out)⟩⟩
                      · rw [if_neg c34] at H
                        exact absurd H (by simp)
                    · rw [if_neg c33] at H
                      exact absurd H (by simp)
                  · rw [if_neg c32] at H
                    exact absurd H (by simp)
                · rw [if_neg c30] at H
                  exact absurd H (by simp)
              · rw [if_neg c29] at H
                exact absurd H (by simp)
            · replace c27 := Bool.eq_false_iff.mpr c27
              subst c27
              rw [if_neg (show ¬ (false = true) by decide)] at H
              have H' := Aside0.mk H
              clear H
              go_wp2
              go_meet
              case rel => exact ⟨_, (27), ((rdOf ByteArray.empty y203 (ji9)) ++ t207), (by first | rfl | (simp; done) | (simp [*]; done)), (by first | rfl | (simp; done) | (simp only [← hji9] <;> (first | rfl | simp)) | (simp [*]; done)), H', ⟨by first | omega | exact Nat.le_refl _⟩, ⟨by (with_reducible repeat (first | refine blk_drewN ?_ _ | refine blk_drew ?_ | refine blk_alloc ?_ _)); exact BK202.out⟩, ⟨by repeat (first | (with_reducible first | exact HB.out | apply below_alloc | apply pw_below_drewN | apply below_drew1 | refine below_set ?_ GE202.out) | exact HB.out)⟩⟩
          case rest =>
            clear HC14
            try clear c1
            try clear c2
            try clear p2
            try clear qi2
            try clear c3
            try clear p6
            try clear c11
            try clear qi20
            try clear qi21
            try clear c27
            try clear c29
            try clear c29b0
            try clear c30
            try clear c30b0
            try clear c32
            try clear c32b0
            try clear c32b1
            try clear c32b2
            try clear c33
            try clear c33b0
            try clear c34
            try clear c34b0
            try clear c34b1
            try clear c34b2
            obtain ⟨kq, x12_13, x13_13, rfl, rfl, HA, HJ13, BK202, HB⟩ := hcut
            cases kq with
            | zero => exact absurd HA.out (by simp [parallaxlaw11_ChunkClauses.j0])
            | succ kj13 =>
              have H := HA.out
              clear HA
              simp only [parallaxlaw11_ChunkClauses.j0] at H
              have HC46 := Aside0.mk H
              clear H
              go_upto_if 47 with (fail)
              go_cut [13] (fun v13 wc => ∃ (kq : Nat) (x13_45 : ByteArray), v13 = .string x13_45 ∧ Aside0 (parallaxlaw11_ChunkClauses.j1 kq a0 a1 x12_13 x13_45 t192 t193 t194 t195 t196 t197 t198 t199 t200 t201 = some r) ∧ Aside0 (kq ≤ kj13) ∧ Aside0 (wc.heap[gb202]? = some (.cells #[.int .i64 t192, .int .i64 t193, .int .i64 t194, .int .i64 t195, .int .i64 t196, .int .i64 t197, .int .i64 t198, .int .i64 t199, .bool t200, .bool t201] 29 (0, 0))) ∧ Aside0 (Below w.heap.size w wc))
              case first =>
                have H := HC46.out
                clear HC46
                by_cases c47 : a4 = true
                · subst c47
                  rw [if_pos rfl] at H
                  by_cases c48 : x13_13.size + 4 ≤ 9223372036854775807
                  · rw [if_pos c48] at H
                    have c48b0 := eq_true c48
                    have c48b1 : decide (x13_13.size + 4 ≤ 9223372036854775807) = true := decide_eq_true c48
                    try have c48b2 : (9223372036854775807 < x13_13.size + 4) = False := eq_false (Nat.not_lt.2 c48)
                    have H' := Aside0.mk H
                    clear H
                    go_wp2
                    go_meet
                    case rel => exact ⟨_, (x13_13 ++ (⟨#[59, 97, 61, 98]⟩ : ByteArray)), (by first | rfl | (simp; done) | (simp [*]; done)), H', ⟨by have := HJ13.out; first | omega | exact Nat.le_refl _⟩, ⟨by (with_reducible repeat (first | refine blk_drewN ?_ _ | refine blk_drew ?_ | refine blk_alloc ?_ _)); exact BK202.out⟩, ⟨by repeat (first | (with_reducible first | exact HB.out | apply below_alloc | apply pw_below_drewN | apply below_drew1 | refine below_set ?_ GE202.out) | exact HB.out)⟩⟩
                  · rw [if_neg c48] at H
                    exact absurd H (by simp)
                · replace c47 := Bool.eq_false_iff.mpr c47
                  subst c47
                  rw [if_neg (show ¬ (false = true) by decide)] at H
                  have H' := Aside0.mk H
                  clear H
                  go_wp2
                  go_meet
                  case rel => exact ⟨_, (x13_13), (by first | rfl | (simp; done) | (simp [*]; done)), H', ⟨by have := HJ13.out; first | omega | exact Nat.le_refl _⟩, ⟨by (with_reducible repeat (first | refine blk_drewN ?_ _ | refine blk_drew ?_ | refine blk_alloc ?_ _)); exact BK202.out⟩, ⟨by repeat (first | (with_reducible first | exact HB.out | apply below_alloc | apply pw_below_drewN | apply below_drew1 | refine below_set ?_ GE202.out) | exact HB.out)⟩⟩
              case rest =>
                clear HC46
                try clear c1
                try clear c2
                try clear p2
                try clear qi2
                try clear c3
                try clear c4
                try clear p6
                try clear c11
                try clear qi20
                try clear qi21
                try clear c27
                try clear c29
                try clear c29b0
                try clear c30
                try clear c30b0
                try clear c32
                try clear c32b0
                try clear c32b1
                try clear c32b2
                try clear c33
                try clear c33b0
                try clear c34
                try clear c34b0
                try clear c34b1
                try clear c34b2
                try clear c47
                try clear c48
                try clear c48b0
                try clear c48b1
                try clear c48b2
                try clear p2
                try clear p6
                obtain ⟨kq, x13_45, rfl, HA, HJ45, BK202, HB⟩ := hcut
                cases kq with
                | zero => exact absurd HA.out (by simp [parallaxlaw11_ChunkClauses.j1])
                | succ kj45 =>
                  have H := HA.out
                  clear HA
                  simp only [parallaxlaw11_ChunkClauses.j1] at H
                  by_cases c49 : 0 ≤ x12_13
                  · rw [if_pos c49] at H
                    have c49b0 := eq_true c49
                    have c49b1 : decide (0 ≤ x12_13) = true := decide_eq_true c49
                    clear c49
                    obtain ⟨ji50, hji50⟩ : ∃ j_ : Int, (shl .u32 1 x12_13) = j_ := ⟨_, rfl⟩
                    replace H : ((chunk_Size.f kj45 x13_45 (Go.bits .andNot .u32 (Go.bits .and .u32 a1 1073741823) (ji50)) t192 t193 t194 t195 t196 t197 t198 t199 t200 t201).bind fun bt217 => ((chunk_Size.f kj45 x13_45 (Go.bits .or .u32 (Go.bits .andNot .u32 (Go.bits .and .u32 a1 1073741823) (ji50)) (ji50)) t192 t193 t194 t195 t196 t197 t198 t199 t200 t201).bind fun bt219 => (if bt217.2 = 400 then (if bt219.2 = 0 then (parallaxlaw11_ChunkClauses.j2 kj45 (bt219.1 == (wrap64 (a0)))) else (parallaxlaw11_ChunkClauses.j2 kj45 false)) else (parallaxlaw11_ChunkClauses.j2 kj45 false)))) = some r := by first | (rw [hji50] at H; exact H) | (simp only [hji50] at H ⊢; exact H)
                    have hji50_ : (IntKind.u32.wrap (1 * 2 ^ min x12_13.toNat 32)) = ji50 := hji50
                    have hji50z : x12_13 ≤ 32 → (IntKind.u32.wrap (1 * 2 ^ x12_13.toNat)) = ji50 := shl_small hji50
                    have hji50u : (IntKind.u32.wrap (2 ^ min x12_13.toNat 32)) = ji50 := by have h_ := hji50_; rw [Int.one_mul] at h_; exact h_
                    have hji50v : x12_13 ≤ 32 → (IntKind.u32.wrap (2 ^ x12_13.toNat)) = ji50 := fun hle_ => by have h_ := hji50z hle_; rw [Int.one_mul] at h_; exact h_
                    replace H := Option.bind_eq_some_iff.mp H
                    obtain ⟨⟨t217, t218⟩, A510, H⟩ := H
                    (try dsimp only at H)
                    have A51 := Aside0.mk A510
                    clear A510
                    have c52b0 := eq_true (of_decide_eq_true (by first | (with_reducible assumption) | assumption) : 0 ≤ x12_13)
                    replace H := Option.bind_eq_some_iff.mp H
                    obtain ⟨⟨t219, t220⟩, A540, H⟩ := H
                    (try dsimp only at H)
                    have A54 := Aside0.mk A540
                    clear A540
                    have HC55 := Aside0.mk H
                    clear H
                    have hcz56_0 : wc.cell? ⟨gb202, 0, none⟩ = some (.int .i64 t192) := (blk_cell BK202.out 0).trans rfl
                    have hcz56_1 : wc.cell? ⟨gb202, 1, none⟩ = some (.int .i64 t193) := (blk_cell BK202.out 1).trans rfl
                    have hcz56_2 : wc.cell? ⟨gb202, 2, none⟩ = some (.int .i64 t194) := (blk_cell BK202.out 2).trans rfl
                    have hcz56_3 : wc.cell? ⟨gb202, 3, none⟩ = some (.int .i64 t195) := (blk_cell BK202.out 3).trans rfl
                    have hcz56_4 : wc.cell? ⟨gb202, 4, none⟩ = some (.int .i64 t196) := (blk_cell BK202.out 4).trans rfl
                    have hcz56_5 : wc.cell? ⟨gb202, 5, none⟩ = some (.int .i64 t197) := (blk_cell BK202.out 5).trans rfl
                    have hcz56_6 : wc.cell? ⟨gb202, 6, none⟩ = some (.int .i64 t198) := (blk_cell BK202.out 6).trans rfl
                    have hcz56_7 : wc.cell? ⟨gb202, 7, none⟩ = some (.int .i64 t199) := (blk_cell BK202.out 7).trans rfl
                    have hcz56_8 : wc.cell? ⟨gb202, 8, none⟩ = some (.bool t200) := (blk_cell BK202.out 8).trans rfl
                    have hcz56_9 : wc.cell? ⟨gb202, 9, none⟩ = some (.bool t201) := (blk_cell BK202.out 9).trans rfl
                    have hfz56_0 := blk_frozen BK202.out 0
                    have hfz56_1 := blk_frozen BK202.out 1
                    have hfz56_2 := blk_frozen BK202.out 2
                    have hfz56_3 := blk_frozen BK202.out 3
                    have hfz56_4 := blk_frozen BK202.out 4
                    have hfz56_5 := blk_frozen BK202.out 5
                    have hfz56_6 := blk_frozen BK202.out 6
                    have hfz56_7 := blk_frozen BK202.out 7
                    have hfz56_8 := blk_frozen BK202.out 8
                    have hfz56_9 := blk_frozen BK202.out 9
                    try go_wp2_with (first | ((with_reducible refine gate_callee (f := 13) rfl ?_); refine goesL_ (some 59) rfl rfl Tryd.func13 (by kernel_rfl) rfl #[.string x13_45, .int .u32 (Go.bits .andNot .u32 (Go.bits .and .u32 a1 1073741823) (ji50)), .agg #[.int .i64 t192, .int .i64 t193, .int .i64 t194, .int .i64 t195, .int .i64 t196, .int .i64 t197, .int .i64 t198, .int .i64 t199, .bool t200, .bool t201]] rfl (by (try simp only [List.map_toArray, List.map_cons, List.map_nil]); first | done | (simp only [hji50]; rfl) | rfl | (simp only [List.length_drop, List.length_take]; rfl)) ?_; (with_reducible refine (chunk_Size.calls kj45 x13_45 (Go.bits .andNot .u32 (Go.bits .and .u32 a1 1073741823) (ji50)) t192 t193 t194 t195 t196 t197 t198 t199 t200 t201 t217 t218 _ A51.out).mono ?_); rintro e w57 ⟨rfl, hb⟩; refine ⟨_, rfl, ?_⟩; have n0_ := Aside0.mk (blk_below (g := gb202) (o := .cells #[.int .i64 t192, .int .i64 t193, .int .i64 t194, .int .i64 t195, .int .i64 t196, .int .i64 t197, .int .i64 t198, .int .i64 t199, .bool t200, .bool t201] 29 (0, 0)) (by (with_reducible repeat (first | refine blk_drewN ?_ _ | refine blk_drew ?_ | refine blk_alloc ?_ _)); exact BK202.out) hb); have n1_ := Aside0.mk (below_step (by repeat (first | (with_reducible first | exact HB.out | apply below_alloc | apply pw_below_drewN | apply below_drew1 | refine below_set ?_ GE202.out) | exact HB.out)) hb); clear BK202; clear HB; have BK202 := n0_; have HB := n1_; clear n0_ n1_; (try clear hb); (try clear hb2); (try clear hk); (try clear hi)))
                    have n0_ := Aside0.mk (blk_drew BK202.out)
                    have n1_ := Aside0.mk (below_drew1 HB.out)
                    clear BK202
                    clear HB
                    have BK202 := n0_
                    have HB := n1_
                    clear n0_ n1_
                    refine start_ (n := 12) (S := fun w' => w'.cell? ⟨gb202, 0, none⟩ = some (.int .i64 t192) ∧ w'.cell? ⟨gb202, 1, none⟩ = some (.int .i64 t193) ∧ w'.cell? ⟨gb202, 2, none⟩ = some (.int .i64 t194) ∧ w'.cell? ⟨gb202, 3, none⟩ = some (.int .i64 t195) ∧ w'.cell? ⟨gb202, 4, none⟩ = some (.int .i64 t196) ∧ w'.cell? ⟨gb202, 5, none⟩ = some (.int .i64 t197) ∧ w'.cell? ⟨gb202, 6, none⟩ = some (.int .i64 t198) ∧ w'.cell? ⟨gb202, 7, none⟩ = some (.int .i64 t199) ∧ w'.cell? ⟨gb202, 8, none⟩ = some (.bool t200) ∧ w'.cell? ⟨gb202, 9, none⟩ = some (.bool t201)) (ds := []) #[false, false, false, false, false, false, false, false, false, false, false, false] (by kernel_rfl) rfl rfl ⟨(blk_cell BK202.out 0).trans rfl, (blk_cell BK202.out 1).trans rfl, (blk_cell BK202.out 2).trans rfl, (blk_cell BK202.out 3).trans rfl, (blk_cell BK202.out 4).trans rfl, (blk_cell BK202.out 5).trans rfl, (blk_cell BK202.out 6).trans rfl, (blk_cell BK202.out 7).trans rfl, (blk_cell BK202.out 8).trans rfl, (blk_cell BK202.out 9).trans rfl⟩ (fun hHeld => ?_); refine with_tabW parallaxlaw11_ChunkClauses.tab11 parallaxlaw11_ChunkClauses.bits11 (fun HT_ HW_ => ?_)
                    generalize w57.drew = w58 at BK202 HB hHeld ⊢
                    refine pure_ (i := 0) (N := some 63) (v := ?_) (a' := ?_) #[true, false, false, false, false, false, false, false, false, false, false, false] rfl rfl (any_of HT_.out (by kernel_rfl)) (fun _ _ _ h => h) (Or.inl ⟨by rfl, ?_⟩) ?_ ?_
                    rotate_left
                    · intro w'
                      go_simp
                      with_reducible rfl
                    rotate_left
                    · simp only [Act.put, List.setIfInBounds_toArray, List.set_cons_zero, List.set_cons_succ, i64_w, i32_w]
                      rfl
                    refine pure_ (i := 1) (N := some 64) (v := ?_) (a' := ?_) #[true, true, false, false, false, false, false, false, false, false, false, false] rfl rfl (any_of HT_.out (by kernel_rfl)) (fun _ _ _ h => h) (Or.inl ⟨by rfl, ?_⟩) ?_ ?_
                    rotate_left
                    · intro w'
                      go_simp
                      with_reducible rfl
                    rotate_left
                    · simp only [Act.put, List.setIfInBounds_toArray, List.set_cons_zero, List.set_cons_succ, i64_w, i32_w]
                      rfl
                    refine pure_ (i := 2) (N := some 65) (v := ?_) (a' := ?_) #[true, true, true, false, false, false, false, false, false, false, false, false] rfl rfl (any_of HT_.out (by kernel_rfl)) (fun _ _ _ h => h) (Or.inl ⟨by rfl, ?_⟩) ?_ ?_
                    rotate_left
                    · intro w'
                      go_simp
                      with_reducible rfl
                    rotate_left
                    · simp only [Act.put, List.setIfInBounds_toArray, List.set_cons_zero, List.set_cons_succ, i64_w, i32_w]
                      rfl
                    refine pure_ (i := 3) (N := some 66) (v := ?_) (a' := ?_) #[true, true, true, true, false, false, false, false, false, false, false, false] rfl rfl (any_of HT_.out (by kernel_rfl)) (fun _ _ _ h => h) (Or.inl ⟨by rfl, ?_⟩) ?_ ?_
                    rotate_left
                    · intro w'
                      go_simp
                      with_reducible rfl
                    rotate_left
                    · simp only [Act.put, List.setIfInBounds_toArray, List.set_cons_zero, List.set_cons_succ, i64_w, i32_w]
                      rfl
                    refine pure_ (i := 4) (N := some 67) (v := ?_) (a' := ?_) #[true, true, true, true, true, false, false, false, false, false, false, false] rfl rfl (any_of HT_.out (by kernel_rfl)) (fun _ _ _ h => h) (Or.inl ⟨by rfl, ?_⟩) ?_ ?_
                    rotate_left
                    · intro w'
                      go_simp
                      with_reducible rfl
                    rotate_left
                    · simp only [Act.put, List.setIfInBounds_toArray, List.set_cons_zero, List.set_cons_succ, i64_w, i32_w]
                      rfl
                    refine take_ (i := 5) (N := some 68) (v := ?_) (a' := ?_) #[true, true, true, true, true, true, false, false, false, false, false, false] rfl rfl (take_ofW HT_.out HW_.out (by kernel_rfl)) (fun _ _ _ h => h) (Or.inl ⟨by rfl, ?_⟩) hHeld ?_ ?_
                    rotate_left
                    · rintro w' ⟨s0, s1, s2, s3, s4, s5, s6, s7, s8, s9⟩
                      go_simp
                      with_reducible rfl
                    rotate_left
                    · simp only [Act.put, List.setIfInBounds_toArray, List.set_cons_zero, List.set_cons_succ, i64_w, i32_w]
                      rfl
                    refine one_ (i := 6) (N := some 69) #[true, true, true, true, true, true, true, false, false, false, false, false] rfl rfl (one_of HT_.out (by kernel_rfl)) (by decide) (fun K hK => ?_)
                    refine goes_ Tryd.func13 (by kernel_rfl) rfl #[.string x13_45, .int .u32 (Go.bits .or .u32 (Go.bits .andNot .u32 (Go.bits .and .u32 a1 1073741823) (ji50)) (ji50)), .agg #[.int .i64 t192, .int .i64 t193, .int .i64 t194, .int .i64 t195, .int .i64 t196, .int .i64 t197, .int .i64 t198, .int .i64 t199, .bool t200, .bool t201]] (by rfl) rfl rfl (by (try simp only [List.map_toArray, List.map_cons, List.map_nil]); first | done | (simp only [hji50]; rfl) | rfl | (simp only [List.length_drop, List.length_take]; rfl)) ?_
                    with_reducible refine (chunk_Size.calls kj45 x13_45 (Go.bits .or .u32 (Go.bits .andNot .u32 (Go.bits .and .u32 a1 1073741823) (ji50)) (ji50)) t192 t193 t194 t195 t196 t197 t198 t199 t200 t201 t219 t220 _ A54.out).mono ?_
                    rintro e w59 ⟨rfl, hb⟩
                    refine ⟨_, rfl, ?_⟩
                    have n0_ := Aside0.mk (blk_below (g := gb202) (o := .cells #[.int .i64 t192, .int .i64 t193, .int .i64 t194, .int .i64 t195, .int .i64 t196, .int .i64 t197, .int .i64 t198, .int .i64 t199, .bool t200, .bool t201] 29 (0, 0)) (by (with_reducible repeat (first | refine blk_drewN ?_ _ | refine blk_drew ?_ | refine blk_alloc ?_ _)); exact BK202.out) hb)
                    have n1_ := Aside0.mk (below_step (by repeat (first | (with_reducible first | exact HB.out | apply below_alloc | apply pw_below_drewN | apply below_drew1 | refine below_set ?_ GE202.out) | exact HB.out)) hb)
                    clear BK202
                    clear HB
                    have BK202 := n0_
                    have HB := n1_
                    clear n0_ n1_
                    (try clear hb)
                    (try clear hb2)
                    (try clear hk)
                    (try clear hi)
                    refine hK.out _ _ ⟨(blk_cell BK202.out 0).trans rfl, (blk_cell BK202.out 1).trans rfl, (blk_cell BK202.out 2).trans rfl, (blk_cell BK202.out 3).trans rfl, (blk_cell BK202.out 4).trans rfl, (blk_cell BK202.out 5).trans rfl, (blk_cell BK202.out 6).trans rfl, (blk_cell BK202.out 7).trans rfl, (blk_cell BK202.out 8).trans rfl, (blk_cell BK202.out 9).trans rfl⟩ (fun hHeld => ?_)
                    clear hK K
                    refine norm_ (a' := ?_) ?_ ?_
                    rotate_left
                    · show Act.put _ (some 69) _ = _
                      simp only [Act.put, List.setIfInBounds_toArray, List.set_cons_zero, List.set_cons_succ, i64_w, i32_w]
                      rfl
                    refine pure_ (i := 7) (N := some 62) (v := ?_) (a' := ?_) #[true, true, true, true, true, true, true, true, false, false, false, false] rfl rfl (any_of HT_.out (by kernel_rfl)) (fun _ _ _ h => h) (Or.inl ⟨by rfl, ?_⟩) ?_ ?_
                    rotate_left
                    · intro w'
                      go_simp
                      with_reducible rfl
                    rotate_left
                    · simp only [Act.put, List.setIfInBounds_toArray, List.set_cons_zero, List.set_cons_succ, i64_w, i32_w]
                      rfl
                    refine pure_ (i := 8) (N := some 70) (v := ?_) (a' := ?_) #[true, true, true, true, true, true, true, true, true, false, false, false] rfl rfl (any_of HT_.out (by kernel_rfl)) (fun _ _ _ h => h) (Or.inl ⟨by rfl, ?_⟩) ?_ ?_
                    rotate_left
                    · intro w'
                      go_simp
                      with_reducible rfl
                    rotate_left
                    · simp only [Act.put, List.setIfInBounds_toArray, List.set_cons_zero, List.set_cons_succ, i64_w, i32_w]
                      rfl
                    refine pure_ (i := 9) (N := some 71) (v := ?_) (a' := ?_) #[true, true, true, true, true, true, true, true, true, true, false, false] rfl rfl (any_of HT_.out (by kernel_rfl)) (fun _ _ _ h => h) (Or.inl ⟨by rfl, ?_⟩) ?_ ?_
                    rotate_left
                    · intro w'
                      go_simp
                      with_reducible rfl
                    rotate_left
                    · simp only [Act.put, List.setIfInBounds_toArray, List.set_cons_zero, List.set_cons_succ, i64_w, i32_w]
                      rfl
                    refine pure_ (i := 10) (N := some 17) (v := ?_) (a' := ?_) #[true, true, true, true, true, true, true, true, true, true, true, false] rfl rfl (any_of HT_.out (by kernel_rfl)) (fun _ _ _ h => h) (Or.inl ⟨by rfl, ?_⟩) ?_ ?_
                    rotate_left
                    · intro w'
                      go_simp
                      with_reducible rfl
                    rotate_left
                    · simp only [Act.put, List.setIfInBounds_toArray, List.set_cons_zero, List.set_cons_succ, i64_w, i32_w]
                      rfl
                    refine pure_ (i := 11) (N := some 18) (v := ?_) (a' := ?_) #[true, true, true, true, true, true, true, true, true, true, true, true] rfl rfl (any_of HT_.out (by kernel_rfl)) (fun _ _ _ h => h) (Or.inl ⟨by rfl, ?_⟩) ?_ ?_
                    rotate_left
                    · intro w'
                      go_simp
                      with_reducible rfl
                    rotate_left
                    · simp only [Act.put, List.setIfInBounds_toArray, List.set_cons_zero, List.set_cons_succ, i64_w, i32_w]
                      rfl
                    refine done_ (done_of HT_.out (by kernel_rfl)) ?_
                    go_upto_region 12 with (fail)
                    go_cut [10] (fun v10 wc => ∃ (kq : Nat) (x10_54 : Bool), v10 = .bool x10_54 ∧ Aside0 (parallaxlaw11_ChunkClauses.j2 kq x10_54 = some r) ∧ Aside0 (kq ≤ kj45) ∧ Aside0 (wc.heap[gb202]? = some (.cells #[.int .i64 t192, .int .i64 t193, .int .i64 t194, .int .i64 t195, .int .i64 t196, .int .i64 t197, .int .i64 t198, .int .i64 t199, .bool t200, .bool t201] 29 (0, 0))) ∧ Aside0 (Below w.heap.size w wc))
                    case first =>
                      have H := HC55.out
                      clear HC55
                      by_cases c60 : t218 = 400
                      · rw [if_pos c60] at H
                        have c60b0 : (t218 == 400) = true := beq_iff_eq.mpr c60
                        have c60b1 : (t218 != 400) = false := bne_eq_false_iff_eq.mpr c60
                        clear c60
                        (first | rw [c60b0] | (simp only [i64_w, i32_w]; rw [c60b0]) | skip)
                        by_cases c61 : t220 = 0
                        · rw [if_pos c61] at H
                          have c61b0 : (t220 == 0) = true := beq_iff_eq.mpr c61
                          have c61b1 : (t220 != 0) = false := bne_eq_false_iff_eq.mpr c61
                          clear c61
                          have H' := Aside0.mk H
                          clear H
                          go_wp2
                          go_meet
                          case rel => exact ⟨_, ((t219 == (wrap64 (a0)))), (by first | rfl | (simp; done) | (simp [*]; done)), H', ⟨by have := HJ13.out; have := HJ45.out; first | omega | exact Nat.le_refl _⟩, ⟨by (with_reducible repeat (first | refine blk_drewN ?_ _ | refine blk_drew ?_ | refine blk_alloc ?_ _)); exact BK202.out⟩, ⟨by repeat (first | (with_reducible first | exact HB.out | apply below_alloc | apply pw_below_drewN | apply below_drew1 | refine below_set ?_ GE202.out) | exact HB.out)⟩⟩
                        · rw [if_neg c61] at H
                          have c61b0 : (t220 == 0) = false := beq_eq_false_iff_ne.mpr c61
                          have c61b1 : (t220 != 0) = true := bne_iff_ne.mpr c61
                          have H' := Aside0.mk H
                          clear H
                          go_wp2
                          go_meet
                          case rel => exact ⟨_, (false), (by first | rfl | (simp; done) | (simp [*]; done)), H', ⟨by have := HJ13.out; have := HJ45.out; first | omega | exact Nat.le_refl _⟩, ⟨by (with_reducible repeat (first | refine blk_drewN ?_ _ | refine blk_drew ?_ | refine blk_alloc ?_ _)); exact BK202.out⟩, ⟨by repeat (first | (with_reducible first | exact HB.out | apply below_alloc | apply pw_below_drewN | apply below_drew1 | refine below_set ?_ GE202.out) | exact HB.out)⟩⟩
                      · rw [if_neg c60] at H
                        have c60b0 : (t218 == 400) = false := beq_eq_false_iff_ne.mpr c60
                        have c60b1 : (t218 != 400) = true := bne_iff_ne.mpr c60
                        (first | rw [c60b0] | (simp only [i64_w, i32_w]; rw [c60b0]) | skip)
                        have H' := Aside0.mk H
                        clear H
                        go_wp2
                        go_meet
                        case rel => exact ⟨_, (false), (by first | rfl | (simp; done) | (simp [*]; done)), H', ⟨by have := HJ13.out; have := HJ45.out; first | omega | exact Nat.le_refl _⟩, ⟨by (with_reducible repeat (first | refine blk_drewN ?_ _ | refine blk_drew ?_ | refine blk_alloc ?_ _)); exact BK202.out⟩, ⟨by repeat (first | (with_reducible first | exact HB.out | apply below_alloc | apply pw_below_drewN | apply below_drew1 | refine below_set ?_ GE202.out) | exact HB.out)⟩⟩
                    case rest =>
                      clear HC55
                      try clear c1
                      try clear c2
                      try clear p2
                      try clear qi2
                      try clear c3
                      try clear c4
                      try clear c5
                      try clear c6
                      try clear p6
                      try clear c11
                      try clear c13
                      try clear qi20
                      try clear qi21
                      try clear c27
                      try clear c29
                      try clear c29b0
                      try clear c30
                      try clear c30b0
                      try clear c32
                      try clear c32b0
                      try clear c32b1
                      try clear c32b2
                      try clear c33
                      try clear c33b0
                      try clear c34
                      try clear c34b0
                      try clear c34b1
                      try clear c34b2
                      try clear c47
                      try clear c48
                      try clear c48b0
                      try clear c48b1
                      try clear c48b2
                      try clear c49
                      try clear c49b0
                      try clear c49b1
                      try clear c52
                      try clear c52b0
                      try clear c53
                      try clear c53b0
                      try clear c60
                      try clear c60b0
                      try clear c60b1
                      try clear c61
                      try clear c61b0
                      try clear c61b1
                      try clear hcz56_0
                      try clear hcz56_1
                      try clear hcz56_2
                      try clear hcz56_3
                      try clear hcz56_4
                      try clear hcz56_5
                      try clear hcz56_6
                      try clear hcz56_7
                      try clear hcz56_8
                      try clear hcz56_9
                      try clear hfz56_0
                      try clear hfz56_1
                      try clear hfz56_2
                      try clear hfz56_3
                      try clear hfz56_4
                      try clear hfz56_5
                      try clear hfz56_6
                      try clear hfz56_7
                      try clear hfz56_8
                      try clear hfz56_9
                      try clear p2
                      try clear p6
                      obtain ⟨kq, x10_54, rfl, HA, HJ54, BK202, HB⟩ := hcut
                      cases kq with
                      | zero => exact absurd HA.out (by simp [parallaxlaw11_ChunkClauses.j2])
                      | succ kj54 =>
                        have H := HA.out
                        clear HA
                        simp only [parallaxlaw11_ChunkClauses.j2] at H
                        obtain rfl := Option.some.inj H
                        go_wp2
                        go_ret
                        exact ⟨by first | rfl | (simp [errW_none, errW_some] <;> rfl) | (simp only [← hji9, ← hji50]; first | rfl | (simp [errW_none, errW_some] <;> rfl)) | (simp [*, errW_none, errW_some] <;> rfl), by repeat (first | (with_reducible first | exact HB.out | apply below_alloc | apply pw_below_drewN | apply below_drew1 | refine below_set ?_ GE202.out) | exact HB.out)⟩
                  · rw [if_neg c49] at H
                    exact absurd H (by simp)
        · rw [if_neg c13] at H
          exact absurd H (by simp)
      · rw [if_neg c11] at H
        exact absurd H (by simp)
    · rw [if_neg c10] at H
      exact absurd H (by simp)
  · replace c7 := Bool.eq_false_iff.mpr c7
    subst c7
    rw [if_neg (show ¬ (false = true) by decide)] at H
    exact absurd ((Option.some.inj H).trans HT.out) (by decide)

/-- THE ONE PURE STATEMENT of parallaxlaw11_ChunkClauses: yours. -/
def parallaxlaw11_ChunkClauses.Pure : Prop := ∀ (a0 : Int) (a1 : Int) (a2 : Bool) (a3 : Int) (a4 : Bool), (Lit.int .u16 a0).wf = true → (Lit.int .u32 a1).wf = true → (Lit.int .u8 a3).wf = true → ∃ k, parallaxlaw11_ChunkClauses.f k a0 a1 a2 a3 a4 = some true

end Go.Proofs.YtihcmknbdjmcdaaDoor.PChunkClauses
