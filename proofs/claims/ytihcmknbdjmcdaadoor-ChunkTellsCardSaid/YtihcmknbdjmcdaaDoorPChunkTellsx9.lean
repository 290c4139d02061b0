-- Written by a program of this session (wip/tools/myprint.sh)
import Derived.Test.YtihcmknbdjmcdaaDoorPChunkTellsx0
import Derived.Test.YtihcmknbdjmcdaaDoorPChunkTellsx3
import Derived.Test.YtihcmknbdjmcdaaDoorPChunkTellsx4
import Derived.Test.YtihcmknbdjmcdaaDoorPChunkTellsx5
import Derived.Test.YtihcmknbdjmcdaaDoorPChunkTellsx8
namespace Go.Proofs.YtihcmknbdjmcdaaDoor.PChunkTells
open Go.RowKit Go.Proofs.YtihcmknbdjmcdaaDoorW.PrintWords Go.Proofs.YtihcmknbdjmcdaaDoorW.PrintLast Go.Proofs.YtihcmknbdjmcdaaDoorW.PrintMore
attribute [local go_sem] max2_int min2_int max_two min_two max_three min_three max_four min_four   -- for this text's walks alone
set_option linter.unusedVariables false
set_option linter.unusedSimpArgs false

/-! ### parallaxlaw11_ChunkTells: function 3 -/
mutual
def parallaxlaw11_ChunkTells.l0 : Nat → ByteArray → List Int → Int → Int → ByteArray → Int → Int → Int → Int → Int → Int → Int → Int → Int → Bool → Bool → Option (Bool)
  | 0, _, _, _, _, _, _, _, _, _, _, _, _, _, _, _, _ => none
  | k + 1, x0, x1, x4, x11, x13, x14, x264000, x264001, x264002, x264003, x264004, x264005, x264006, x264007, x264008, x264009 => if x14 < (wrap64 (Int.tmod x4 64)) then (if x13.size + 1 ≤ 9223372036854775807 then (parallaxlaw11_ChunkTells.l0 k x0 x1 x4 x11 (x13 ++ (⟨#[120]⟩ : ByteArray)) (wrap64 (x14 + 1)) x264000 x264001 x264002 x264003 x264004 x264005 x264006 x264007 x264008 x264009) else (none)) else ((parallaxlaw11_some.f k x1).bind fun t264 => ((parallaxref1_PutHex.f k (wrap64 (x4))).bind fun t265 => ((parallaxref1_PutHex.f k (wrap64 ((wrap64 (x264003 + (wrap64 (Int.tmod x4 3)))) - 1))).bind fun t266 => ((some (([x0, t264, t265, x13, t266] : List ByteArray) : List ByteArray)).bind fun y267 => (parallaxlaw11_ChunkTells.l1 k x11 y267 (y267.length : Int) 0 x264000 x264001 x264002 x264003 x264004 x264005 x264006 x264007 x264008 x264009)))))
def parallaxlaw11_ChunkTells.l1 : Nat → Int → List ByteArray → Int → Int → Int → Int → Int → Int → Int → Int → Int → Int → Bool → Bool → Option (Bool)
  | 0, _, _, _, _, _, _, _, _, _, _, _, _, _, _ => none
  | k + 1, x11, x62, x63, x64, x264000, x264001, x264002, x264003, x264004, x264005, x264006, x264007, x264008, x264009 => if x64 < x63 then (if 0 ≤ x64 then (if x64 < (x62.length : Int) then ((parallaxref4_Of.f k (([27, 28] : List Int))).bind fun t274 => ((parallaxref4_Of.f k (([28] : List Int))).bind fun t278 => ((some (([0, x11, t274, t278] : List Int) : List Int)).bind fun y279 => (parallaxlaw11_ChunkTells.l2 k x11 (rdOf ByteArray.empty x62 x64) x62 x63 x64 y279 (y279.length : Int) 0 x264000 x264001 x264002 x264003 x264004 x264005 x264006 x264007 x264008 x264009)))) else (none)) else (none)) else (some true)
def parallaxlaw11_ChunkTells.l2 : Nat → Int → ByteArray → List ByteArray → Int → Int → List Int → Int → Int → Int → Int → Int → Int → Int → Int → Int → Int → Bool → Bool → Option (Bool)
  | 0, _, _, _, _, _, _, _, _, _, _, _, _, _, _, _, _, _, _ => none
  | k + 1, x11, x16, x62, x63, x64, x73, x74, x75, x264000, x264001, x264002, x264003, x264004, x264005, x264006, x264007, x264008, x264009 => if x75 < x74 then (if 0 ≤ x75 then (if x75 < (x73.length : Int) then ((chunk_Size.f k x16 (rd x73 x75) x264000 x264001 x264002 x264003 x264004 x264005 x264006 x264007 x264008 x264009).bind fun bt283 => ((parallaxref9_Size.f k x16 (rd x73 x75) x264000 x264001 x264002 x264003 x264004 x264005 x264006 x264007 x264008 x264009).bind fun bt285 => (if bt283.1 = bt285.1 then (if bt283.2 = bt285.2 then (parallaxlaw11_ChunkTells.l2 k x11 x16 x62 x63 x64 x73 x74 (wrap64 (x75 + 1)) x264000 x264001 x264002 x264003 x264004 x264005 x264006 x264007 x264008 x264009) else (some false)) else (some false)))) else (none)) else (none)) else (parallaxlaw11_ChunkTells.l1 k x11 x62 x63 (wrap64 (x64 + 1)) x264000 x264001 x264002 x264003 x264004 x264005 x264006 x264007 x264008 x264009)
end
def parallaxlaw11_ChunkTells.f (k : Nat) (a0 : ByteArray) (l1 : List Int) (a2 : Int) (a3 : Int) (a4 : Int) : Option (Bool) := (parallaxlaw11_known.f k).bind fun t251 => (if t251 = true then (if (a0.size : Int) > 80 then (some true) else (if (l1.length : Int) > 12 then (some true) else ((parallaxseat_Profile.f k a2 a3).bind fun t252 => ((parallaxseat_Bounds.f k a3).bind fun bt253 => (parallaxlaw11_ChunkTells.l0 k a0 l1 a4 t252 (⟨#[49, 59]⟩ : ByteArray) 0 bt253.1 bt253.2.1 bt253.2.2.1 bt253.2.2.2.1 bt253.2.2.2.2.1 bt253.2.2.2.2.2.1 bt253.2.2.2.2.2.2.1 bt253.2.2.2.2.2.2.2.1 bt253.2.2.2.2.2.2.2.2.1 bt253.2.2.2.2.2.2.2.2.2))))) else (some false))
theorem parallaxlaw11_ChunkTells.mono_l : ∀ k, (∀ y0 y1 y2 y3 y4 y5 y6 y7 y8 y9 y10 y11 y12 y13 y14 y15, LeO (parallaxlaw11_ChunkTells.l0 k y0 y1 y2 y3 y4 y5 y6 y7 y8 y9 y10 y11 y12 y13 y14 y15) (parallaxlaw11_ChunkTells.l0 (k + 1) y0 y1 y2 y3 y4 y5 y6 y7 y8 y9 y10 y11 y12 y13 y14 y15)) ∧ (∀ y0 y1 y2 y3 y4 y5 y6 y7 y8 y9 y10 y11 y12 y13, LeO (parallaxlaw11_ChunkTells.l1 k y0 y1 y2 y3 y4 y5 y6 y7 y8 y9 y10 y11 y12 y13) (parallaxlaw11_ChunkTells.l1 (k + 1) y0 y1 y2 y3 y4 y5 y6 y7 y8 y9 y10 y11 y12 y13)) ∧ (∀ y0 y1 y2 y3 y4 y5 y6 y7 y8 y9 y10 y11 y12 y13 y14 y15 y16 y17, LeO (parallaxlaw11_ChunkTells.l2 k y0 y1 y2 y3 y4 y5 y6 y7 y8 y9 y10 y11 y12 y13 y14 y15 y16 y17) (parallaxlaw11_ChunkTells.l2 (k + 1) y0 y1 y2 y3 y4 y5 y6 y7 y8 y9 y10 y11 y12 y13 y14 y15 y16 y17))
  | 0 => ⟨fun _ _ _ _ _ _ _ _ _ _ _ _ _ _ _ _ r h => by simp [parallaxlaw11_ChunkTells.l0] at h, fun _ _ _ _ _ _ _ _ _ _ _ _ _ _ r h => by simp [parallaxlaw11_ChunkTells.l1] at h, fun _ _ _ _ _ _ _ _ _ _ _ _ _ _ _ _ _ _ r h => by simp [parallaxlaw11_ChunkTells.l2] at h⟩
  | k + 1 => by
    obtain ⟨ih0, ih1, ih2⟩ := parallaxlaw11_ChunkTells.mono_l k
    refine ⟨?_, ?_, ?_⟩
    · intro y0 y1 y2 y3 y4 y5 y6 y7 y8 y9 y10 y11 y12 y13 y14 y15
      unfold parallaxlaw11_ChunkTells.l0
      repeat' first
      | (with_reducible exact ih0 _ _ _ _ _ _ _ _ _ _ _ _ _ _ _ _)
      | (with_reducible exact ih1 _ _ _ _ _ _ _ _ _ _ _ _ _ _)
      | (with_reducible exact ih2 _ _ _ _ _ _ _ _ _ _ _ _ _ _ _ _ _ _)
      | (with_reducible exact chunk_Size.mono _ _ _ _ _ _ _ _ _ _ _ _ _)
      | (with_reducible exact parallaxlaw11_known.mono _)
      | (with_reducible exact parallaxlaw11_some.mono _ _)
      | (with_reducible exact parallaxref1_PutHex.mono _ _)
      | (with_reducible exact parallaxref4_Of.mono _ _)
      | (with_reducible exact parallaxref9_Size.mono _ _ _ _ _ _ _ _ _ _ _ _ _)
      | (with_reducible exact parallaxseat_Bounds.mono _ _)
      | (with_reducible exact parallaxseat_Profile.mono _ _ _)
      | (with_reducible exact LeO.refl _)
      | (with_reducible exact LeO.none _)
      | (with_reducible refine LeO.ite ?_ ?_)
      | (with_reducible refine LeO.bind ?_ (fun _ => ?_))
      | exact ih0 _ _ _ _ _ _ _ _ _ _ _ _ _ _ _ _
      | exact ih1 _ _ _ _ _ _ _ _ _ _ _ _ _ _
      | exact ih2 _ _ _ _ _ _ _ _ _ _ _ _ _ _ _ _ _ _
      | exact chunk_Size.mono _ _ _ _ _ _ _ _ _ _ _ _ _
      | exact parallaxlaw11_known.mono _
      | exact parallaxlaw11_some.mono _ _
      | exact parallaxref1_PutHex.mono _ _
      | exact parallaxref4_Of.mono _ _
      | exact parallaxref9_Size.mono _ _ _ _ _ _ _ _ _ _ _ _ _
      | exact parallaxseat_Bounds.mono _ _
      | exact parallaxseat_Profile.mono _ _ _
      | exact LeO.none _
      | refine LeO.ite ?_ ?_
      | refine LeO.bind ?_ (fun _ => ?_)
    · intro y0 y1 y2 y3 y4 y5 y6 y7 y8 y9 y10 y11 y12 y13
      unfold parallaxlaw11_ChunkTells.l1
      repeat' first
      | (with_reducible exact ih0 _ _ _ _ _ _ _ _ _ _ _ _ _ _ _ _)
      | (with_reducible exact ih1 _ _ _ _ _ _ _ _ _ _ _ _ _ _)
      | (with_reducible exact ih2 _ _ _ _ _ _ _ _ _ _ _ _ _ _ _ _ _ _)
      | (with_reducible exact chunk_Size.mono _ _ _ _ _ _ _ _ _ _ _ _ _)
      | (with_reducible exact parallaxlaw11_known.mono _)
      | (with_reducible exact parallaxlaw11_some.mono _ _)
      | (with_reducible exact parallaxref1_PutHex.mono _ _)
      | (with_reducible exact parallaxref4_Of.mono _ _)
      | (with_reducible exact parallaxref9_Size.mono _ _ _ _ _ _ _ _ _ _ _ _ _)
      | (with_reducible exact parallaxseat_Bounds.mono _ _)
      | (with_reducible exact parallaxseat_Profile.mono _ _ _)
      | (with_reducible exact LeO.refl _)
      | (with_reducible exact LeO.none _)
      | (with_reducible refine LeO.ite ?_ ?_)
      | (with_reducible refine LeO.bind ?_ (fun _ => ?_))
      | exact ih0 _ _ _ _ _ _ _ _ _ _ _ _ _ _ _ _
      | exact ih1 _ _ _ _ _ _ _ _ _ _ _ _ _ _
      | exact ih2 _ _ _ _ _ _ _ _ _ _ _ _ _ _ _ _ _ _
      | exact chunk_Size.mono _ _ _ _ _ _ _ _ _ _ _ _ _
      | exact parallaxlaw11_known.mono _
      | exact parallaxlaw11_some.mono _ _
      | exact parallaxref1_PutHex.mono _ _
      | exact parallaxref4_Of.mono _ _
      | exact parallaxref9_Size.mono _ _ _ _ _ _ _ _ _ _ _ _ _
      | exact parallaxseat_Bounds.mono _ _
      | exact parallaxseat_Profile.mono _ _ _
      | exact LeO.none _
      | refine LeO.ite ?_ ?_
      | refine LeO.bind ?_ (fun _ => ?_)
    · intro y0 y1 y2 y3 y4 y5 y6 y7 y8 y9 y10 y11 y12 y13 y14 y15 y16 y17
      unfold parallaxlaw11_ChunkTells.l2
      repeat' first
      | (with_reducible exact ih0 _ _ _ _ _ _ _ _ _ _ _ _ _ _ _ _)
      | (with_reducible exact ih1 _ _ _ _ _ _ _ _ _ _ _ _ _ _)
      | (with_reducible exact ih2 _ _ _ _ _ _ _ _ _ _ _ _ _ _ _ _ _ _)
      | (with_reducible exact chunk_Size.mono _ _ _ _ _ _ _ _ _ _ _ _ _)
      | (with_reducible exact parallaxlaw11_known.mono _)
      | (with_reducible exact parallaxlaw11_some.mono _ _)
      | (with_reducible exact parallaxref1_PutHex.mono _ _)
      | (with_reducible exact parallaxref4_Of.mono _ _)
      | (with_reducible exact parallaxref9_Size.mono _ _ _ _ _ _ _ _ _ _ _ _ _)
      | (with_reducible exact parallaxseat_Bounds.mono _ _)
      | (with_reducible exact parallaxseat_Profile.mono _ _ _)
      | (with_reducible exact LeO.refl _)
      | (with_reducible exact LeO.none _)
      | (with_reducible refine LeO.ite ?_ ?_)
      | (with_reducible refine LeO.bind ?_ (fun _ => ?_))
      | exact ih0 _ _ _ _ _ _ _ _ _ _ _ _ _ _ _ _
      | exact ih1 _ _ _ _ _ _ _ _ _ _ _ _ _ _
      | exact ih2 _ _ _ _ _ _ _ _ _ _ _ _ _ _ _ _ _ _
      | exact chunk_Size.mono _ _ _ _ _ _ _ _ _ _ _ _ _
      | exact parallaxlaw11_known.mono _
      | exact parallaxlaw11_some.mono _ _
      | exact parallaxref1_PutHex.mono _ _
      | exact parallaxref4_Of.mono _ _
      | exact parallaxref9_Size.mono _ _ _ _ _ _ _ _ _ _ _ _ _
      | exact parallaxseat_Bounds.mono _ _
      | exact parallaxseat_Profile.mono _ _ _
      | exact LeO.none _
      | refine LeO.ite ?_ ?_
      | refine LeO.bind ?_ (fun _ => ?_)
theorem parallaxlaw11_ChunkTells.mono : ∀ a0 a1 a2 a3 a4 k, LeO (parallaxlaw11_ChunkTells.f k a0 a1 a2 a3 a4) (parallaxlaw11_ChunkTells.f (k + 1) a0 a1 a2 a3 a4) := by
  intro a0 a1 a2 a3 a4 k
  obtain ⟨ih0, ih1, ih2⟩ := parallaxlaw11_ChunkTells.mono_l k
  unfold parallaxlaw11_ChunkTells.f
  repeat' first
      | (with_reducible exact ih0 _ _ _ _ _ _ _ _ _ _ _ _ _ _ _ _)
      | (with_reducible exact ih1 _ _ _ _ _ _ _ _ _ _ _ _ _ _)
      | (with_reducible exact ih2 _ _ _ _ _ _ _ _ _ _ _ _ _ _ _ _ _ _)
      | (with_reducible exact chunk_Size.mono _ _ _ _ _ _ _ _ _ _ _ _ _)
      | (with_reducible exact parallaxlaw11_known.mono _)
      | (with_reducible exact parallaxlaw11_some.mono _ _)
      | (with_reducible exact parallaxref1_PutHex.mono _ _)
      | (with_reducible exact parallaxref4_Of.mono _ _)
      | (with_reducible exact parallaxref9_Size.mono _ _ _ _ _ _ _ _ _ _ _ _ _)
      | (with_reducible exact parallaxseat_Bounds.mono _ _)
      | (with_reducible exact parallaxseat_Profile.mono _ _ _)
      | (with_reducible exact LeO.refl _)
      | (with_reducible exact LeO.none _)
      | (with_reducible refine LeO.ite ?_ ?_)
      | (with_reducible refine LeO.bind ?_ (fun _ => ?_))
      | exact ih0 _ _ _ _ _ _ _ _ _ _ _ _ _ _ _ _
      | exact ih1 _ _ _ _ _ _ _ _ _ _ _ _ _ _
      | exact ih2 _ _ _ _ _ _ _ _ _ _ _ _ _ _ _ _ _ _
      | exact chunk_Size.mono _ _ _ _ _ _ _ _ _ _ _ _ _
      | exact parallaxlaw11_known.mono _
      | exact parallaxlaw11_some.mono _ _
      | exact parallaxref1_PutHex.mono _ _
      | exact parallaxref4_Of.mono _ _
      | exact parallaxref9_Size.mono _ _ _ _ _ _ _ _ _ _ _ _ _
      | exact parallaxseat_Bounds.mono _ _
      | exact parallaxseat_Profile.mono _ _ _
      | exact LeO.none _
      | refine LeO.ite ?_ ?_
      | refine LeO.bind ?_ (fun _ => ?_)
def parallaxlaw11_ChunkTells.T11 : Bool × List (List Nat × List Nat) := (true, [([], []), ([], []), ([1], [1]), ([], []), ([3], [3]), ([4, 2], [4]), ([], []), ([], []), ([7], [7]), ([], []), ([9], [9]), ([10], [10]), ([8, 11], [8, 11]), ([12], [12]), ([13, 5], [13]), ([0, 2, 5, 6, 14], [0, 2, 5, 6, 14]), ([15], [15]), ([], [])])
def parallaxlaw11_ChunkTells.B11 : List Nat := [0, 0, 2, 0, 8, 30, 0, 0, 128, 0, 512, 1536, 3968, 8064, 16318, 32767, 65535, 0]
theorem parallaxlaw11_ChunkTells.tab11 : rtab .any (opsOf Tryd.f3 11) = parallaxlaw11_ChunkTells.T11 := by kernel_rfl
theorem parallaxlaw11_ChunkTells.bits11 : waitsOk parallaxlaw11_ChunkTells.T11.2 parallaxlaw11_ChunkTells.B11 = true := by kernel_rfl
set_option maxHeartbeats 8000000 in
set_option maxRecDepth 100000 in
theorem parallaxlaw11_ChunkTells.calls (k : Nat) (a0 : ByteArray) (A1 : Option Addr) (c1 : Nat) (l1 : List Int) (a2 : Int) (a3 : Int) (a4 : Int) (r : Bool) (w : World) (hr1 : Kd.C (Kd.int .u8) w A1 l1.length l1) (hc1 : l1.length ≤ c1) (hq2 : (Lit.int .u32 a2).wf = true) (hq3 : (Lit.int .u8 a3).wf = true) (hq4 : (Lit.int .u16 a4).wf = true) (hT : r = true) (hL : Laid.LaidX w) (h : parallaxlaw11_ChunkTells.f k a0 l1 a2 a3 a4 = some r) :
    Calls Tryd.prog 3 #[.string a0, .slice A1 l1.length c1, .int .u32 a2, .int .u8 a3, .int .u16 a4] w fun e w' => e = .returned (.bool r) ∧ Below w.heap.size w w' := by
  have hu29 := Tryd.underlying29
  have HQ2 := Aside0.mk hq2
  clear hq2
  have HQ3 := Aside0.mk hq3
  clear hq3
  have HQ4 := Aside0.mk hq4
  clear hq4
  have HT := Aside0.mk hT
  clear hT
  have HR1 := Aside0.mk hr1
  have HC1 := Aside0.mk hc1
  clear hr1 hc1
  have HB := Aside0.mk (Below.refl w.heap.size w)
  have HLX := Aside0.mk hL
  clear hL
  have H : ((parallaxlaw11_known.f k).bind fun t251 => (if t251 = true then (if (a0.size : Int) > 80 then (some true) else (if (l1.length : Int) > 12 then (some true) else ((parallaxseat_Profile.f k a2 a3).bind fun t252 => ((parallaxseat_Bounds.f k a3).bind fun bt253 => (parallaxlaw11_ChunkTells.l0 k a0 l1 a4 t252 (⟨#[49, 59]⟩ : ByteArray) 0 bt253.1 bt253.2.1 bt253.2.2.1 bt253.2.2.2.1 bt253.2.2.2.2.1 bt253.2.2.2.2.2.1 bt253.2.2.2.2.2.2.1 bt253.2.2.2.2.2.2.2.1 bt253.2.2.2.2.2.2.2.2.1 bt253.2.2.2.2.2.2.2.2.2))))) else (some false))) = some r := h
  clear h
  replace H := Option.bind_eq_some_iff.mp H
  obtain ⟨t251, A60, H⟩ := H
  (try dsimp only at H)
  have A6 := Aside0.mk A60
  clear A60
  by_cases c7 : t251 = true
  · subst c7
    rw [if_pos rfl] at H
    by_cases c8 : (a0.size : Int) > 80
    · rw [if_pos c8] at H
      have c8b0 : decide (80 < (a0.size : Int)) = true := decide_eq_true c8
      have c8b1 : decide (80 < a0.size) = true := decide_eq_true (by omega)
      clear c8
      obtain rfl := Option.some.inj H
      go_enter Tryd.func3, Tryd.ntmps3
      go_wp2_with (first | ((with_reducible refine gate_callee (f := 7) rfl ?_); refine goesL_ (some 23) rfl rfl Tryd.func7 (by kernel_rfl) rfl #[] rfl (by (try simp only [List.map_toArray, List.map_cons, List.map_nil]); first | done | rfl | (simp only [List.length_drop, List.length_take]; rfl)) ?_; (with_reducible refine (parallaxlaw11_known.calls k  true _ ?side1 A6.out).mono ?_); (case side1 => exact Laid.below HLX.out (by repeat (first | (with_reducible first | exact HB.out | apply below_alloc | apply pw_below_drewN | apply below_drew1) | exact HB.out))); rintro e w9 ⟨rfl, hb⟩; refine ⟨_, rfl, ?_⟩; have n0_ := Aside0.mk (below_step (by repeat (first | (with_reducible first | exact HB.out | apply below_alloc | apply pw_below_drewN | apply below_drew1) | exact HB.out)) hb); clear HB; have HB := n0_; clear n0_; (try clear hb); (try clear hb2); (try clear hk); (try clear hi)) | (go_at_call 7; (with_reducible refine (parallaxlaw11_known.calls k  true _ ?side1 A6.out).mono ?_); (case side1 => exact Laid.below HLX.out (by repeat (first | (with_reducible first | exact HB.out | apply below_alloc | apply pw_below_drewN | apply below_drew1) | exact HB.out))); rintro e w9 ⟨rfl, hb⟩; have n0_ := Aside0.mk (below_step (by repeat (first | (with_reducible first | exact HB.out | apply below_alloc | apply pw_below_drewN | apply below_drew1) | exact HB.out)) hb); clear HB; have HB := n0_; clear n0_; (try clear hb); (try clear hb2); (try clear hk); (try clear hi)))
      go_ret
      exact ⟨by first | rfl | (simp [errW_none, errW_some] <;> rfl) | (simp [*, errW_none, errW_some] <;> rfl), by repeat (first | (with_reducible first | exact HB.out | apply below_alloc | apply pw_below_drewN | apply below_drew1) | exact HB.out)⟩
    · rw [if_neg c8] at H
      have c8b0 : decide (80 < (a0.size : Int)) = false := decide_eq_false c8
      have c8b1 : decide (80 < a0.size) = false := decide_eq_false (by omega)
      clear c8
      by_cases c10 : (l1.length : Int) > 12
      · rw [if_pos c10] at H
        have c10b0 : decide (12 < (l1.length : Int)) = true := decide_eq_true c10
        have c10b1 : decide (12 < l1.length) = true := decide_eq_true (by omega)
        clear c10
        obtain rfl := Option.some.inj H
        go_enter Tryd.func3, Tryd.ntmps3
        go_wp2_with (first | ((with_reducible refine gate_callee (f := 7) rfl ?_); refine goesL_ (some 23) rfl rfl Tryd.func7 (by kernel_rfl) rfl #[] rfl (by (try simp only [List.map_toArray, List.map_cons, List.map_nil]); first | done | rfl | (simp only [List.length_drop, List.length_take]; rfl)) ?_; (with_reducible refine (parallaxlaw11_known.calls k  true _ ?side1 A6.out).mono ?_); (case side1 => exact Laid.below HLX.out (by repeat (first | (with_reducible first | exact HB.out | apply below_alloc | apply pw_below_drewN | apply below_drew1) | exact HB.out))); rintro e w11 ⟨rfl, hb⟩; refine ⟨_, rfl, ?_⟩; have n0_ := Aside0.mk (below_step (by repeat (first | (with_reducible first | exact HB.out | apply below_alloc | apply pw_below_drewN | apply below_drew1) | exact HB.out)) hb); clear HB; have HB := n0_; clear n0_; (try clear hb); (try clear hb2); (try clear hk); (try clear hi)) | (go_at_call 7; (with_reducible refine (parallaxlaw11_known.calls k  true _ ?side1 A6.out).mono ?_); (case side1 => exact Laid.below HLX.out (by repeat (first | (with_reducible first | exact HB.out | apply below_alloc | apply pw_below_drewN | apply below_drew1) | exact HB.out))); rintro e w11 ⟨rfl, hb⟩; have n0_ := Aside0.mk (below_step (by repeat (first | (with_reducible first | exact HB.out | apply below_alloc | apply pw_below_drewN | apply below_drew1) | exact HB.out)) hb); clear HB; have HB := n0_; clear n0_; (try clear hb); (try clear hb2); (try clear hk); (try clear hi)))
        go_ret
        exact ⟨by first | rfl | (simp [errW_none, errW_some] <;> rfl) | (simp [*, errW_none, errW_some] <;> rfl), by repeat (first | (with_reducible first | exact HB.out | apply below_alloc | apply pw_below_drewN | apply below_drew1) | exact HB.out)⟩
      · rw [if_neg c10] at H
        have c10b0 : decide (12 < (l1.length : Int)) = false := decide_eq_false c10
        have c10b1 : decide (12 < l1.length) = false := decide_eq_false (by omega)
        clear c10
        replace H := Option.bind_eq_some_iff.mp H
        obtain ⟨t252, A120, H⟩ := H
        (try dsimp only at H)
        have A12 := Aside0.mk A120
        clear A120
        replace H := Option.bind_eq_some_iff.mp H
        obtain ⟨⟨t253, t254, t255, t256, t257, t258, t259, t260, t261, t262⟩, A130, H⟩ := H
        (try dsimp only at H)
        have A13 := Aside0.mk A130
        clear A130
        have H' := Aside0.mk H
        clear H
        go_enter Tryd.func3, Tryd.ntmps3
        go_wp2_with (first | ((with_reducible refine gate_callee (f := 7) rfl ?_); refine goesL_ (some 23) rfl rfl Tryd.func7 (by kernel_rfl) rfl #[] rfl (by (try simp only [List.map_toArray, List.map_cons, List.map_nil]); first | done | rfl | (simp only [List.length_drop, List.length_take]; rfl)) ?_; (with_reducible refine (parallaxlaw11_known.calls k  true _ ?side1 A6.out).mono ?_); (case side1 => exact Laid.below HLX.out (by repeat (first | (with_reducible first | exact HB.out | apply below_alloc | apply pw_below_drewN | apply below_drew1) | exact HB.out))); rintro e w14 ⟨rfl, hb⟩; refine ⟨_, rfl, ?_⟩; have n0_ := Aside0.mk (below_step (by repeat (first | (with_reducible first | exact HB.out | apply below_alloc | apply pw_below_drewN | apply below_drew1) | exact HB.out)) hb); clear HB; have HB := n0_; clear n0_; (try clear hb); (try clear hb2); (try clear hk); (try clear hi)) | ((with_reducible refine gate_callee (f := 8) rfl ?_); refine goesL_ (some 35) rfl rfl Tryd.func8 (by kernel_rfl) rfl #[.int .u32 a2, .int .u8 a3] rfl (by (try simp only [List.map_toArray, List.map_cons, List.map_nil]); first | done | rfl | (simp only [List.length_drop, List.length_take]; rfl)) ?_; (with_reducible refine (parallaxseat_Profile.calls k a2 a3 t252 _ A12.out).mono ?_); rintro e w15 ⟨rfl, hb⟩; refine ⟨_, rfl, ?_⟩; have n0_ := Aside0.mk (below_step (by repeat (first | (with_reducible first | exact HB.out | apply below_alloc | apply pw_below_drewN | apply below_drew1) | exact HB.out)) hb); clear HB; have HB := n0_; clear n0_; (try clear hb); (try clear hb2); (try clear hk); (try clear hi)) | ((with_reducible refine gate_callee (f := 9) rfl ?_); refine goesL_ (some 37) rfl rfl Tryd.func9 (by kernel_rfl) rfl #[.int .u8 a3] rfl (by (try simp only [List.map_toArray, List.map_cons, List.map_nil]); first | done | rfl | (simp only [List.length_drop, List.length_take]; rfl)) ?_; (with_reducible refine (parallaxseat_Bounds.calls k a3 t253 t254 t255 t256 t257 t258 t259 t260 t261 t262 _ A13.out).mono ?_); rintro e w16 ⟨rfl, hb⟩; refine ⟨_, rfl, ?_⟩; have n0_ := Aside0.mk (below_step (by repeat (first | (with_reducible first | exact HB.out | apply below_alloc | apply pw_below_drewN | apply below_drew1) | exact HB.out)) hb); clear HB; have HB := n0_; clear n0_; (try clear hb); (try clear hb2); (try clear hk); (try clear hi)) | ((with_reducible refine gate_dst (N := 12) rfl ?_); (try (refine gate_guard (by rfl) ?_; dsimp only)); refine box_event ?hg (N := 12) ?hd (cs := #[.int .i64 0, .int .i64 0, .int .i64 0, .int .i64 0, .int .i64 0, .int .i64 0, .int .i64 0, .int .i64 0, .bool false, .bool false]) (t := 29) ?hr ?_; (case hd => rfl); (case hg => rfl); (case hr => first | (go_simp; done) | (go_simp; rfl)); intro gb263 hg w17 hbox hb; have n0_ := Aside0.mk (below_step (by repeat (first | (with_reducible first | exact HB.out | apply below_alloc | apply pw_below_drewN | apply below_drew1) | exact HB.out)) hb); have n1_ := Aside0.mk (hbox); have n2_ := Aside0.mk ((by rw [hg]; exact (below_size (by repeat (first | (with_reducible first | exact HB.out | apply below_alloc | apply pw_below_drewN | apply below_drew1) | exact HB.out))) : w.heap.size ≤ gb263)); have n3_ := Aside0.mk ((by rw [hg]; exact (below_size (by repeat (first | (with_reducible first | exact HB.out | apply below_alloc | apply pw_below_drewN | apply below_drew1) | exact HB.out))) : w.heap.size ≤ gb263)); clear HB; have HB := n0_; have BK263 := n1_; have GW263 := n2_; have GE263 := n3_; clear n0_ n1_ n2_ n3_; clear hb hbox hg; have hcz18_0 : w17.cell? ⟨gb263, 0, none⟩ = some (.int .i64 0) := (blk_cell BK263.out 0).trans rfl; have hcz18_1 : w17.cell? ⟨gb263, 1, none⟩ = some (.int .i64 0) := (blk_cell BK263.out 1).trans rfl; have hcz18_2 : w17.cell? ⟨gb263, 2, none⟩ = some (.int .i64 0) := (blk_cell BK263.out 2).trans rfl; have hcz18_3 : w17.cell? ⟨gb263, 3, none⟩ = some (.int .i64 0) := (blk_cell BK263.out 3).trans rfl; have hcz18_4 : w17.cell? ⟨gb263, 4, none⟩ = some (.int .i64 0) := (blk_cell BK263.out 4).trans rfl; have hcz18_5 : w17.cell? ⟨gb263, 5, none⟩ = some (.int .i64 0) := (blk_cell BK263.out 5).trans rfl; have hcz18_6 : w17.cell? ⟨gb263, 6, none⟩ = some (.int .i64 0) := (blk_cell BK263.out 6).trans rfl; have hcz18_7 : w17.cell? ⟨gb263, 7, none⟩ = some (.int .i64 0) := (blk_cell BK263.out 7).trans rfl; have hcz18_8 : w17.cell? ⟨gb263, 8, none⟩ = some (.bool false) := (blk_cell BK263.out 8).trans rfl; have hcz18_9 : w17.cell? ⟨gb263, 9, none⟩ = some (.bool false) := (blk_cell BK263.out 9).trans rfl; have hfz18_0 := blk_frozen BK263.out 0; have hfz18_1 := blk_frozen BK263.out 1; have hfz18_2 := blk_frozen BK263.out 2; have hfz18_3 := blk_frozen BK263.out 3; have hfz18_4 := blk_frozen BK263.out 4; have hfz18_5 := blk_frozen BK263.out 5; have hfz18_6 := blk_frozen BK263.out 6; have hfz18_7 := blk_frozen BK263.out 7; have hfz18_8 := blk_frozen BK263.out 8; have hfz18_9 := blk_frozen BK263.out 9) | (go_at_call 7; (with_reducible refine (parallaxlaw11_known.calls k  true _ ?side1 A6.out).mono ?_); (case side1 => exact Laid.below HLX.out (by repeat (first | (with_reducible first | exact HB.out | apply below_alloc | apply pw_below_drewN | apply below_drew1) | exact HB.out))); rintro e w14 ⟨rfl, hb⟩; have n0_ := Aside0.mk (below_step (by repeat (first | (with_reducible first | exact HB.out | apply below_alloc | apply pw_below_drewN | apply below_drew1) | exact HB.out)) hb); clear HB; have HB := n0_; clear n0_; (try clear hb); (try clear hb2); (try clear hk); (try clear hi)) | (go_at_call 8; (with_reducible refine (parallaxseat_Profile.calls k a2 a3 t252 _ A12.out).mono ?_); rintro e w15 ⟨rfl, hb⟩; have n0_ := Aside0.mk (below_step (by repeat (first | (with_reducible first | exact HB.out | apply below_alloc | apply pw_below_drewN | apply below_drew1) | exact HB.out)) hb); clear HB; have HB := n0_; clear n0_; (try clear hb); (try clear hb2); (try clear hk); (try clear hi)) | (go_at_call 9; (with_reducible refine (parallaxseat_Bounds.calls k a3 t253 t254 t255 t256 t257 t258 t259 t260 t261 t262 _ A13.out).mono ?_); rintro e w16 ⟨rfl, hb⟩; have n0_ := Aside0.mk (below_step (by repeat (first | (with_reducible first | exact HB.out | apply below_alloc | apply pw_below_drewN | apply below_drew1) | exact HB.out)) hb); clear HB; have HB := n0_; clear n0_; (try clear hb); (try clear hb2); (try clear hk); (try clear hi)))
        go_loopg [13, 14] k (fun kq v13 v14 w' => ∃ (x13_1 : ByteArray) (x14_1 : Int), v13 = .string x13_1 ∧ v14 = .int .i64 x14_1 ∧ Aside0 (parallaxlaw11_ChunkTells.l0 kq a0 l1 a4 t252 x13_1 x14_1 t253 t254 t255 t256 t257 t258 t259 t260 t261 t262 = some r) ∧ Aside0 (kq ≤ k) ∧ Aside0 (w'.heap[gb263]? = some (.cells #[.int .i64 t253, .int .i64 t254, .int .i64 t255, .int .i64 t256, .int .i64 t257, .int .i64 t258, .int .i64 t259, .int .i64 t260, .bool t261, .bool t262] 29 (0, 0))) ∧ Aside0 (Below w.heap.size w w'))
        case atStart => exact ⟨((⟨#[49, 59]⟩ : ByteArray)), (0), (by first | rfl | (simp; done) | (simp [*]; done)), (by first | rfl | (simp; done) | (simp [*]; done)), H', ⟨Nat.le_refl _⟩, ⟨by (with_reducible repeat (first | refine blk_drewN ?_ _ | refine blk_drew ?_ | refine blk_alloc ?_ _)); refine blk_put (cs := #[.int .i64 t253, .int .i64 t254, .int .i64 t255, .int .i64 t256, .int .i64 t257, .int .i64 t258, .int .i64 t259, .int .i64 t260, .bool t261, .bool false]) ?_ 9 _ rfl; (with_reducible repeat (first | refine blk_drewN ?_ _ | refine blk_drew ?_ | refine blk_alloc ?_ _)); refine blk_put (cs := #[.int .i64 t253, .int .i64 t254, .int .i64 t255, .int .i64 t256, .int .i64 t257, .int .i64 t258, .int .i64 t259, .int .i64 t260, .bool false, .bool false]) ?_ 8 _ rfl; (with_reducible repeat (first | refine blk_drewN ?_ _ | refine blk_drew ?_ | refine blk_alloc ?_ _)); refine blk_put (cs := #[.int .i64 t253, .int .i64 t254, .int .i64 t255, .int .i64 t256, .int .i64 t257, .int .i64 t258, .int .i64 t259, .int .i64 0, .bool false, .bool false]) ?_ 7 _ rfl; (with_reducible repeat (first | refine blk_drewN ?_ _ | refine blk_drew ?_ | refine blk_alloc ?_ _)); refine blk_put (cs := #[.int .i64 t253, .int .i64 t254, .int .i64 t255, .int .i64 t256, .int .i64 t257, .int .i64 t258, .int .i64 0, .int .i64 0, .bool false, .bool false]) ?_ 6 _ rfl; (with_reducible repeat (first | refine blk_drewN ?_ _ | refine blk_drew ?_ | refine blk_alloc ?_ _)); refine blk_put (cs := #[.int .i64 t253, .int .i64 t254, .int .i64 t255, .int .i64 t256, .int .i64 t257, .int .i64 0, .int .i64 0, .int .i64 0, .bool false, .bool false]) ?_ 5 _ rfl; (with_reducible repeat (first | refine blk_drewN ?_ _ | refine blk_drew ?_ | refine blk_alloc ?_ _)); refine blk_put (cs := #[.int .i64 t253, .int .i64 t254, .int .i64 t255, .int .i64 t256, .int .i64 0, .int .i64 0, .int .i64 0, .int .i64 0, .bool false, .bool false]) ?_ 4 _ rfl; (with_reducible repeat (first | refine blk_drewN ?_ _ | refine blk_drew ?_ | refine blk_alloc ?_ _)); refine blk_put (cs := #[.int .i64 t253, .int .i64 t254, .int .i64 t255, .int .i64 0, .int .i64 0, .int .i64 0, .int .i64 0, .int .i64 0, .bool false, .bool false]) ?_ 3 _ rfl; (with_reducible repeat (first | refine blk_drewN ?_ _ | refine blk_drew ?_ | refine blk_alloc ?_ _)); refine blk_put (cs := #[.int .i64 t253, .int .i64 t254, .int .i64 0, .int .i64 0, .int .i64 0, .int .i64 0, .int .i64 0, .int .i64 0, .bool false, .bool false]) ?_ 2 _ rfl; (with_reducible repeat (first | refine blk_drewN ?_ _ | refine blk_drew ?_ | refine blk_alloc ?_ _)); refine blk_put (cs := #[.int .i64 t253, .int .i64 0, .int .i64 0, .int .i64 0, .int .i64 0, .int .i64 0, .int .i64 0, .int .i64 0, .bool false, .bool false]) ?_ 1 _ rfl; (with_reducible repeat (first | refine blk_drewN ?_ _ | refine blk_drew ?_ | refine blk_alloc ?_ _)); refine blk_put (cs := #[.int .i64 0, .int .i64 0, .int .i64 0, .int .i64 0, .int .i64 0, .int .i64 0, .int .i64 0, .int .i64 0, .bool false, .bool false]) ?_ 0 _ rfl; (with_reducible repeat (first | refine blk_drewN ?_ _ | refine blk_drew ?_ | refine blk_alloc ?_ _)); exact BK263.out⟩, ⟨by repeat (first | (with_reducible first | exact HB.out | apply below_alloc | apply pw_below_drewN | apply below_drew1 | refine below_set ?_ GE263.out) | exact HB.out)⟩⟩
        case round =>
          clear H'
          try clear c1
          try clear p2
          try clear q2
          try clear c3
          try clear q3
          try clear q4
          try clear c7
          try clear c8
          try clear c8b0
          try clear c8b1
          try clear c9
          try clear c10
          try clear c10b0
          try clear c10b1
          try clear hcz18_0
          try clear hcz18_1
          try clear hcz18_2
          try clear hcz18_3
          try clear hcz18_4
          try clear hcz18_5
          try clear hcz18_6
          try clear hcz18_7
          try clear hcz18_8
          try clear hcz18_9
          try clear hfz18_0
          try clear hfz18_1
          try clear hfz18_2
          try clear hfz18_3
          try clear hfz18_4
          try clear hfz18_5
          try clear hfz18_6
          try clear hfz18_7
          try clear hfz18_8
          try clear hfz18_9
          obtain ⟨x13_1, x14_1, rfl, rfl, HA, HK1, BK263, HB⟩ := hrel
          cases gk with
          | zero => exact absurd HA.out (by simp [parallaxlaw11_ChunkTells.l0])
          | succ k1 =>
            have H := HA.out
            clear HA
            simp only [parallaxlaw11_ChunkTells.l0] at H
            by_cases c19 : x14_1 < (wrap64 (Int.tmod a4 64))
            · rw [if_pos c19] at H
              have c19b0 : decide (x14_1 < (wrap64 (Int.tmod a4 64))) = true := decide_eq_true c19
              clear c19
              by_cases c20 : x13_1.size + 1 ≤ 9223372036854775807
              · rw [if_pos c20] at H
                have c20b0 := eq_true c20
                have c20b1 : decide (x13_1.size + 1 ≤ 9223372036854775807) = true := decide_eq_true c20
                try have c20b2 : (9223372036854775807 < x13_1.size + 1) = False := eq_false (Nat.not_lt.2 c20)
                have H' := Aside0.mk H
                clear H
                go_wp2
                go_roundg k1
                case measure => have := HK1.out; omega
                case rel => exact ⟨(x13_1 ++ (⟨#[120]⟩ : ByteArray)), (wrap64 (x14_1 + 1)), (by first | rfl | (simp; done) | (simp [*]; done)), (by first | rfl | (simp; done) | (simp [*]; done)), H', ⟨by have := HK1.out; omega⟩, ⟨by (with_reducible repeat (first | refine blk_drewN ?_ _ | refine blk_drew ?_ | refine blk_alloc ?_ _)); exact BK263.out⟩, ⟨by repeat (first | (with_reducible first | exact HB.out | apply below_alloc | apply pw_below_drewN | apply below_drew1 | refine below_set ?_ GE263.out) | exact HB.out)⟩⟩
              · rw [if_neg c20] at H
                exact absurd H (by simp)
            · rw [if_neg c19] at H
              have c19b0 : decide (x14_1 < (wrap64 (Int.tmod a4 64))) = false := decide_eq_false c19
              clear c19
              replace H := Option.bind_eq_some_iff.mp H
              obtain ⟨t264, A210, H⟩ := H
              (try dsimp only at H)
              have A21 := Aside0.mk A210
              clear A210
              replace H := Option.bind_eq_some_iff.mp H
              obtain ⟨t265, A220, H⟩ := H
              (try dsimp only at H)
              have A22 := Aside0.mk A220
              clear A220
              replace H := Option.bind_eq_some_iff.mp H
              obtain ⟨t266, A230, H⟩ := H
              (try dsimp only at H)
              have A23 := Aside0.mk A230
              clear A230
              obtain ⟨y267, hy267⟩ : ∃ y_ : List ByteArray, y_ = (([a0, t264, t265, x13_1, t266] : List ByteArray)) := ⟨_, rfl⟩
              replace H : (parallaxlaw11_ChunkTells.l1 k1 t252 y267 (y267.length : Int) 0 t253 t254 t255 t256 t257 t258 t259 t260 t261 t262) = some r := by first | (rw [hy267]; with_reducible exact H) | (have H2_ := (Option.bind_some _ _).symm.trans H; rw [hy267]; with_reducible exact H2_) | (have H2_ := (Option.bind_some _ _).symm.trans H; with_reducible exact H2_) | with_reducible exact H | (rw [hy267]; exact H) | exact H
              have Ny267 := Aside0.mk hy267
              clear hy267
              have H' := Aside0.mk H
              clear H
              try go_wp2
              have n0_ := Aside0.mk (blk_drew BK263.out)
              have n1_ := Aside0.mk (below_drew1 HB.out)
              clear BK263
              clear HB
              have BK263 := n0_
              have HB := n1_
              clear n0_ n1_
              refine start_ (n := 18) (S := fun w' => w'.cell? ⟨gb263, 0, none⟩ = some (.int .i64 t253) ∧ w'.cell? ⟨gb263, 1, none⟩ = some (.int .i64 t254) ∧ w'.cell? ⟨gb263, 2, none⟩ = some (.int .i64 t255) ∧ w'.cell? ⟨gb263, 3, none⟩ = some (.int .i64 t256) ∧ w'.cell? ⟨gb263, 4, none⟩ = some (.int .i64 t257) ∧ w'.cell? ⟨gb263, 5, none⟩ = some (.int .i64 t258) ∧ w'.cell? ⟨gb263, 6, none⟩ = some (.int .i64 t259) ∧ w'.cell? ⟨gb263, 7, none⟩ = some (.int .i64 t260) ∧ w'.cell? ⟨gb263, 8, none⟩ = some (.bool t261) ∧ w'.cell? ⟨gb263, 9, none⟩ = some (.bool t262)) (ds := []) #[false, false, false, false, false, false, false, false, false, false, false, false, false, false, false, false, false, false] (by kernel_rfl) rfl rfl ⟨(blk_cell BK263.out 0).trans rfl, (blk_cell BK263.out 1).trans rfl, (blk_cell BK263.out 2).trans rfl, (blk_cell BK263.out 3).trans rfl, (blk_cell BK263.out 4).trans rfl, (blk_cell BK263.out 5).trans rfl, (blk_cell BK263.out 6).trans rfl, (blk_cell BK263.out 7).trans rfl, (blk_cell BK263.out 8).trans rfl, (blk_cell BK263.out 9).trans rfl⟩ (fun hHeld => ?_); refine with_tabW parallaxlaw11_ChunkTells.tab11 parallaxlaw11_ChunkTells.bits11 (fun HT_ HW_ => ?_)
              generalize wr.drew = w24 at BK263 HB hHeld ⊢
              refine pure_ (i := 0) (N := some 47) (v := ?_) (a' := ?_) #[true, false, false, false, false, false, false, false, false, false, false, false, false, false, false, false, false, false] rfl rfl (any_of HT_.out (by kernel_rfl)) (fun _ _ _ h => h) (Or.inl ⟨by rfl, ?_⟩) ?_ ?_
              rotate_left
              · intro w'
                go_simp
                with_reducible rfl
              rotate_left
              · simp only [Act.put, List.setIfInBounds_toArray, List.set_cons_zero, List.set_cons_succ, i64_w, i32_w]
                rfl
              refine pure_ (i := 1) (N := some 48) (v := ?_) (a' := ?_) #[true, true, false, false, false, false, false, false, false, false, false, false, false, false, false, false, false, false] rfl rfl (any_of HT_.out (by kernel_rfl)) (fun _ _ _ h => h) (Or.inl ⟨by rfl, ?_⟩) ?_ ?_
              rotate_left
              · intro w'
                go_simp
                with_reducible rfl
              rotate_left
              · simp only [Act.put, List.setIfInBounds_toArray, List.set_cons_zero, List.set_cons_succ, i64_w, i32_w]
                rfl
              refine pure_ (i := 3) (N := some 50) (v := ?_) (a' := ?_) #[true, true, false, true, false, false, false, false, false, false, false, false, false, false, false, false, false, false] rfl rfl (any_of HT_.out (by kernel_rfl)) (fun _ _ _ h => h) (Or.inl ⟨by rfl, ?_⟩) ?_ ?_
              rotate_left
              · intro w'
                go_simp
                with_reducible rfl
              rotate_left
              · simp only [Act.put, List.setIfInBounds_toArray, List.set_cons_zero, List.set_cons_succ, i64_w, i32_w]
                rfl
              refine pure_ (i := 4) (N := some 51) (v := ?_) (a' := ?_) #[true, true, false, true, true, false, false, false, false, false, false, false, false, false, false, false, false, false] rfl rfl (any_of HT_.out (by kernel_rfl)) (fun _ _ _ h => h) (Or.inl ⟨by rfl, ?_⟩) ?_ ?_
              rotate_left
              · intro w'
                go_simp
                with_reducible rfl
              rotate_left
              · simp only [Act.put, List.setIfInBounds_toArray, List.set_cons_zero, List.set_cons_succ, i64_w, i32_w]
                rfl
              refine pure_ (i := 6) (N := some 53) (v := ?_) (a' := ?_) #[true, true, false, true, true, false, true, false, false, false, false, false, false, false, false, false, false, false] rfl rfl (any_of HT_.out (by kernel_rfl)) (fun _ _ _ h => h) (Or.inl ⟨by rfl, ?_⟩) ?_ ?_
              rotate_left
              · intro w'
                go_simp
                with_reducible rfl
              rotate_left
              · simp only [Act.put, List.setIfInBounds_toArray, List.set_cons_zero, List.set_cons_succ, i64_w, i32_w]
                rfl
              refine pure_ (i := 7) (N := some 54) (v := ?_) (a' := ?_) #[true, true, false, true, true, false, true, true, false, false, false, false, false, false, false, false, false, false] rfl rfl (any_of HT_.out (by kernel_rfl)) (fun _ _ _ h => h) (Or.inl ⟨by rfl, ?_⟩) ?_ ?_
              rotate_left
              · intro w'
                go_simp
                with_reducible rfl
              rotate_left
              · simp only [Act.put, List.setIfInBounds_toArray, List.set_cons_zero, List.set_cons_succ, i64_w, i32_w]
                rfl
              refine pure_ (i := 9) (N := some 56) (v := ?_) (a' := ?_) #[true, true, false, true, true, false, true, true, false, true, false, false, false, false, false, false, false, false] rfl rfl (any_of HT_.out (by kernel_rfl)) (fun _ _ _ h => h) (Or.inl ⟨by rfl, ?_⟩) ?_ ?_
              rotate_left
              · intro w'
                go_simp
                with_reducible rfl
              rotate_left
              · simp only [Act.put, List.setIfInBounds_toArray, List.set_cons_zero, List.set_cons_succ, i64_w, i32_w]
                rfl
              refine pure_ (i := 10) (N := some 57) (v := ?_) (a' := ?_) #[true, true, false, true, true, false, true, true, false, true, true, false, false, false, false, false, false, false] rfl rfl (any_of HT_.out (by kernel_rfl)) (fun _ _ _ h => h) (Or.inl ⟨by rfl, ?_⟩) ?_ ?_
              rotate_left
              · intro w'
                go_simp
                with_reducible rfl
              rotate_left
              · simp only [Act.put, List.setIfInBounds_toArray, List.set_cons_zero, List.set_cons_succ, i64_w, i32_w]
                rfl
              refine pure_ (i := 11) (N := some 58) (v := ?_) (a' := ?_) #[true, true, false, true, true, false, true, true, false, true, true, true, false, false, false, false, false, false] rfl rfl (any_of HT_.out (by kernel_rfl)) (fun _ _ _ h => h) (Or.inl ⟨by rfl, ?_⟩) ?_ ?_
              rotate_left
              · intro w'
                go_simp
                with_reducible rfl
              rotate_left
              · simp only [Act.put, List.setIfInBounds_toArray, List.set_cons_zero, List.set_cons_succ, i64_w, i32_w]
                rfl
              refine pure_ (i := 17) (N := some 64) (v := ?_) (a' := ?_) #[true, true, false, true, true, false, true, true, false, true, true, true, false, false, false, false, false, true] rfl rfl (any_of HT_.out (by kernel_rfl)) (fun _ _ _ h => h) (Or.inl ⟨by rfl, ?_⟩) ?_ ?_
              rotate_left
              · intro w'
                go_simp
                with_reducible rfl
              rotate_left
              · simp only [Act.put, List.setIfInBounds_toArray, List.set_cons_zero, List.set_cons_succ, i64_w, i32_w]
                rfl
              refine take_ (i := 8) (N := some 55) (v := ?_) (a' := ?_) #[true, true, false, true, true, false, true, true, true, true, true, true, false, false, false, false, false, true] rfl rfl (take_ofW HT_.out HW_.out (by kernel_rfl)) (fun _ _ _ h => h) (Or.inl ⟨by rfl, ?_⟩) hHeld ?_ ?_
              rotate_left
              · rintro w' ⟨s0, s1, s2, s3, s4, s5, s6, s7, s8, s9⟩
                go_simp
                with_reducible rfl
              rotate_left
              · simp only [Act.put, List.setIfInBounds_toArray, List.set_cons_zero, List.set_cons_succ, i64_w, i32_w]
                rfl
              refine pure_ (i := 12) (N := some 59) (v := ?_) (a' := ?_) #[true, true, false, true, true, false, true, true, true, true, true, true, true, false, false, false, false, true] rfl rfl (any_of HT_.out (by kernel_rfl)) (fun _ _ _ h => h) (Or.inl ⟨by rfl, ?_⟩) ?_ ?_
              rotate_left
              · intro w'
                go_simp
                with_reducible rfl
              rotate_left
              · simp only [Act.put, List.setIfInBounds_toArray, List.set_cons_zero, List.set_cons_succ, i64_w, i32_w]
                rfl
              refine pure_ (i := 13) (N := some 60) (v := ?_) (a' := ?_) #[true, true, false, true, true, false, true, true, true, true, true, true, true, true, false, false, false, true] rfl rfl (any_of HT_.out (by kernel_rfl)) (fun _ _ _ h => h) (Or.inl ⟨by rfl, ?_⟩) ?_ ?_
              rotate_left
              · intro w'
                go_simp
                with_reducible rfl
              rotate_left
              · simp only [Act.put, List.setIfInBounds_toArray, List.set_cons_zero, List.set_cons_succ, i64_w, i32_w]
                rfl
              refine one_ (i := 2) (N := some 49) #[true, true, true, true, true, false, true, true, true, true, true, true, true, true, false, false, false, true] rfl rfl (one_of HT_.out (by kernel_rfl)) (by decide) (fun K hK => ?_)
              refine goes_ Tryd.func10 (by kernel_rfl) rfl #[.slice A1 l1.length c1] (by rfl) rfl rfl (by (try simp only [List.map_toArray, List.map_cons, List.map_nil]); first | done | rfl | (simp only [List.length_drop, List.length_take]; rfl)) ?_
              with_reducible refine (parallaxlaw11_some.calls k1 _ _ l1 t264 _ ?side1 ?side2 A21.out).mono ?_
              (case side1 => repeat (first | exact (Kd.C_below HR1.out HB.out) | (with_reducible refine Kd.C_alloc ?_ _) | (with_reducible refine Kd.C_drewN ?_ _) | (with_reducible refine Kd.C_drew ?_)))
              (case side2 => exact HC1.out)
              rintro e w25 ⟨rfl, hb⟩
              refine ⟨_, rfl, ?_⟩
              have n0_ := Aside0.mk (blk_below (g := gb263) (o := .cells #[.int .i64 t253, .int .i64 t254, .int .i64 t255, .int .i64 t256, .int .i64 t257, .int .i64 t258, .int .i64 t259, .int .i64 t260, .bool t261, .bool t262] 29 (0, 0)) (by (with_reducible repeat (first | refine blk_drewN ?_ _ | refine blk_drew ?_ | refine blk_alloc ?_ _)); exact BK263.out) hb)
              have n1_ := Aside0.mk (below_step (by repeat (first | (with_reducible first | exact HB.out | apply below_alloc | apply pw_below_drewN | apply below_drew1 | refine below_set ?_ GE263.out) | exact HB.out)) hb)
              clear BK263
              clear HB
              have BK263 := n0_
              have HB := n1_
              clear n0_ n1_
              (try clear hb)
              (try clear hb2)
              (try clear hk)
              (try clear hi)
              refine hK.out _ _ ⟨(blk_cell BK263.out 0).trans rfl, (blk_cell BK263.out 1).trans rfl, (blk_cell BK263.out 2).trans rfl, (blk_cell BK263.out 3).trans rfl, (blk_cell BK263.out 4).trans rfl, (blk_cell BK263.out 5).trans rfl, (blk_cell BK263.out 6).trans rfl, (blk_cell BK263.out 7).trans rfl, (blk_cell BK263.out 8).trans rfl, (blk_cell BK263.out 9).trans rfl⟩ (fun hHeld => ?_)
              clear hK K
              refine norm_ (a' := ?_) ?_ ?_
              rotate_left
              · show Act.put _ (some 49) _ = _
                simp only [Act.put, List.setIfInBounds_toArray, List.set_cons_zero, List.set_cons_succ, i64_w, i32_w]
                rfl
              refine one_ (i := 5) (N := some 52) #[true, true, true, true, true, true, true, true, true, true, true, true, true, true, false, false, false, true] rfl rfl (one_of HT_.out (by kernel_rfl)) (by decide) (fun K hK => ?_)
              refine goes_ Tryd.func11 (by kernel_rfl) rfl #[.int .i64 (wrap64 (a4))] (by rfl) rfl rfl (by (try simp only [List.map_toArray, List.map_cons, List.map_nil]); first | done | rfl | (simp only [List.length_drop, List.length_take]; rfl)) ?_
              with_reducible refine (parallaxref1_PutHex.calls k1 (wrap64 (a4)) t265 _ A22.out).mono ?_
              rintro e w26 ⟨rfl, hb⟩
              refine ⟨_, rfl, ?_⟩
              have n0_ := Aside0.mk (blk_below (g := gb263) (o := .cells #[.int .i64 t253, .int .i64 t254, .int .i64 t255, .int .i64 t256, .int .i64 t257, .int .i64 t258, .int .i64 t259, .int .i64 t260, .bool t261, .bool t262] 29 (0, 0)) (by (with_reducible repeat (first | refine blk_drewN ?_ _ | refine blk_drew ?_ | refine blk_alloc ?_ _)); exact BK263.out) hb)
              have n1_ := Aside0.mk (below_step (by repeat (first | (with_reducible first | exact HB.out | apply below_alloc | apply pw_below_drewN | apply below_drew1 | refine below_set ?_ GE263.out) | exact HB.out)) hb)
              clear BK263
              clear HB
              have BK263 := n0_
              have HB := n1_
              clear n0_ n1_
              (try clear hb)
              (try clear hb2)
              (try clear hk)
              (try clear hi)
              refine hK.out _ _ ⟨(blk_cell BK263.out 0).trans rfl, (blk_cell BK263.out 1).trans rfl, (blk_cell BK263.out 2).trans rfl, (blk_cell BK263.out 3).trans rfl, (blk_cell BK263.out 4).trans rfl, (blk_cell BK263.out 5).trans rfl, (blk_cell BK263.out 6).trans rfl, (blk_cell BK263.out 7).trans rfl, (blk_cell BK263.out 8).trans rfl, (blk_cell BK263.out 9).trans rfl⟩ (fun hHeld => ?_)
              clear hK K
              refine norm_ (a' := ?_) ?_ ?_
              rotate_left
              · show Act.put _ (some 52) _ = _
                simp only [Act.put, List.setIfInBounds_toArray, List.set_cons_zero, List.set_cons_succ, i64_w, i32_w]
                rfl
              refine one_ (i := 14) (N := some 61) #[true, true, true, true, true, true, true, true, true, true, true, true, true, true, true, false, false, true] rfl rfl (one_of HT_.out (by kernel_rfl)) (by decide) (fun K hK => ?_)
              refine goes_ Tryd.func11 (by kernel_rfl) rfl #[.int .i64 (wrap64 ((wrap64 (t256 + (wrap64 (Int.tmod a4 3)))) - 1))] (by rfl) rfl rfl (by (try simp only [List.map_toArray, List.map_cons, List.map_nil]); first | done | rfl | (simp only [List.length_drop, List.length_take]; rfl)) ?_
              with_reducible refine (parallaxref1_PutHex.calls k1 (wrap64 ((wrap64 (t256 + (wrap64 (Int.tmod a4 3)))) - 1)) t266 _ A23.out).mono ?_
              rintro e w27 ⟨rfl, hb⟩
              refine ⟨_, rfl, ?_⟩
              have n0_ := Aside0.mk (blk_below (g := gb263) (o := .cells #[.int .i64 t253, .int .i64 t254, .int .i64 t255, .int .i64 t256, .int .i64 t257, .int .i64 t258, .int .i64 t259, .int .i64 t260, .bool t261, .bool t262] 29 (0, 0)) (by (with_reducible repeat (first | refine blk_drewN ?_ _ | refine blk_drew ?_ | refine blk_alloc ?_ _)); exact BK263.out) hb)
              have n1_ := Aside0.mk (below_step (by repeat (first | (with_reducible first | exact HB.out | apply below_alloc | apply pw_below_drewN | apply below_drew1 | refine below_set ?_ GE263.out) | exact HB.out)) hb)
              clear BK263
              clear HB
              have BK263 := n0_
              have HB := n1_
              clear n0_ n1_
              (try clear hb)
              (try clear hb2)
              (try clear hk)
              (try clear hi)
              refine hK.out _ _ ⟨(blk_cell BK263.out 0).trans rfl, (blk_cell BK263.out 1).trans rfl, (blk_cell BK263.out 2).trans rfl, (blk_cell BK263.out 3).trans rfl, (blk_cell BK263.out 4).trans rfl, (blk_cell BK263.out 5).trans rfl, (blk_cell BK263.out 6).trans rfl, (blk_cell BK263.out 7).trans rfl, (blk_cell BK263.out 8).trans rfl, (blk_cell BK263.out 9).trans rfl⟩ (fun hHeld => ?_)
              clear hK K
              refine norm_ (a' := ?_) ?_ ?_
              rotate_left
              · show Act.put _ (some 61) _ = _
                simp only [Act.put, List.setIfInBounds_toArray, List.set_cons_zero, List.set_cons_succ, i64_w, i32_w]
                rfl
              refine one_ (i := 15) (N := some 62) #[true, true, true, true, true, true, true, true, true, true, true, true, true, true, true, true, false, true] rfl rfl (one_of HT_.out (by kernel_rfl)) (by decide) (fun K hK => ?_)
              refine Kd.R_lit_step Kd.string _ 9 ?hg (N := 62) ?hd (xs := ([a0, t264, t265, x13_1, t266] : List ByteArray)) (inner := [.string a0, .string t264, .string t265, .string x13_1, .string t266]) (ok := fun _ => True) (okp := fun _ => True) ?hr ?hp (fun _ hk => hk) trivial (Below.refl _ _) (Nat.le_refl _) (by simp) ?_; (case hd => rfl); (case hg => rfl); (case hr => first | (go_simp; done) | (go_simp; rfl)); (case hp => exact (Reps.one (show Kd.M Kd.string _ _ _ a0 [.string a0] from rfl) (Reps.one (show Kd.M Kd.string _ _ _ t264 [.string t264] from rfl) (Reps.one (show Kd.M Kd.string _ _ _ t265 [.string t265] from rfl) (Reps.one (show Kd.M Kd.string _ _ _ x13_1 [.string x13_1] from rfl) (Reps.one (show Kd.M Kd.string _ _ _ t266 [.string t266] from rfl) (Reps.none _ _)))))))
              intro v268 w28 ho29 hb hg_ hnew_
              clear hg_ hnew_
              (first | rw [← Ny267.out] at ho29 | (simp only [Int.reduceToNat] at ho29; rw [← Ny267.out] at ho29))
              have n0_ := Aside0.mk (Kd.R_lower ho29 (below_size (by repeat (first | (with_reducible first | exact HB.out | apply below_alloc | apply pw_below_drewN | apply below_drew1 | refine below_set ?_ GE263.out) | exact HB.out))))
              have n1_ := Aside0.mk (blk_below (g := gb263) (o := .cells #[.int .i64 t253, .int .i64 t254, .int .i64 t255, .int .i64 t256, .int .i64 t257, .int .i64 t258, .int .i64 t259, .int .i64 t260, .bool t261, .bool t262] 29 (0, 0)) (by (with_reducible repeat (first | refine blk_drewN ?_ _ | refine blk_drew ?_ | refine blk_alloc ?_ _)); exact BK263.out) hb)
              have n2_ := Aside0.mk (below_step (by repeat (first | (with_reducible first | exact HB.out | apply below_alloc | apply pw_below_drewN | apply below_drew1 | refine below_set ?_ GE263.out) | exact HB.out)) hb)
              clear BK263
              clear HB
              have HO269 := n0_
              have BK263 := n1_
              have HB := n2_
              clear n0_ n1_ n2_
              clear hb ho29
              obtain ⟨Ao30, co30, eo30⟩ := Kd.R_slice HO269.out
              (first | subst eo30 | (injection eo30 with f1_ f2_ f3_; have f4_ := f1_.symm; have f5_ := f3_.symm; clear f1_ f2_ f3_; subst f4_; subst f5_))
              refine hK.out _ _ ⟨(blk_cell BK263.out 0).trans rfl, (blk_cell BK263.out 1).trans rfl, (blk_cell BK263.out 2).trans rfl, (blk_cell BK263.out 3).trans rfl, (blk_cell BK263.out 4).trans rfl, (blk_cell BK263.out 5).trans rfl, (blk_cell BK263.out 6).trans rfl, (blk_cell BK263.out 7).trans rfl, (blk_cell BK263.out 8).trans rfl, (blk_cell BK263.out 9).trans rfl⟩ (fun hHeld => ?_)
              clear hK K
              refine norm_ (a' := ?_) ?_ ?_
              rotate_left
              · show Act.put _ (some 62) _ = _
                simp only [Act.put, List.setIfInBounds_toArray, List.set_cons_zero, List.set_cons_succ, i64_w, i32_w]
                rfl
              refine pure_ (i := 16) (N := some 63) (v := ?_) (a' := ?_) #[true, true, true, true, true, true, true, true, true, true, true, true, true, true, true, true, true, true] rfl rfl (any_of HT_.out (by kernel_rfl)) (fun _ _ _ h => h) (Or.inl ⟨by rfl, ?_⟩) ?_ ?_
              rotate_left
              · intro w'
                go_simp
                with_reducible rfl
              rotate_left
              · simp only [Act.put, List.setIfInBounds_toArray, List.set_cons_zero, List.set_cons_succ, i64_w, i32_w]
                rfl
              refine done_ (done_of HT_.out (by kernel_rfl)) ?_
              try go_wp2
              go_loopg [64] k1 (fun kq v64 w' => ∃ (x64_2 : Int), v64 = .int .i64 x64_2 ∧ Aside0 (parallaxlaw11_ChunkTells.l1 kq t252 y267 (y267.length : Int) x64_2 t253 t254 t255 t256 t257 t258 t259 t260 t261 t262 = some r) ∧ Aside0 (kq ≤ k1) ∧ Aside0 (Kd.R Kd.string 9 w' w.heap.size (fun _ => True) (.slice Ao30 y267.length co30) y267) ∧ Aside0 (w'.heap[gb263]? = some (.cells #[.int .i64 t253, .int .i64 t254, .int .i64 t255, .int .i64 t256, .int .i64 t257, .int .i64 t258, .int .i64 t259, .int .i64 t260, .bool t261, .bool t262] 29 (0, 0))) ∧ Aside0 (Below w.heap.size w w'))
              case atStart => exact ⟨(0), (by first | rfl | (simp; done) | (simp [*]; done)), H', ⟨Nat.le_refl _⟩, ⟨by (with_reducible repeat (first | apply Kd.R_alloc | apply Kd.R_drewN | apply Kd.R_drew)); exact HO269.out⟩, ⟨by (with_reducible repeat (first | refine blk_drewN ?_ _ | refine blk_drew ?_ | refine blk_alloc ?_ _)); exact BK263.out⟩, ⟨by repeat (first | (with_reducible first | exact HB.out | apply below_alloc | apply pw_below_drewN | apply below_drew1 | refine below_set ?_ GE263.out) | exact HB.out)⟩⟩
              case round =>
                clear H'
                try clear c1
                try clear c2
                try clear p2
                try clear q2
                try clear c3
                try clear q3
                try clear q4
                try clear p6
                try clear c7
                try clear c8
                try clear c8b0
                try clear c8b1
                try clear c9
                try clear c10
                try clear c10b0
                try clear c10b1
                try clear c11
                try clear c19
                try clear c19b0
                try clear c20
                try clear c20b0
                try clear c20b1
                try clear c20b2
                try clear hcz18_0
                try clear hcz18_1
                try clear hcz18_2
                try clear hcz18_3
                try clear hcz18_4
                try clear hcz18_5
                try clear hcz18_6
                try clear hcz18_7
                try clear hcz18_8
                try clear hcz18_9
                try clear hfz18_0
                try clear hfz18_1
                try clear hfz18_2
                try clear hfz18_3
                try clear hfz18_4
                try clear hfz18_5
                try clear hfz18_6
                try clear hfz18_7
                try clear hfz18_8
                try clear hfz18_9
                try clear p2
                try clear q2
                try clear q3
                try clear q4
                obtain ⟨x64_2, rfl, HA, HK2, HO_62, BK263, HB⟩ := hrel
                cases gk with
                | zero => exact absurd HA.out (by simp [parallaxlaw11_ChunkTells.l1])
                | succ k2 =>
                  have H := HA.out
                  clear HA
                  simp only [parallaxlaw11_ChunkTells.l1] at H
                  by_cases c31 : x64_2 < (y267.length : Int)
                  · rw [if_pos c31] at H
                    have c31b0 : decide (x64_2 < (y267.length : Int)) = true := decide_eq_true c31
                    clear c31
                    by_cases c32 : 0 ≤ x64_2
                    · rw [if_pos c32] at H
                      have c32b0 : decide (0 ≤ x64_2) = true := decide_eq_true c32
                      clear c32
                      by_cases c33 : x64_2 < (y267.length : Int)
                      · rw [if_pos c33] at H
                        have c33b0 : decide (x64_2 < (y267.length : Int)) = true := decide_eq_true c33
                        clear c33
                        obtain ⟨y271, hy271⟩ : ∃ y_ : List Int, y_ = (([27, 28] : List Int)) := ⟨_, rfl⟩
                        replace H : ((parallaxref4_Of.f k2 y271).bind fun t274 => ((parallaxref4_Of.f k2 (([28] : List Int))).bind fun t278 => ((some (([0, t252, t274, t278] : List Int) : List Int)).bind fun y279 => (parallaxlaw11_ChunkTells.l2 k2 t252 (rdOf ByteArray.empty y267 x64_2) y267 (y267.length : Int) x64_2 y279 (y279.length : Int) 0 t253 t254 t255 t256 t257 t258 t259 t260 t261 t262)))) = some r := by first | (rw [hy271]; with_reducible exact H) | (have H2_ := (Option.bind_some _ _).symm.trans H; rw [hy271]; with_reducible exact H2_) | (have H2_ := (Option.bind_some _ _).symm.trans H; with_reducible exact H2_) | with_reducible exact H | (rw [hy271]; exact H) | exact H
                        have Ny271 := Aside0.mk hy271
                        clear hy271
                        replace H := Option.bind_eq_some_iff.mp H
                        obtain ⟨t274, A340, H⟩ := H
                        (try dsimp only at H)
                        have A34 := Aside0.mk A340
                        clear A340
                        obtain ⟨y275, hy275⟩ : ∃ y_ : List Int, y_ = (([28] : List Int)) := ⟨_, rfl⟩
                        replace H : ((parallaxref4_Of.f k2 y275).bind fun t278 => ((some (([0, t252, t274, t278] : List Int) : List Int)).bind fun y279 => (parallaxlaw11_ChunkTells.l2 k2 t252 (rdOf ByteArray.empty y267 x64_2) y267 (y267.length : Int) x64_2 y279 (y279.length : Int) 0 t253 t254 t255 t256 t257 t258 t259 t260 t261 t262))) = some r := by first | (rw [hy275]; with_reducible exact H) | (have H2_ := (Option.bind_some _ _).symm.trans H; rw [hy275]; with_reducible exact H2_) | (have H2_ := (Option.bind_some _ _).symm.trans H; with_reducible exact H2_) | with_reducible exact H | (rw [hy275]; exact H) | exact H
                        have Ny275 := Aside0.mk hy275
                        clear hy275
                        replace H := Option.bind_eq_some_iff.mp H
                        obtain ⟨t278, A350, H⟩ := H
                        (try dsimp only at H)
                        have A35 := Aside0.mk A350
                        clear A350
                        obtain ⟨y279, hy279⟩ : ∃ y_ : List Int, y_ = (([0, t252, t274, t278] : List Int)) := ⟨_, rfl⟩
                        replace H : (parallaxlaw11_ChunkTells.l2 k2 t252 (rdOf ByteArray.empty y267 x64_2) y267 (y267.length : Int) x64_2 y279 (y279.length : Int) 0 t253 t254 t255 t256 t257 t258 t259 t260 t261 t262) = some r := by first | (rw [hy279]; with_reducible exact H) | (have H2_ := (Option.bind_some _ _).symm.trans H; rw [hy279]; with_reducible exact H2_) | (have H2_ := (Option.bind_some _ _).symm.trans H; with_reducible exact H2_) | with_reducible exact H | (rw [hy279]; exact H) | exact H
                        have Ny279 := Aside0.mk hy279
                        clear hy279
                        have H' := Aside0.mk H
                        clear H
                        have p270 : 0 ≤ (x64_2 : Int) := of_decide_eq_true (by first | (with_reducible assumption) | assumption)
                        have q270 : x64_2 < (y267.length : Int) := of_decide_eq_true (by first | (with_reducible assumption) | assumption)
                        obtain ⟨ad270, e270, hx270_0⟩ := Kd.at_string (Kd.R_reads' HO_62.out).2.2 x64_2 p270 q270
                        cases e270
                        replace p270 := eq_true p270
                        replace q270 := eq_true q270
                        go_wp2_with (first | ((with_reducible refine gate_dst (N := 69) rfl ?_); (try (refine gate_guard (by rfl) ?_; dsimp only)); refine Kd.R_lit (Kd.int .i64) _ 3 ?hg (N := 69) ?hd (xs := ([27, 28] : List Int)) (inner := [.int .i64 27, .int .i64 28]) (ok := fun _ => True) (okp := fun _ => True) ?hr ?hp (fun _ hk => hk) trivial (Below.refl _ _) (Nat.le_refl _) (by simp) ?_; (case hd => rfl); (case hg => rfl); (case hr => first | (go_simp; done) | (go_simp; rfl)); (case hp => exact (Reps.one (show Kd.M (Kd.int .i64) _ _ _ 27 [.int .i64 27] from rfl) (Reps.one (show Kd.M (Kd.int .i64) _ _ _ 28 [.int .i64 28] from rfl) (Reps.none _ _)))); intro v272 w36 ho37 hb hg_ hnew_; clear hg_ hnew_; (first | rw [← Ny271.out] at ho37 | (simp only [Int.reduceToNat] at ho37; rw [← Ny271.out] at ho37)); have n0_ := Aside0.mk (Kd.R_below (by (with_reducible repeat (first | apply Kd.R_alloc | apply Kd.R_drewN | apply Kd.R_drew)); exact HO_62.out) hb); have n1_ := Aside0.mk (Kd.R_lower ho37 (below_size (by repeat (first | (with_reducible first | exact HB.out | apply below_alloc | apply pw_below_drewN | apply below_drew1 | refine below_set ?_ GE263.out) | exact HB.out)))); have n2_ := Aside0.mk (blk_below (g := gb263) (o := .cells #[.int .i64 t253, .int .i64 t254, .int .i64 t255, .int .i64 t256, .int .i64 t257, .int .i64 t258, .int .i64 t259, .int .i64 t260, .bool t261, .bool t262] 29 (0, 0)) (by (with_reducible repeat (first | refine blk_drewN ?_ _ | refine blk_drew ?_ | refine blk_alloc ?_ _)); exact BK263.out) hb); have n3_ := Aside0.mk (below_step (by repeat (first | (with_reducible first | exact HB.out | apply below_alloc | apply pw_below_drewN | apply below_drew1 | refine below_set ?_ GE263.out) | exact HB.out)) hb); clear HO_62; clear BK263; clear HB; have HO_62 := n0_; have HO273 := n1_; have BK263 := n2_; have HB := n3_; clear n0_ n1_ n2_ n3_; clear hb ho37; obtain ⟨Ao38, co38, eo38⟩ := Kd.R_slice HO273.out; subst eo38) | ((with_reducible refine gate_callee (f := 12) rfl ?_); refine goesL_ (some 70) rfl rfl Tryd.func12 (by kernel_rfl) rfl #[.slice Ao38 y271.length co38] rfl (by (try simp only [List.map_toArray, List.map_cons, List.map_nil]); first | done | rfl | (simp only [List.length_drop, List.length_take]; rfl)) ?_; (with_reducible refine (parallaxref4_Of.calls k2 _ _ y271 t274 _ ?side1 ?side2 A34.out).mono ?_); (case side1 => repeat (first | exact (Kd.R_reads' HO273.out).2.2 | (with_reducible refine Kd.C_alloc ?_ _) | (with_reducible refine Kd.C_drewN ?_ _) | (with_reducible refine Kd.C_drew ?_))); (case side2 => exact (Kd.R_reads' HO273.out).2.1); rintro e w' ⟨rfl, ⟨nd, rfl⟩⟩; refine ⟨_, rfl, ?_⟩) | ((with_reducible refine gate_dst (N := 71) rfl ?_); (try (refine gate_guard (by rfl) ?_; dsimp only)); refine Kd.R_lit (Kd.int .i64) _ 3 ?hg (N := 71) ?hd (xs := ([28] : List Int)) (inner := [.int .i64 28]) (ok := fun _ => True) (okp := fun _ => True) ?hr ?hp (fun _ hk => hk) trivial (Below.refl _ _) (Nat.le_refl _) (by simp) ?_; (case hd => rfl); (case hg => rfl); (case hr => first | (go_simp; done) | (go_simp; rfl)); (case hp => exact (Reps.one (show Kd.M (Kd.int .i64) _ _ _ 28 [.int .i64 28] from rfl) (Reps.none _ _))); intro v276 w39 ho40 hb hg_ hnew_; clear hg_ hnew_; (first | rw [← Ny275.out] at ho40 | (simp only [Int.reduceToNat] at ho40; rw [← Ny275.out] at ho40)); have n0_ := Aside0.mk (Kd.R_below (by (with_reducible repeat (first | apply Kd.R_alloc | apply Kd.R_drewN | apply Kd.R_drew)); exact HO_62.out) hb); have n1_ := Aside0.mk (Kd.R_elder' (by (with_reducible repeat (first | apply Kd.R_alloc | apply Kd.R_drewN | apply Kd.R_drew)); exact HO273.out) (Kd.R_base ho40) hb); have n2_ := Aside0.mk (Kd.R_lower (Kd.R_new' ho40 (Kd.R_lt (by (with_reducible repeat (first | apply Kd.R_alloc | apply Kd.R_drewN | apply Kd.R_drew)); exact HO273.out))) (below_size (by repeat (first | (with_reducible first | exact HB.out | apply below_alloc | apply pw_below_drewN | apply below_drew1 | refine below_set ?_ GE263.out) | exact HB.out)))); have n3_ := Aside0.mk (blk_below (g := gb263) (o := .cells #[.int .i64 t253, .int .i64 t254, .int .i64 t255, .int .i64 t256, .int .i64 t257, .int .i64 t258, .int .i64 t259, .int .i64 t260, .bool t261, .bool t262] 29 (0, 0)) (by (with_reducible repeat (first | refine blk_drewN ?_ _ | refine blk_drew ?_ | refine blk_alloc ?_ _)); exact BK263.out) hb); have n4_ := Aside0.mk (below_step (by repeat (first | (with_reducible first | exact HB.out | apply below_alloc | apply pw_below_drewN | apply below_drew1 | refine below_set ?_ GE263.out) | exact HB.out)) hb); clear HO_62; clear HO273; clear BK263; clear HB; have HO_62 := n0_; have HO273 := n1_; have HO277 := n2_; have BK263 := n3_; have HB := n4_; clear n0_ n1_ n2_ n3_ n4_; clear hb ho40; obtain ⟨Ao41, co41, eo41⟩ := Kd.R_slice HO277.out; subst eo41) | ((with_reducible refine gate_callee (f := 12) rfl ?_); refine goesL_ (some 72) rfl rfl Tryd.func12 (by kernel_rfl) rfl #[.slice Ao41 y275.length co41] rfl (by (try simp only [List.map_toArray, List.map_cons, List.map_nil]); first | done | rfl | (simp only [List.length_drop, List.length_take]; rfl)) ?_; (with_reducible refine (parallaxref4_Of.calls k2 _ _ y275 t278 _ ?side1 ?side2 A35.out).mono ?_); (case side1 => repeat (first | exact (Kd.R_reads' HO277.out).2.2 | (with_reducible refine Kd.C_alloc ?_ _) | (with_reducible refine Kd.C_drewN ?_ _) | (with_reducible refine Kd.C_drew ?_))); (case side2 => exact (Kd.R_reads' HO277.out).2.1); rintro e w' ⟨rfl, ⟨nd, rfl⟩⟩; refine ⟨_, rfl, ?_⟩) | ((with_reducible refine gate_dst (N := 73) rfl ?_); (try (refine gate_guard (by rfl) ?_; dsimp only)); refine Kd.R_lit (Kd.int .u32) _ 26 ?hg (N := 73) ?hd (xs := ([0, t252, t274, t278] : List Int)) (inner := [.int .u32 0, .int .u32 t252, .int .u32 t274, .int .u32 t278]) (ok := fun _ => True) (okp := fun _ => True) ?hr ?hp (fun _ hk => hk) trivial (Below.refl _ _) (Nat.le_refl _) (by simp) ?_; (case hd => rfl); (case hg => rfl); (case hr => first | (go_simp; done) | (go_simp; rfl)); (case hp => exact (Reps.one (show Kd.M (Kd.int .u32) _ _ _ 0 [.int .u32 0] from rfl) (Reps.one (show Kd.M (Kd.int .u32) _ _ _ t252 [.int .u32 t252] from rfl) (Reps.one (show Kd.M (Kd.int .u32) _ _ _ t274 [.int .u32 t274] from rfl) (Reps.one (show Kd.M (Kd.int .u32) _ _ _ t278 [.int .u32 t278] from rfl) (Reps.none _ _)))))); intro v280 w42 ho43 hb hg_ hnew_; clear hg_ hnew_; (first | rw [← Ny279.out] at ho43 | (simp only [Int.reduceToNat] at ho43; rw [← Ny279.out] at ho43)); have n0_ := Aside0.mk (Kd.R_below (by (with_reducible repeat (first | apply Kd.R_alloc | apply Kd.R_drewN | apply Kd.R_drew)); exact HO_62.out) hb); have n1_ := Aside0.mk (Kd.R_below (by (with_reducible repeat (first | apply Kd.R_alloc | apply Kd.R_drewN | apply Kd.R_drew)); exact HO273.out) hb); have n2_ := Aside0.mk (Kd.R_below (by (with_reducible repeat (first | apply Kd.R_alloc | apply Kd.R_drewN | apply Kd.R_drew)); exact HO277.out) hb); have n3_ := Aside0.mk (Kd.R_lower ho43 (below_size (by repeat (first | (with_reducible first | exact HB.out | apply below_alloc | apply pw_below_drewN | apply below_drew1 | refine below_set ?_ GE263.out) | exact HB.out)))); have n4_ := Aside0.mk (blk_below (g := gb263) (o := .cells #[.int .i64 t253, .int .i64 t254, .int .i64 t255, .int .i64 t256, .int .i64 t257, .int .i64 t258, .int .i64 t259, .int .i64 t260, .bool t261, .bool t262] 29 (0, 0)) (by (with_reducible repeat (first | refine blk_drewN ?_ _ | refine blk_drew ?_ | refine blk_alloc ?_ _)); exact BK263.out) hb); have n5_ := Aside0.mk (below_step (by repeat (first | (with_reducible first | exact HB.out | apply below_alloc | apply pw_below_drewN | apply below_drew1 | refine below_set ?_ GE263.out) | exact HB.out)) hb); clear HO_62; clear HO273; clear HO277; clear BK263; clear HB; have HO_62 := n0_; have HO273 := n1_; have HO277 := n2_; have HO281 := n3_; have BK263 := n4_; have HB := n5_; clear n0_ n1_ n2_ n3_ n4_ n5_; clear hb ho43; obtain ⟨Ao44, co44, eo44⟩ := Kd.R_slice HO281.out; subst eo44) | (go_at_call 12; (with_reducible refine (parallaxref4_Of.calls k2 _ _ y271 t274 _ ?side1 ?side2 A34.out).mono ?_); (case side1 => repeat (first | exact (Kd.R_reads' HO273.out).2.2 | (with_reducible refine Kd.C_alloc ?_ _) | (with_reducible refine Kd.C_drewN ?_ _) | (with_reducible refine Kd.C_drew ?_))); (case side2 => exact (Kd.R_reads' HO273.out).2.1); rintro e w' ⟨rfl, ⟨nd, rfl⟩⟩) | (go_at_call 12; (with_reducible refine (parallaxref4_Of.calls k2 _ _ y275 t278 _ ?side1 ?side2 A35.out).mono ?_); (case side1 => repeat (first | exact (Kd.R_reads' HO277.out).2.2 | (with_reducible refine Kd.C_alloc ?_ _) | (with_reducible refine Kd.C_drewN ?_ _) | (with_reducible refine Kd.C_drew ?_))); (case side2 => exact (Kd.R_reads' HO277.out).2.1); rintro e w' ⟨rfl, ⟨nd, rfl⟩⟩))
                        go_loopg [75] k2 (fun kq v75 w' => ∃ (x75_3 : Int), v75 = .int .i64 x75_3 ∧ Aside0 (parallaxlaw11_ChunkTells.l2 kq t252 (rdOf ByteArray.empty y267 x64_2) y267 (y267.length : Int) x64_2 y279 (y279.length : Int) x75_3 t253 t254 t255 t256 t257 t258 t259 t260 t261 t262 = some r) ∧ Aside0 (kq ≤ k2) ∧ Aside0 (Kd.R Kd.string 9 w' w.heap.size (fun _ => True) (.slice (some ad270) y267.length co30) y267) ∧ Aside0 (Kd.R (Kd.int .u32) 26 w' w.heap.size (fun _ => True) (.slice Ao44 y279.length co44) y279) ∧ Aside0 (w'.heap[gb263]? = some (.cells #[.int .i64 t253, .int .i64 t254, .int .i64 t255, .int .i64 t256, .int .i64 t257, .int .i64 t258, .int .i64 t259, .int .i64 t260, .bool t261, .bool t262] 29 (0, 0))) ∧ Aside0 (Below w.heap.size w w'))
                        case atStart => exact ⟨(0), (by first | rfl | (simp; done) | (simp [*]; done)), H', ⟨Nat.le_refl _⟩, ⟨by (with_reducible repeat (first | apply Kd.R_alloc | apply Kd.R_drewN | apply Kd.R_drew)); exact HO_62.out⟩, ⟨by (with_reducible repeat (first | apply Kd.R_alloc | apply Kd.R_drewN | apply Kd.R_drew)); exact HO281.out⟩, ⟨by (with_reducible repeat (first | refine blk_drewN ?_ _ | refine blk_drew ?_ | refine blk_alloc ?_ _)); exact BK263.out⟩, ⟨by repeat (first | (with_reducible first | exact HB.out | apply below_alloc | apply pw_below_drewN | apply below_drew1 | refine below_set ?_ GE263.out) | exact HB.out)⟩⟩
                        case round =>
                          clear H'
                          try clear c1
                          try clear c2
                          try clear p2
                          try clear q2
                          try clear hx2
                          try clear c3
                          try clear q3
                          try clear q4
                          try clear p6
                          try clear c7
                          try clear c8
                          try clear c8b0
                          try clear c8b1
                          try clear c9
                          try clear c10
                          try clear c10b0
                          try clear c10b1
                          try clear c11
                          try clear c12
                          try clear c19
                          try clear c19b0
                          try clear c20
                          try clear c20b0
                          try clear c20b1
                          try clear c20b2
                          try clear p27
                          try clear q27
                          try clear hx27
                          try clear c31
                          try clear c31b0
                          try clear c32
                          try clear c32b0
                          try clear c33
                          try clear c33b0
                          try clear hcz18_0
                          try clear hcz18_1
                          try clear hcz18_2
                          try clear hcz18_3
                          try clear hcz18_4
                          try clear hcz18_5
                          try clear hcz18_6
                          try clear hcz18_7
                          try clear hcz18_8
                          try clear hcz18_9
                          try clear hfz18_0
                          try clear hfz18_1
                          try clear hfz18_2
                          try clear hfz18_3
                          try clear hfz18_4
                          try clear hfz18_5
                          try clear hfz18_6
                          try clear hfz18_7
                          try clear hfz18_8
                          try clear hfz18_9
                          try clear hx270_0
                          try clear p2
                          try clear p270
                          try clear p6
                          try clear q2
                          try clear q270
                          try clear q3
                          try clear q4
                          obtain ⟨x75_3, rfl, HA, HK3, HO_62, HO_73, BK263, HB⟩ := hrel
                          cases gk with
                          | zero => exact absurd HA.out (by simp [parallaxlaw11_ChunkTells.l2])
                          | succ k3 =>
                            have H := HA.out
                            clear HA
                            simp only [parallaxlaw11_ChunkTells.l2] at H
                            by_cases c45 : x75_3 < (y279.length : Int)
                            · rw [if_pos c45] at H
                              have c45b0 : decide (x75_3 < (y279.length : Int)) = true := decide_eq_true c45
                              clear c45
                              by_cases c46 : 0 ≤ x75_3
                              · rw [if_pos c46] at H
                                have c46b0 : decide (0 ≤ x75_3) = true := decide_eq_true c46
                                clear c46
                                by_cases c47 : x75_3 < (y279.length : Int)
                                · rw [if_pos c47] at H
                                  have c47b0 : decide (x75_3 < (y279.length : Int)) = true := decide_eq_true c47
                                  clear c47
                                  replace H := Option.bind_eq_some_iff.mp H
                                  obtain ⟨⟨t283, t284⟩, A480, H⟩ := H
                                  (try dsimp only at H)
                                  have A48 := Aside0.mk A480
                                  clear A480
                                  replace H := Option.bind_eq_some_iff.mp H
                                  obtain ⟨⟨t285, t286⟩, A490, H⟩ := H
                                  (try dsimp only at H)
                                  have A49 := Aside0.mk A490
                                  clear A490
                                  by_cases c50 : t283 = t285
                                  · rw [if_pos c50] at H
                                    have c50b0 : (t283 == t285) = true := beq_iff_eq.mpr c50
                                    have c50b1 : (t283 != t285) = false := bne_eq_false_iff_eq.mpr c50
                                    clear c50
                                    by_cases c51 : t284 = t286
                                    · rw [if_pos c51] at H
                                      have c51b0 : (t284 == t286) = true := beq_iff_eq.mpr c51
                                      have c51b1 : (t284 != t286) = false := bne_eq_false_iff_eq.mpr c51
                                      clear c51
                                      have H' := Aside0.mk H
                                      clear H
                                      have p282 : 0 ≤ (x75_3 : Int) := of_decide_eq_true (by first | (with_reducible assumption) | assumption)
                                      have q282 : x75_3 < (y279.length : Int) := of_decide_eq_true (by first | (with_reducible assumption) | assumption)
                                      obtain ⟨ad282, e282, hx282_0⟩ := Kd.at_int (Kd.R_reads' HO_73.out).2.2 x75_3 p282 q282
                                      cases e282
                                      replace p282 := eq_true p282
                                      replace q282 := eq_true q282
                                      have hcz52_0 : wr.cell? ⟨gb263, 0, none⟩ = some (.int .i64 t253) := (blk_cell BK263.out 0).trans rfl
                                      have hcz52_1 : wr.cell? ⟨gb263, 1, none⟩ = some (.int .i64 t254) := (blk_cell BK263.out 1).trans rfl
                                      have hcz52_2 : wr.cell? ⟨gb263, 2, none⟩ = some (.int .i64 t255) := (blk_cell BK263.out 2).trans rfl
                                      have hcz52_3 : wr.cell? ⟨gb263, 3, none⟩ = some (.int .i64 t256) := (blk_cell BK263.out 3).trans rfl
                                      have hcz52_4 : wr.cell? ⟨gb263, 4, none⟩ = some (.int .i64 t257) := (blk_cell BK263.out 4).trans rfl
                                      have hcz52_5 : wr.cell? ⟨gb263, 5, none⟩ = some (.int .i64 t258) := (blk_cell BK263.out 5).trans rfl
                                      have hcz52_6 : wr.cell? ⟨gb263, 6, none⟩ = some (.int .i64 t259) := (blk_cell BK263.out 6).trans rfl
                                      have hcz52_7 : wr.cell? ⟨gb263, 7, none⟩ = some (.int .i64 t260) := (blk_cell BK263.out 7).trans rfl
                                      have hcz52_8 : wr.cell? ⟨gb263, 8, none⟩ = some (.bool t261) := (blk_cell BK263.out 8).trans rfl
                                      have hcz52_9 : wr.cell? ⟨gb263, 9, none⟩ = some (.bool t262) := (blk_cell BK263.out 9).trans rfl
                                      have hfz52_0 := blk_frozen BK263.out 0
                                      have hfz52_1 := blk_frozen BK263.out 1
                                      have hfz52_2 := blk_frozen BK263.out 2
                                      have hfz52_3 := blk_frozen BK263.out 3
                                      have hfz52_4 := blk_frozen BK263.out 4
                                      have hfz52_5 := blk_frozen BK263.out 5
                                      have hfz52_6 := blk_frozen BK263.out 6
                                      have hfz52_7 := blk_frozen BK263.out 7
                                      have hfz52_8 := blk_frozen BK263.out 8
                                      have hfz52_9 := blk_frozen BK263.out 9
                                      go_wp2_with (first | ((with_reducible refine gate_callee (f := 13) rfl ?_); refine goesL_ (some 83) rfl rfl Tryd.func13 (by kernel_rfl) rfl #[.string (rdOf ByteArray.empty y267 x64_2), .int .u32 (rd y279 x75_3), .agg #[.int .i64 t253, .int .i64 t254, .int .i64 t255, .int .i64 t256, .int .i64 t257, .int .i64 t258, .int .i64 t259, .int .i64 t260, .bool t261, .bool t262]] rfl (by (try simp only [List.map_toArray, List.map_cons, List.map_nil]); first | done | rfl | (simp only [List.length_drop, List.length_take]; rfl)) ?_; (with_reducible refine (chunk_Size.calls k3 (rdOf ByteArray.empty y267 x64_2) (rd y279 x75_3) t253 t254 t255 t256 t257 t258 t259 t260 t261 t262 t283 t284 _ A48.out).mono ?_); rintro e w53 ⟨rfl, hb⟩; refine ⟨_, rfl, ?_⟩; have n0_ := Aside0.mk (Kd.R_below (by (with_reducible repeat (first | apply Kd.R_alloc | apply Kd.R_drewN | apply Kd.R_drew)); exact HO_62.out) hb); have n1_ := Aside0.mk (Kd.R_below (by (with_reducible repeat (first | apply Kd.R_alloc | apply Kd.R_drewN | apply Kd.R_drew)); exact HO_73.out) hb); have n2_ := Aside0.mk (blk_below (g := gb263) (o := .cells #[.int .i64 t253, .int .i64 t254, .int .i64 t255, .int .i64 t256, .int .i64 t257, .int .i64 t258, .int .i64 t259, .int .i64 t260, .bool t261, .bool t262] 29 (0, 0)) (by (with_reducible repeat (first | refine blk_drewN ?_ _ | refine blk_drew ?_ | refine blk_alloc ?_ _)); exact BK263.out) hb); have n3_ := Aside0.mk (below_step (by repeat (first | (with_reducible first | exact HB.out | apply below_alloc | apply pw_below_drewN | apply below_drew1 | refine below_set ?_ GE263.out) | exact HB.out)) hb); clear HO_62; clear HO_73; clear BK263; clear HB; have HO_62 := n0_; have HO_73 := n1_; have BK263 := n2_; have HB := n3_; clear n0_ n1_ n2_ n3_; (try clear hb); (try clear hb2); (try clear hk); (try clear hi); have hcz54_0 : w53.cell? ⟨gb263, 0, none⟩ = some (.int .i64 t253) := (blk_cell BK263.out 0).trans rfl; have hcz54_1 : w53.cell? ⟨gb263, 1, none⟩ = some (.int .i64 t254) := (blk_cell BK263.out 1).trans rfl; have hcz54_2 : w53.cell? ⟨gb263, 2, none⟩ = some (.int .i64 t255) := (blk_cell BK263.out 2).trans rfl; have hcz54_3 : w53.cell? ⟨gb263, 3, none⟩ = some (.int .i64 t256) := (blk_cell BK263.out 3).trans rfl; have hcz54_4 : w53.cell? ⟨gb263, 4, none⟩ = some (.int .i64 t257) := (blk_cell BK263.out 4).trans rfl; have hcz54_5 : w53.cell? ⟨gb263, 5, none⟩ = some (.int .i64 t258) := (blk_cell BK263.out 5).trans rfl; have hcz54_6 : w53.cell? ⟨gb263, 6, none⟩ = some (.int .i64 t259) := (blk_cell BK263.out 6).trans rfl; have hcz54_7 : w53.cell? ⟨gb263, 7, none⟩ = some (.int .i64 t260) := (blk_cell BK263.out 7).trans rfl; have hcz54_8 : w53.cell? ⟨gb263, 8, none⟩ = some (.bool t261) := (blk_cell BK263.out 8).trans rfl; have hcz54_9 : w53.cell? ⟨gb263, 9, none⟩ = some (.bool t262) := (blk_cell BK263.out 9).trans rfl; have hfz54_0 := blk_frozen BK263.out 0; have hfz54_1 := blk_frozen BK263.out 1; have hfz54_2 := blk_frozen BK263.out 2; have hfz54_3 := blk_frozen BK263.out 3; have hfz54_4 := blk_frozen BK263.out 4; have hfz54_5 := blk_frozen BK263.out 5; have hfz54_6 := blk_frozen BK263.out 6; have hfz54_7 := blk_frozen BK263.out 7; have hfz54_8 := blk_frozen BK263.out 8; have hfz54_9 := blk_frozen BK263.out 9) | ((with_reducible refine gate_callee (f := 14) rfl ?_); refine goesL_ (some 90) rfl rfl Tryd.func14 (by kernel_rfl) rfl #[.string (rdOf ByteArray.empty y267 x64_2), .int .u32 (rd y279 x75_3), .agg #[.int .i64 t253, .int .i64 t254, .int .i64 t255, .int .i64 t256, .int .i64 t257, .int .i64 t258, .int .i64 t259, .int .i64 t260, .bool t261, .bool t262]] rfl (by (try simp only [List.map_toArray, List.map_cons, List.map_nil]); first | done | rfl | (simp only [List.length_drop, List.length_take]; rfl)) ?_; (with_reducible refine (parallaxref9_Size.calls k3 (rdOf ByteArray.empty y267 x64_2) (rd y279 x75_3) t253 t254 t255 t256 t257 t258 t259 t260 t261 t262 t285 t286 _ A49.out).mono ?_); rintro e w55 ⟨rfl, hb⟩; refine ⟨_, rfl, ?_⟩; have n0_ := Aside0.mk (Kd.R_below (by (with_reducible repeat (first | apply Kd.R_alloc | apply Kd.R_drewN | apply Kd.R_drew)); exact HO_62.out) hb); have n1_ := Aside0.mk (Kd.R_below (by (with_reducible repeat (first | apply Kd.R_alloc | apply Kd.R_drewN | apply Kd.R_drew)); exact HO_73.out) hb); have n2_ := Aside0.mk (blk_below (g := gb263) (o := .cells #[.int .i64 t253, .int .i64 t254, .int .i64 t255, .int .i64 t256, .int .i64 t257, .int .i64 t258, .int .i64 t259, .int .i64 t260, .bool t261, .bool t262] 29 (0, 0)) (by (with_reducible repeat (first | refine blk_drewN ?_ _ | refine blk_drew ?_ | refine blk_alloc ?_ _)); exact BK263.out) hb); have n3_ := Aside0.mk (below_step (by repeat (first | (with_reducible first | exact HB.out | apply below_alloc | apply pw_below_drewN | apply below_drew1 | refine below_set ?_ GE263.out) | exact HB.out)) hb); clear HO_62; clear HO_73; clear BK263; clear HB; have HO_62 := n0_; have HO_73 := n1_; have BK263 := n2_; have HB := n3_; clear n0_ n1_ n2_ n3_; (try clear hb); (try clear hb2); (try clear hk); (try clear hi)) | (go_at_call 13; (with_reducible refine (chunk_Size.calls k3 (rdOf ByteArray.empty y267 x64_2) (rd y279 x75_3) t253 t254 t255 t256 t257 t258 t259 t260 t261 t262 t283 t284 _ A48.out).mono ?_); rintro e w53 ⟨rfl, hb⟩; have n0_ := Aside0.mk (Kd.R_below (by (with_reducible repeat (first | apply Kd.R_alloc | apply Kd.R_drewN | apply Kd.R_drew)); exact HO_62.out) hb); have n1_ := Aside0.mk (Kd.R_below (by (with_reducible repeat (first | apply Kd.R_alloc | apply Kd.R_drewN | apply Kd.R_drew)); exact HO_73.out) hb); have n2_ := Aside0.mk (blk_below (g := gb263) (o := .cells #[.int .i64 t253, .int .i64 t254, .int .i64 t255, .int .i64 t256, .int .i64 t257, .int .i64 t258, .int .i64 t259, .int .i64 t260, .bool t261, .bool t262] 29 (0, 0)) (by (with_reducible repeat (first | refine blk_drewN ?_ _ | refine blk_drew ?_ | refine blk_alloc ?_ _)); exact BK263.out) hb); have n3_ := Aside0.mk (below_step (by repeat (first | (with_reducible first | exact HB.out | apply below_alloc | apply pw_below_drewN | apply below_drew1 | refine below_set ?_ GE263.out) | exact HB.out)) hb); clear HO_62; clear HO_73; clear BK263; clear HB; have HO_62 := n0_; have HO_73 := n1_; have BK263 := n2_; have HB := n3_; clear n0_ n1_ n2_ n3_; (try clear hb); (try clear hb2); (try clear hk); (try clear hi); have hcz54_0 : w53.cell? ⟨gb263, 0, none⟩ = some (.int .i64 t253) := (blk_cell BK263.out 0).trans rfl; have hcz54_1 : w53.cell? ⟨gb263, 1, none⟩ = some (.int .i64 t254) := (blk_cell BK263.out 1).trans rfl; have hcz54_2 : w53.cell? ⟨gb263, 2, none⟩ = some (.int .i64 t255) := (blk_cell BK263.out 2).trans rfl; have hcz54_3 : w53.cell? ⟨gb263, 3, none⟩ = some (.int .i64 t256) := (blk_cell BK263.out 3).trans rfl; have hcz54_4 : w53.cell? ⟨gb263, 4, none⟩ = some (.int .i64 t257) := (blk_cell BK263.out 4).trans rfl; have hcz54_5 : w53.cell? ⟨gb263, 5, none⟩ = some (.int .i64 t258) := (blk_cell BK263.out 5).trans rfl; have hcz54_6 : w53.cell? ⟨gb263, 6, none⟩ = some (.int .i64 t259) := (blk_cell BK263.out 6).trans rfl; have hcz54_7 : w53.cell? ⟨gb263, 7, none⟩ = some (.int .i64 t260) := (blk_cell BK263.out 7).trans rfl; have hcz54_8 : w53.cell? ⟨gb263, 8, none⟩ = some (.bool t261) := (blk_cell BK263.out 8).trans rfl; have hcz54_9 : w53.cell? ⟨gb263, 9, none⟩ = some (.bool t262) := (blk_cell BK263.out 9).trans rfl; have hfz54_0 := blk_frozen BK263.out 0; have hfz54_1 := blk_frozen BK263.out 1; have hfz54_2 := blk_frozen BK263.out 2; have hfz54_3 := blk_frozen BK263.out 3; have hfz54_4 := blk_frozen BK263.out 4; have hfz54_5 := blk_frozen BK263.out 5; have hfz54_6 := blk_frozen BK263.out 6; have hfz54_7 := blk_frozen BK263.out 7; have hfz54_8 := blk_frozen BK263.out 8; have hfz54_9 := blk_frozen BK263.out 9) | (go_at_call 14; (with_reducible refine (parallaxref9_Size.calls k3 (rdOf ByteArray.empty y267 x64_2) (rd y279 x75_3) t253 t254 t255 t256 t257 t258 t259 t260 t261 t262 t285 t286 _ A49.out).mono ?_); rintro e w55 ⟨rfl, hb⟩; have n0_ := Aside0.mk (Kd.R_below (by (with_reducible repeat (first | apply Kd.R_alloc | apply Kd.R_drewN | apply Kd.R_drew)); exact HO_62.out) hb); have n1_ := Aside0.mk (Kd.R_below (by (with_reducible repeat (first | apply Kd.R_alloc | apply Kd.R_drewN | apply Kd.R_drew)); exact HO_73.out) hb); have n2_ := Aside0.mk (blk_below (g := gb263) (o := .cells #[.int .i64 t253, .int .i64 t254, .int .i64 t255, .int .i64 t256, .int .i64 t257, .int .i64 t258, .int .i64 t259, .int .i64 t260, .bool t261, .bool t262] 29 (0, 0)) (by (with_reducible repeat (first | refine blk_drewN ?_ _ | refine blk_drew ?_ | refine blk_alloc ?_ _)); exact BK263.out) hb); have n3_ := Aside0.mk (below_step (by repeat (first | (with_reducible first | exact HB.out | apply below_alloc | apply pw_below_drewN | apply below_drew1 | refine below_set ?_ GE263.out) | exact HB.out)) hb); clear HO_62; clear HO_73; clear BK263; clear HB; have HO_62 := n0_; have HO_73 := n1_; have BK263 := n2_; have HB := n3_; clear n0_ n1_ n2_ n3_; (try clear hb); (try clear hb2); (try clear hk); (try clear hi)))
                                      go_roundg k3
                                      case measure => have := HK1.out; have := HK2.out; have := HK3.out; omega
                                      case rel => exact ⟨(wrap64 (x75_3 + 1)), (by first | rfl | (simp; done) | (simp [*]; done)), H', ⟨by have := HK1.out; have := HK2.out; have := HK3.out; omega⟩, ⟨by (with_reducible repeat (first | apply Kd.R_alloc | apply Kd.R_drewN | apply Kd.R_drew)); exact HO_62.out⟩, ⟨by (with_reducible repeat (first | apply Kd.R_alloc | apply Kd.R_drewN | apply Kd.R_drew)); exact HO_73.out⟩, ⟨by (with_reducible repeat (first | refine blk_drewN ?_ _ | refine blk_drew ?_ | refine blk_alloc ?_ _)); exact BK263.out⟩, ⟨by repeat (first | (with_reducible first | exact HB.out | apply below_alloc | apply pw_below_drewN | apply below_drew1 | refine below_set ?_ GE263.out) | exact HB.out)⟩⟩
                                    · rw [if_neg c51] at H
                                      have c51b0 : (t284 == t286) = false := beq_eq_false_iff_ne.mpr c51
                                      have c51b1 : (t284 != t286) = true := bne_iff_ne.mpr c51
                                      exact absurd ((Option.some.inj H).trans HT.out) (by decide)
                                  · rw [if_neg c50] at H
                                    have c50b0 : (t283 == t285) = false := beq_eq_false_iff_ne.mpr c50
                                    have c50b1 : (t283 != t285) = true := bne_iff_ne.mpr c50
                                    exact absurd ((Option.some.inj H).trans HT.out) (by decide)
                                · rw [if_neg c47] at H
                                  exact absurd H (by simp)
                              · rw [if_neg c46] at H
                                exact absurd H (by simp)
                            · rw [if_neg c45] at H
                              have c45b0 : decide (x75_3 < (y279.length : Int)) = false := decide_eq_false c45
                              clear c45
                              have H' := Aside0.mk H
                              clear H
                              go_wp2
                              go_roundg k3
                              case measure => have := HK1.out; have := HK2.out; have := HK3.out; omega
                              case rel => exact ⟨(wrap64 (x64_2 + 1)), (by first | rfl | (simp; done) | (simp [*]; done)), H', ⟨by have := HK1.out; have := HK2.out; have := HK3.out; omega⟩, ⟨by (with_reducible repeat (first | apply Kd.R_alloc | apply Kd.R_drewN | apply Kd.R_drew)); exact HO_62.out⟩, ⟨by (with_reducible repeat (first | refine blk_drewN ?_ _ | refine blk_drew ?_ | refine blk_alloc ?_ _)); exact BK263.out⟩, ⟨by repeat (first | (with_reducible first | exact HB.out | apply below_alloc | apply pw_below_drewN | apply below_drew1 | refine below_set ?_ GE263.out) | exact HB.out)⟩⟩
                      · rw [if_neg c33] at H
                        exact absurd H (by simp)
                    · rw [if_neg c32] at H
                      exact absurd H (by simp)
                  · rw [if_neg c31] at H
                    have c31b0 : decide (x64_2 < (y267.length : Int)) = false := decide_eq_false c31
                    clear c31
                    obtain rfl := Option.some.inj H
                    go_wp2
                    go_ret
                    exact ⟨by first | rfl | (simp [errW_none, errW_some] <;> rfl) | (simp [*, errW_none, errW_some] <;> rfl), by repeat (first | (with_reducible first | exact HB.out | apply below_alloc | apply pw_below_drewN | apply below_drew1 | refine below_set ?_ GE263.out) | exact HB.out)⟩
  · replace c7 := Bool.eq_false_iff.mpr c7
    subst c7
    rw [if_neg (show ¬ (false = true) by decide)] at H
    exact absurd ((Option.some.inj H).trans HT.out) (by decide)

/-- THE ONE PURE STATEMENT of parallaxlaw11_ChunkTells: yours. -/
def parallaxlaw11_ChunkTells.Pure : Prop := ∀ (a0 : ByteArray) (l1 : List Int) (a2 : Int) (a3 : Int) (a4 : Int), a0.size ≤ 140737488351232 → l1.length ≤ maxLen → l1.length * 1 ≤ 140737488351232 → (∀ x ∈ l1, (Lit.int .u8 x).wf = true) → (Lit.int .u32 a2).wf = true → (Lit.int .u8 a3).wf = true → (Lit.int .u16 a4).wf = true → ∃ k, parallaxlaw11_ChunkTells.f k a0 l1 a2 a3 a4 = some true

end Go.Proofs.YtihcmknbdjmcdaaDoor.PChunkTells
