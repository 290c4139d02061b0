-- Written by a program of this session (wip/tools/myprint.sh)
import Derived.Test.YtfmpajagkjealaaDoorPHopTellsx0
import Derived.Test.YtfmpajagkjealaaDoorPHopTellsx2
import Derived.Test.YtfmpajagkjealaaDoorPHopTellsx3
import Derived.Test.YtfmpajagkjealaaDoorPHopTellsx5
namespace Go.Proofs.YtfmpajagkjealaaDoor.PHopTells
open Go.RowKit Go.Proofs.YtfmpajagkjealaaDoorW.PrintWords Go.Proofs.YtfmpajagkjealaaDoorW.PrintLast Go.Proofs.YtfmpajagkjealaaDoorW.PrintMore
attribute [local go_sem] max2_int min2_int max_two min_two max_three min_three max_four min_four   -- for this text's walks alone
set_option linter.unusedVariables false
set_option linter.unusedSimpArgs false

/-! ### parallaxlaw18_HopTells: function 3 -/
def parallaxlaw18_HopTells.l0 : Nat → List Int → ByteArray → ByteArray → List (S28) → Int → Option (Bool)
  | 0, _, _, _, _, _ => none
  | k + 1, x1, x2, x3, x9, x10 => if x10 < (x1.length : Int) then ((some (([(⟨#[67, 111, 110, 110, 101, 99, 116, 105, 111, 110]⟩ : ByteArray), (⟨#[88]⟩ : ByteArray), (⟨#[72, 111, 115, 116]⟩ : ByteArray), (⟨#[85, 112, 103, 114, 97, 100, 101]⟩ : ByteArray), (⟨#[107, 101, 101, 112, 45, 97, 108, 105, 118, 101]⟩ : ByteArray), (⟨#[65]⟩ : ByteArray), (⟨#[67, 111, 110, 116, 101, 110, 116, 45, 76, 101, 110, 103, 116, 104]⟩ : ByteArray), (⟨#[84, 114, 97, 105, 108, 101, 114]⟩ : ByteArray), x2] : List ByteArray) : List ByteArray)).bind fun y255 => (if 0 ≤ x10 then (if 0 ≤ (Int.tmod (rd x1 x10) 9) then (if (Int.tmod (rd x1 x10) 9) < (y255.length : Int) then ((some (([(⟨#[120]⟩ : ByteArray), (⟨#[97, 44, 32, 99, 108, 111, 115, 101]⟩ : ByteArray), (⟨#[99, 111, 110, 116, 101, 110, 116, 45, 108, 101, 110, 103, 116, 104, 44, 32, 72, 79, 83, 84]⟩ : ByteArray), (⟨#[49]⟩ : ByteArray), (⟨#[]⟩ : ByteArray), x2] : List ByteArray) : List ByteArray)).bind fun y260 => (if 0 ≤ (((Int.tdiv (rd x1 x10) 9) % 256) % 6) then (if (((Int.tdiv (rd x1 x10) 9) % 256) % 6) < (y260.length : Int) then (if x9.length < 4398046511104 then (parallaxlaw18_HopTells.l0 k x1 x2 x3 (x9 ++ [(⟨rdOf ByteArray.empty y255 (Int.tmod (rd x1 x10) 9), rdOf ByteArray.empty y260 (((Int.tdiv (rd x1 x10) 9) % 256) % 6)⟩ : S28)]) (wrap64 (x10 + 1))) else (none)) else (none)) else (none))) else (none)) else (none)) else (none))) else ((hop_Strip.f k x9).bind fun t268 => ((parallaxref17_Strip.f k x9).bind fun t271 => ((parallaxref1_Fields.f k t268 t271).bind fun t274 => (if t274 = true then ((hop_Via.f x9 x2).bind fun t275 => ((parallaxref17_Via.f x9 x2).bind fun t278 => ((parallaxref1_Fields.f k t275 t278).bind fun t281 => (if t281 = true then ((hop_From.f x9 x3).bind fun t282 => ((parallaxref17_From.f x9 x3).bind fun t285 => ((parallaxref1_Fields.f k t282 t285).bind fun t288 => (if t288 = true then ((hop_Names.f).bind fun t289 => ((parallaxref17_Names.f).bind fun t292 => ((parallaxref1_Strings.f k t289 t292).bind fun t295 => (if t295 = true then ((hop_Strip.f k t268).bind fun t296 => ((parallaxref1_Fields.f k t296 t268).bind fun t299 => (some t299))) else (some false))))) else (some false))))) else (some false))))) else (some false)))))
def parallaxlaw18_HopTells.f (k : Nat) (l0 : List (S28)) (l1 : List Int) (a2 : ByteArray) (a3 : ByteArray) : Option (Bool) := (parallaxlaw18_known.f k).bind fun t250 => (if t250 = true then ((parallaxhelp_Fields.f k l0).bind fun t251 => (if t251 = true then (if (l1.length : Int) > 16 then (some true) else (if (a2.size : Int) > 40 then (some true) else (if (a3.size : Int) > 40 then (some true) else (if ([] : List (S28)).length + l0.length < 4398046511104 then (parallaxlaw18_HopTells.l0 k l1 a2 a3 (([] : List (S28)) ++ l0) 0) else (none))))) else (some true))) else (some false))
theorem parallaxlaw18_HopTells.mono_l : ∀ k, (∀ y0 y1 y2 y3 y4, LeO (parallaxlaw18_HopTells.l0 k y0 y1 y2 y3 y4) (parallaxlaw18_HopTells.l0 (k + 1) y0 y1 y2 y3 y4))
  | 0 => fun _ _ _ _ _ r h => by simp [parallaxlaw18_HopTells.l0] at h
  | k + 1 => by
    have ih0 := parallaxlaw18_HopTells.mono_l k
    · intro y0 y1 y2 y3 y4
      unfold parallaxlaw18_HopTells.l0
      repeat' first
      | (with_reducible exact ih0 _ _ _ _ _)
      | (with_reducible exact hop_Strip.mono _ _)
      | (with_reducible exact parallaxhelp_Fields.mono _ _)
      | (with_reducible exact parallaxlaw18_known.mono _)
      | (with_reducible exact parallaxref17_Strip.mono _ _)
      | (with_reducible exact parallaxref1_Fields.mono _ _ _)
      | (with_reducible exact parallaxref1_Strings.mono _ _ _)
      | (with_reducible exact LeO.refl _)
      | (with_reducible exact LeO.none _)
      | (with_reducible refine LeO.ite ?_ ?_)
      | (with_reducible refine LeO.bind ?_ (fun _ => ?_))
      | exact ih0 _ _ _ _ _
      | exact hop_Strip.mono _ _
      | exact parallaxhelp_Fields.mono _ _
      | exact parallaxlaw18_known.mono _
      | exact parallaxref17_Strip.mono _ _
      | exact parallaxref1_Fields.mono _ _ _
      | exact parallaxref1_Strings.mono _ _ _
      | exact LeO.none _
      | refine LeO.ite ?_ ?_
      | refine LeO.bind ?_ (fun _ => ?_)
theorem parallaxlaw18_HopTells.mono : ∀ a0 a1 a2 a3 k, LeO (parallaxlaw18_HopTells.f k a0 a1 a2 a3) (parallaxlaw18_HopTells.f (k + 1) a0 a1 a2 a3) := by
  intro a0 a1 a2 a3 k
  have ih0 := parallaxlaw18_HopTells.mono_l k
  unfold parallaxlaw18_HopTells.f
  repeat' first
      | (with_reducible exact ih0 _ _ _ _ _)
      | (with_reducible exact hop_Strip.mono _ _)
      | (with_reducible exact parallaxhelp_Fields.mono _ _)
      | (with_reducible exact parallaxlaw18_known.mono _)
      | (with_reducible exact parallaxref17_Strip.mono _ _)
      | (with_reducible exact parallaxref1_Fields.mono _ _ _)
      | (with_reducible exact parallaxref1_Strings.mono _ _ _)
      | (with_reducible exact LeO.refl _)
      | (with_reducible exact LeO.none _)
      | (with_reducible refine LeO.ite ?_ ?_)
      | (with_reducible refine LeO.bind ?_ (fun _ => ?_))
      | exact ih0 _ _ _ _ _
      | exact hop_Strip.mono _ _
      | exact parallaxhelp_Fields.mono _ _
      | exact parallaxlaw18_known.mono _
      | exact parallaxref17_Strip.mono _ _
      | exact parallaxref1_Fields.mono _ _ _
      | exact parallaxref1_Strings.mono _ _ _
      | exact LeO.none _
      | refine LeO.ite ?_ ?_
      | refine LeO.bind ?_ (fun _ => ?_)
def parallaxlaw18_HopTells.T9 : Bool × List (List Nat × List Nat) := (true, [([], []), ([], []), ([1], [1]), ([], []), ([], []), ([3, 4], [3, 4]), ([5], [5]), ([6], [6]), ([2, 7], [2, 7]), ([8], [8]), ([], []), ([10], [10]), ([], []), ([], []), ([12, 13], [12, 13]), ([14], [14]), ([15], [15]), ([16], [16]), ([11, 17], [11, 17]), ([18], [18]), ([9, 19], [9, 19]), ([20], [20]), ([0, 21], [0, 21]), ([22, 22, 0, 1, 2, 3, 4, 5, 6, 7, 8, 9, 10, 11, 12, 13, 14, 15, 16, 17, 18, 19, 20, 21, 22], [0, 22])])
def parallaxlaw18_HopTells.B9 : List Nat := [0, 0, 2, 0, 0, 24, 56, 120, 254, 510, 0, 1024, 0, 0, 12288, 28672, 61440, 126976, 261120, 523264, 1048574, 2097150, 4194303, 8388607]
theorem parallaxlaw18_HopTells.tab9 : rtab .any (opsOf Tryd.f3 9) = parallaxlaw18_HopTells.T9 := by kernel_rfl
theorem parallaxlaw18_HopTells.bits9 : waitsOk parallaxlaw18_HopTells.T9.2 parallaxlaw18_HopTells.B9 = true := by kernel_rfl
set_option maxHeartbeats 8000000 in
set_option maxRecDepth 100000 in
theorem parallaxlaw18_HopTells.calls (k : Nat) (A0 : Option Addr) (c0 : Nat) (l0 : List (S28)) (A1 : Option Addr) (c1 : Nat) (l1 : List Int) (a2 : ByteArray) (a3 : ByteArray) (r : Bool) (w : World) (hr0 : Kd.C k28 w A0 l0.length l0) (hc0 : l0.length ≤ c0) (hr1 : Kd.C (Kd.int .u8) w A1 l1.length l1) (hc1 : l1.length ≤ c1) (hT : r = true) (hL : Laid.LaidX w) (h : parallaxlaw18_HopTells.f k l0 l1 a2 a3 = some r) :
    Calls Tryd.prog 3 #[.slice A0 l0.length c0, .slice A1 l1.length c1, .string a2, .string a3] w fun e w' => e = .returned (.bool r) ∧ Below w.heap.size w w' := by
  have hu28 := Tryd.underlying28
  have HT := Aside0.mk hT
  clear hT
  have HR0 := Aside0.mk hr0
  have HC0 := Aside0.mk hc0
  clear hr0 hc0
  have HR1 := Aside0.mk hr1
  have HC1 := Aside0.mk hc1
  clear hr1 hc1
  have HB := Aside0.mk (Below.refl w.heap.size w)
  have HLX := Aside0.mk hL
  clear hL
  have H : ((parallaxlaw18_known.f k).bind fun t250 => (if t250 = true then ((parallaxhelp_Fields.f k l0).bind fun t251 => (if t251 = true then (if (l1.length : Int) > 16 then (some true) else (if (a2.size : Int) > 40 then (some true) else (if (a3.size : Int) > 40 then (some true) else (if ([] : List (S28)).length + l0.length < 4398046511104 then (parallaxlaw18_HopTells.l0 k l1 a2 a3 (([] : List (S28)) ++ l0) 0) else (none))))) else (some true))) else (some false))) = some r := h
  clear h
  replace H := Option.bind_eq_some_iff.mp H
  obtain ⟨t250, A50, H⟩ := H
  (try dsimp only at H)
  have A5 := Aside0.mk A50
  clear A50
  by_cases c6 : t250 = true
  · subst c6
    rw [if_pos rfl] at H
    replace H := Option.bind_eq_some_iff.mp H
    obtain ⟨t251, A70, H⟩ := H
    (try dsimp only at H)
    have A7 := Aside0.mk A70
    clear A70
    by_cases c8 : t251 = true
    · subst c8
      rw [if_pos rfl] at H
      by_cases c9 : (l1.length : Int) > 16
      · rw [if_pos c9] at H
        have c9b0 : decide (16 < (l1.length : Int)) = true := decide_eq_true c9
        have c9b1 : decide (16 < l1.length) = true := decide_eq_true (by omega)
        clear c9
        obtain rfl := Option.some.inj H
        go_enter Tryd.func3, Tryd.ntmps3
        go_wp2_with (first | ((with_reducible refine gate_callee (f := 6) rfl ?_); refine goesL_ (some 12) rfl rfl Tryd.func6 (by kernel_rfl) rfl #[] rfl (by (try simp only [List.map_toArray, List.map_cons, List.map_nil]); first | done | rfl | (simp only [List.length_drop, List.length_take]; rfl)) ?_; (with_reducible refine (parallaxlaw18_known.calls k  true _ rfl ?side1 A5.out).mono ?_); (case side1 => exact Laid.below HLX.out (by repeat (first | (with_reducible first | exact HB.out | apply below_alloc | apply pw_below_drewN | apply below_drew1) | exact HB.out))); rintro e w10 ⟨rfl, hb⟩; refine ⟨_, rfl, ?_⟩; have n0_ := Aside0.mk (below_step (by repeat (first | (with_reducible first | exact HB.out | apply below_alloc | apply pw_below_drewN | apply below_drew1) | exact HB.out)) hb); clear HB; have HB := n0_; clear n0_; (try clear hb); (try clear hb2); (try clear hk); (try clear hi)) | ((with_reducible refine gate_callee (f := 7) rfl ?_); refine goesL_ (some 15) rfl rfl Tryd.func7 (by kernel_rfl) rfl #[.slice A0 l0.length c0] rfl (by (try simp only [List.map_toArray, List.map_cons, List.map_nil]); first | done | rfl | (simp only [List.length_drop, List.length_take]; rfl)) ?_; (with_reducible refine (parallaxhelp_Fields.calls k _ _ l0 true _ ?side1 ?side2 A7.out).mono ?_); (case side1 => repeat (first | exact (Kd.C_below HR0.out HB.out) | (with_reducible refine Kd.C_alloc ?_ _) | (with_reducible refine Kd.C_drewN ?_ _) | (with_reducible refine Kd.C_drew ?_))); (case side2 => exact HC0.out); rintro e w' ⟨rfl, ⟨nd, rfl⟩⟩; refine ⟨_, rfl, ?_⟩) | (go_at_call 6; (with_reducible refine (parallaxlaw18_known.calls k  true _ rfl ?side1 A5.out).mono ?_); (case side1 => exact Laid.below HLX.out (by repeat (first | (with_reducible first | exact HB.out | apply below_alloc | apply pw_below_drewN | apply below_drew1) | exact HB.out))); rintro e w10 ⟨rfl, hb⟩; have n0_ := Aside0.mk (below_step (by repeat (first | (with_reducible first | exact HB.out | apply below_alloc | apply pw_below_drewN | apply below_drew1) | exact HB.out)) hb); clear HB; have HB := n0_; clear n0_; (try clear hb); (try clear hb2); (try clear hk); (try clear hi)) | (go_at_call 7; (with_reducible refine (parallaxhelp_Fields.calls k _ _ l0 true _ ?side1 ?side2 A7.out).mono ?_); (case side1 => repeat (first | exact (Kd.C_below HR0.out HB.out) | (with_reducible refine Kd.C_alloc ?_ _) | (with_reducible refine Kd.C_drewN ?_ _) | (with_reducible refine Kd.C_drew ?_))); (case side2 => exact HC0.out); rintro e w' ⟨rfl, ⟨nd, rfl⟩⟩))
        go_ret
        exact ⟨by first | rfl | (simp [errW_none, errW_some] <;> rfl) | (simp [*, errW_none, errW_some] <;> rfl), by repeat (first | (with_reducible first | exact HB.out | apply below_alloc | apply pw_below_drewN | apply below_drew1) | exact HB.out)⟩
      · rw [if_neg c9] at H
        have c9b0 : decide (16 < (l1.length : Int)) = false := decide_eq_false c9
        have c9b1 : decide (16 < l1.length) = false := decide_eq_false (by omega)
        clear c9
        by_cases c11 : (a2.size : Int) > 40
        · rw [if_pos c11] at H
          have c11b0 : decide (40 < (a2.size : Int)) = true := decide_eq_true c11
          have c11b1 : decide (40 < a2.size) = true := decide_eq_true (by omega)
          clear c11
          obtain rfl := Option.some.inj H
          go_enter Tryd.func3, Tryd.ntmps3
          go_wp2_with (first | ((with_reducible refine gate_callee (f := 6) rfl ?_); refine goesL_ (some 12) rfl rfl Tryd.func6 (by kernel_rfl) rfl #[] rfl (by (try simp only [List.map_toArray, List.map_cons, List.map_nil]); first | done | rfl | (simp only [List.length_drop, List.length_take]; rfl)) ?_; (with_reducible refine (parallaxlaw18_known.calls k  true _ rfl ?side1 A5.out).mono ?_); (case side1 => exact Laid.below HLX.out (by repeat (first | (with_reducible first | exact HB.out | apply below_alloc | apply pw_below_drewN | apply below_drew1) | exact HB.out))); rintro e w12 ⟨rfl, hb⟩; refine ⟨_, rfl, ?_⟩; have n0_ := Aside0.mk (below_step (by repeat (first | (with_reducible first | exact HB.out | apply below_alloc | apply pw_below_drewN | apply below_drew1) | exact HB.out)) hb); clear HB; have HB := n0_; clear n0_; (try clear hb); (try clear hb2); (try clear hk); (try clear hi)) | ((with_reducible refine gate_callee (f := 7) rfl ?_); refine goesL_ (some 15) rfl rfl Tryd.func7 (by kernel_rfl) rfl #[.slice A0 l0.length c0] rfl (by (try simp only [List.map_toArray, List.map_cons, List.map_nil]); first | done | rfl | (simp only [List.length_drop, List.length_take]; rfl)) ?_; (with_reducible refine (parallaxhelp_Fields.calls k _ _ l0 true _ ?side1 ?side2 A7.out).mono ?_); (case side1 => repeat (first | exact (Kd.C_below HR0.out HB.out) | (with_reducible refine Kd.C_alloc ?_ _) | (with_reducible refine Kd.C_drewN ?_ _) | (with_reducible refine Kd.C_drew ?_))); (case side2 => exact HC0.out); rintro e w' ⟨rfl, ⟨nd, rfl⟩⟩; refine ⟨_, rfl, ?_⟩) | (go_at_call 6; (with_reducible refine (parallaxlaw18_known.calls k  true _ rfl ?side1 A5.out).mono ?_); (case side1 => exact Laid.below HLX.out (by repeat (first | (with_reducible first | exact HB.out | apply below_alloc | apply pw_below_drewN | apply below_drew1) | exact HB.out))); rintro e w12 ⟨rfl, hb⟩; have n0_ := Aside0.mk (below_step (by repeat (first | (with_reducible first | exact HB.out | apply below_alloc | apply pw_below_drewN | apply below_drew1) | exact HB.out)) hb); clear HB; have HB := n0_; clear n0_; (try clear hb); (try clear hb2); (try clear hk); (try clear hi)) | (go_at_call 7; (with_reducible refine (parallaxhelp_Fields.calls k _ _ l0 true _ ?side1 ?side2 A7.out).mono ?_); (case side1 => repeat (first | exact (Kd.C_below HR0.out HB.out) | (with_reducible refine Kd.C_alloc ?_ _) | (with_reducible refine Kd.C_drewN ?_ _) | (with_reducible refine Kd.C_drew ?_))); (case side2 => exact HC0.out); rintro e w' ⟨rfl, ⟨nd, rfl⟩⟩))
          go_ret
          exact ⟨by first | rfl | (simp [errW_none, errW_some] <;> rfl) | (simp [*, errW_none, errW_some] <;> rfl), by repeat (first | (with_reducible first | exact HB.out | apply below_alloc | apply pw_below_drewN | apply below_drew1) | exact HB.out)⟩
        · rw [if_neg c11] at H
          have c11b0 : decide (40 < (a2.size : Int)) = false := decide_eq_false c11
          have c11b1 : decide (40 < a2.size) = false := decide_eq_false (by omega)
          clear c11
          by_cases c13 : (a3.size : Int) > 40
          · rw [if_pos c13] at H
            have c13b0 : decide (40 < (a3.size : Int)) = true := decide_eq_true c13
            have c13b1 : decide (40 < a3.size) = true := decide_eq_true (by omega)
            clear c13
            obtain rfl := Option.some.inj H
            go_enter Tryd.func3, Tryd.ntmps3
            go_wp2_with (first | ((with_reducible refine gate_callee (f := 6) rfl ?_); refine goesL_ (some 12) rfl rfl Tryd.func6 (by kernel_rfl) rfl #[] rfl (by (try simp only [List.map_toArray, List.map_cons, List.map_nil]); first | done | rfl | (simp only [List.length_drop, List.length_take]; rfl)) ?_; (with_reducible refine (parallaxlaw18_known.calls k  true _ rfl ?side1 A5.out).mono ?_); (case side1 => exact Laid.below HLX.out (by repeat (first | (with_reducible first | exact HB.out | apply below_alloc | apply pw_below_drewN | apply below_drew1) | exact HB.out))); rintro e w14 ⟨rfl, hb⟩; refine ⟨_, rfl, ?_⟩; have n0_ := Aside0.mk (below_step (by repeat (first | (with_reducible first | exact HB.out | apply below_alloc | apply pw_below_drewN | apply below_drew1) | exact HB.out)) hb); clear HB; have HB := n0_; clear n0_; (try clear hb); (try clear hb2); (try clear hk); (try clear hi)) | ((with_reducible refine gate_callee (f := 7) rfl ?_); refine goesL_ (some 15) rfl rfl Tryd.func7 (by kernel_rfl) rfl #[.slice A0 l0.length c0] rfl (by (try simp only [List.map_toArray, List.map_cons, List.map_nil]); first | done | rfl | (simp only [List.length_drop, List.length_take]; rfl)) ?_; (with_reducible refine (parallaxhelp_Fields.calls k _ _ l0 true _ ?side1 ?side2 A7.out).mono ?_); (case side1 => repeat (first | exact (Kd.C_below HR0.out HB.out) | (with_reducible refine Kd.C_alloc ?_ _) | (with_reducible refine Kd.C_drewN ?_ _) | (with_reducible refine Kd.C_drew ?_))); (case side2 => exact HC0.out); rintro e w' ⟨rfl, ⟨nd, rfl⟩⟩; refine ⟨_, rfl, ?_⟩) | (go_at_call 6; (with_reducible refine (parallaxlaw18_known.calls k  true _ rfl ?side1 A5.out).mono ?_); (case side1 => exact Laid.below HLX.out (by repeat (first | (with_reducible first | exact HB.out | apply below_alloc | apply pw_below_drewN | apply below_drew1) | exact HB.out))); rintro e w14 ⟨rfl, hb⟩; have n0_ := Aside0.mk (below_step (by repeat (first | (with_reducible first | exact HB.out | apply below_alloc | apply pw_below_drewN | apply below_drew1) | exact HB.out)) hb); clear HB; have HB := n0_; clear n0_; (try clear hb); (try clear hb2); (try clear hk); (try clear hi)) | (go_at_call 7; (with_reducible refine (parallaxhelp_Fields.calls k _ _ l0 true _ ?side1 ?side2 A7.out).mono ?_); (case side1 => repeat (first | exact (Kd.C_below HR0.out HB.out) | (with_reducible refine Kd.C_alloc ?_ _) | (with_reducible refine Kd.C_drewN ?_ _) | (with_reducible refine Kd.C_drew ?_))); (case side2 => exact HC0.out); rintro e w' ⟨rfl, ⟨nd, rfl⟩⟩))
            go_ret
            exact ⟨by first | rfl | (simp [errW_none, errW_some] <;> rfl) | (simp [*, errW_none, errW_some] <;> rfl), by repeat (first | (with_reducible first | exact HB.out | apply below_alloc | apply pw_below_drewN | apply below_drew1) | exact HB.out)⟩
          · rw [if_neg c13] at H
            have c13b0 : decide (40 < (a3.size : Int)) = false := decide_eq_false c13
            have c13b1 : decide (40 < a3.size) = false := decide_eq_false (by omega)
            clear c13
            by_cases c15 : ([] : List (S28)).length + l0.length < 4398046511104
            · rw [if_pos c15] at H
              have LMc15 := Aside0.mk c15
              clear c15
              obtain ⟨y252, hy252⟩ : ∃ y_ : List (S28), y_ = (([] : List (S28)) ++ l0) := ⟨_, rfl⟩
              replace H : (parallaxlaw18_HopTells.l0 k l1 a2 a3 y252 0) = some r := by first | (rw [hy252]; with_reducible exact H) | (have H2_ := (Option.bind_some _ _).symm.trans H; rw [hy252]; with_reducible exact H2_) | (have H2_ := (Option.bind_some _ _).symm.trans H; with_reducible exact H2_) | with_reducible exact H | (rw [hy252]; exact H) | exact H
              have Ny252 := Aside0.mk hy252
              clear hy252
              have H' := Aside0.mk H
              clear H
              go_enter Tryd.func3, Tryd.ntmps3
              go_wp2_with (first | ((with_reducible refine gate_callee (f := 6) rfl ?_); refine goesL_ (some 12) rfl rfl Tryd.func6 (by kernel_rfl) rfl #[] rfl (by (try simp only [List.map_toArray, List.map_cons, List.map_nil]); first | done | rfl | (simp only [List.length_drop, List.length_take]; rfl)) ?_; (with_reducible refine (parallaxlaw18_known.calls k  true _ rfl ?side1 A5.out).mono ?_); (case side1 => exact Laid.below HLX.out (by repeat (first | (with_reducible first | exact HB.out | apply below_alloc | apply pw_below_drewN | apply below_drew1) | exact HB.out))); rintro e w16 ⟨rfl, hb⟩; refine ⟨_, rfl, ?_⟩; have n0_ := Aside0.mk (below_step (by repeat (first | (with_reducible first | exact HB.out | apply below_alloc | apply pw_below_drewN | apply below_drew1) | exact HB.out)) hb); clear HB; have HB := n0_; clear n0_; (try clear hb); (try clear hb2); (try clear hk); (try clear hi)) | ((with_reducible refine gate_callee (f := 7) rfl ?_); refine goesL_ (some 15) rfl rfl Tryd.func7 (by kernel_rfl) rfl #[.slice A0 l0.length c0] rfl (by (try simp only [List.map_toArray, List.map_cons, List.map_nil]); first | done | rfl | (simp only [List.length_drop, List.length_take]; rfl)) ?_; (with_reducible refine (parallaxhelp_Fields.calls k _ _ l0 true _ ?side1 ?side2 A7.out).mono ?_); (case side1 => repeat (first | exact (Kd.C_below HR0.out HB.out) | (with_reducible refine Kd.C_alloc ?_ _) | (with_reducible refine Kd.C_drewN ?_ _) | (with_reducible refine Kd.C_drew ?_))); (case side2 => exact HC0.out); rintro e w' ⟨rfl, ⟨nd, rfl⟩⟩; refine ⟨_, rfl, ?_⟩) | ((with_reducible refine gate_builtin (b := .append) (xs := #[.const (.slice none 0 0), .tmp 32]) rfl ?_); (try (refine gate_guard (by rfl) ?_; dsimp only)); at_builtin; refine Kd.R_append_rows k28 (w0 := w) w.heap.size rfl (.const (.slice none 0 0)) (.tmp 32) 22 28 (.agg #[(.string ⟨#[]⟩), (.string ⟨#[]⟩)]) 32 rfl Tryd.underlying22 info28 rfl (by decide) (by omega) (.slice none 0 0) ([] : List (S28)) l0 _ _ _ (fun _ => True) (fun _ => False) rfl rfl ?aO ?aR (fun _ _ h => h) (fun _ h => h.elim) ?aF ?aB ?aS ?aL ?_; (case aR => repeat (first | exact (Kd.C_below HR0.out (by repeat (first | (with_reducible first | exact HB.out | apply below_alloc | apply pw_below_drewN | apply below_drew1) | exact HB.out))) | (with_reducible refine Kd.C_alloc ?_ _) | (with_reducible refine Kd.C_drewN ?_ _) | (with_reducible refine Kd.C_drew ?_))); (case aB => exact (by repeat (first | (with_reducible first | exact HB.out | apply below_alloc | apply pw_below_drewN | apply below_drew1) | exact HB.out))); (case aF => exact (fun _ _ => trivial)); (case aO => exact ((Kd.R_nil _ _ _ _ (fun _ => True)))); (case aS => exact (below_size (by repeat (first | (with_reducible first | exact HB.out | apply below_alloc | apply pw_below_drewN | apply below_drew1) | exact HB.out)))); (case aL => have := LMc15.out; omega); intro v253 w17 ho hb hg hat; rw [← Ny252.out] at ho; have n0_ := Aside0.mk (hb); have n1_ := Aside0.mk (ho); clear HB; have HB := n0_; have HO254 := n1_; clear n0_ n1_; clear ho hb hg hat) | (go_at_call 6; (with_reducible refine (parallaxlaw18_known.calls k  true _ rfl ?side1 A5.out).mono ?_); (case side1 => exact Laid.below HLX.out (by repeat (first | (with_reducible first | exact HB.out | apply below_alloc | apply pw_below_drewN | apply below_drew1) | exact HB.out))); rintro e w16 ⟨rfl, hb⟩; have n0_ := Aside0.mk (below_step (by repeat (first | (with_reducible first | exact HB.out | apply below_alloc | apply pw_below_drewN | apply below_drew1) | exact HB.out)) hb); clear HB; have HB := n0_; clear n0_; (try clear hb); (try clear hb2); (try clear hk); (try clear hi)) | (go_at_call 7; (with_reducible refine (parallaxhelp_Fields.calls k _ _ l0 true _ ?side1 ?side2 A7.out).mono ?_); (case side1 => repeat (first | exact (Kd.C_below HR0.out HB.out) | (with_reducible refine Kd.C_alloc ?_ _) | (with_reducible refine Kd.C_drewN ?_ _) | (with_reducible refine Kd.C_drew ?_))); (case side2 => exact HC0.out); rintro e w' ⟨rfl, ⟨nd, rfl⟩⟩))
              go_loopg [9, 10] k (fun kq v9 v10 w' => ∃ (x9_1 : List (S28)) (x10_1 : Int), v10 = .int .i64 x10_1 ∧ Aside0 (parallaxlaw18_HopTells.l0 kq l1 a2 a3 x9_1 x10_1 = some r) ∧ Aside0 (kq ≤ k) ∧ Aside0 (Kd.R k28 28 w' w.heap.size (fun _ => True) v9 x9_1) ∧ Aside0 (Below w.heap.size w w'))
              case atStart => exact ⟨(y252), (0), (by first | rfl | (simp; done) | (simp [*]; done)), H', ⟨Nat.le_refl _⟩, ⟨by (with_reducible repeat (first | apply Kd.R_alloc | apply Kd.R_drewN | apply Kd.R_drew)); exact HO254.out⟩, ⟨by repeat (first | (with_reducible first | exact HB.out | apply below_alloc | apply pw_below_drewN | apply below_drew1) | exact HB.out)⟩⟩
              case round =>
                clear H'
                try clear c1
                try clear p2
                try clear c3
                try clear c6
                try clear c7
                try clear c8
                try clear c9
                try clear c9b0
                try clear c9b1
                try clear c11
                try clear c11b0
                try clear c11b1
                try clear c13
                try clear c13b0
                try clear c13b1
                try clear c15
                obtain ⟨x9_1, x10_1, rfl, HA, HK1, HO_9, HB⟩ := hrel
                cases gk with
                | zero => exact absurd HA.out (by simp [parallaxlaw18_HopTells.l0])
                | succ k1 =>
                  have H := HA.out
                  clear HA
                  simp only [parallaxlaw18_HopTells.l0] at H
                  by_cases c18 : x10_1 < (l1.length : Int)
                  · rw [if_pos c18] at H
                    have c18b0 : decide (x10_1 < (l1.length : Int)) = true := decide_eq_true c18
                    clear c18
                    obtain ⟨y255, hy255⟩ : ∃ y_ : List ByteArray, y_ = (([(⟨#[67, 111, 110, 110, 101, 99, 116, 105, 111, 110]⟩ : ByteArray), (⟨#[88]⟩ : ByteArray), (⟨#[72, 111, 115, 116]⟩ : ByteArray), (⟨#[85, 112, 103, 114, 97, 100, 101]⟩ : ByteArray), (⟨#[107, 101, 101, 112, 45, 97, 108, 105, 118, 101]⟩ : ByteArray), (⟨#[65]⟩ : ByteArray), (⟨#[67, 111, 110, 116, 101, 110, 116, 45, 76, 101, 110, 103, 116, 104]⟩ : ByteArray), (⟨#[84, 114, 97, 105, 108, 101, 114]⟩ : ByteArray), a2] : List ByteArray)) := ⟨_, rfl⟩
                    replace H : (if 0 ≤ x10_1 then (if 0 ≤ (Int.tmod (rd l1 x10_1) 9) then (if (Int.tmod (rd l1 x10_1) 9) < (y255.length : Int) then ((some (([(⟨#[120]⟩ : ByteArray), (⟨#[97, 44, 32, 99, 108, 111, 115, 101]⟩ : ByteArray), (⟨#[99, 111, 110, 116, 101, 110, 116, 45, 108, 101, 110, 103, 116, 104, 44, 32, 72, 79, 83, 84]⟩ : ByteArray), (⟨#[49]⟩ : ByteArray), (⟨#[]⟩ : ByteArray), a2] : List ByteArray) : List ByteArray)).bind fun y260 => (if 0 ≤ (((Int.tdiv (rd l1 x10_1) 9) % 256) % 6) then (if (((Int.tdiv (rd l1 x10_1) 9) % 256) % 6) < (y260.length : Int) then (if x9_1.length < 4398046511104 then (parallaxlaw18_HopTells.l0 k1 l1 a2 a3 (x9_1 ++ [(⟨rdOf ByteArray.empty y255 (Int.tmod (rd l1 x10_1) 9), rdOf ByteArray.empty y260 (((Int.tdiv (rd l1 x10_1) 9) % 256) % 6)⟩ : S28)]) (wrap64 (x10_1 + 1))) else (none)) else (none)) else (none))) else (none)) else (none)) else (none)) = some r := by first | (rw [hy255]; with_reducible exact H) | (have H2_ := (Option.bind_some _ _).symm.trans H; rw [hy255]; with_reducible exact H2_) | (have H2_ := (Option.bind_some _ _).symm.trans H; with_reducible exact H2_) | with_reducible exact H | (rw [hy255]; exact H) | exact H
                    have Ny255 := Aside0.mk hy255
                    clear hy255
                    by_cases c19 : 0 ≤ x10_1
                    · rw [if_pos c19] at H
                      have c19b0 : decide (0 ≤ x10_1) = true := decide_eq_true c19
                      clear c19
                      obtain ⟨ji20, hji20⟩ : ∃ j_ : Int, (Int.tmod (rd l1 x10_1) 9) = j_ := ⟨_, rfl⟩
                      replace H : (if 0 ≤ (ji20) then (if (ji20) < (y255.length : Int) then ((some (([(⟨#[120]⟩ : ByteArray), (⟨#[97, 44, 32, 99, 108, 111, 115, 101]⟩ : ByteArray), (⟨#[99, 111, 110, 116, 101, 110, 116, 45, 108, 101, 110, 103, 116, 104, 44, 32, 72, 79, 83, 84]⟩ : ByteArray), (⟨#[49]⟩ : ByteArray), (⟨#[]⟩ : ByteArray), a2] : List ByteArray) : List ByteArray)).bind fun y260 => (if 0 ≤ (((Int.tdiv (rd l1 x10_1) 9) % 256) % 6) then (if (((Int.tdiv (rd l1 x10_1) 9) % 256) % 6) < (y260.length : Int) then (if x9_1.length < 4398046511104 then (parallaxlaw18_HopTells.l0 k1 l1 a2 a3 (x9_1 ++ [(⟨rdOf ByteArray.empty y255 (ji20), rdOf ByteArray.empty y260 (((Int.tdiv (rd l1 x10_1) 9) % 256) % 6)⟩ : S28)]) (wrap64 (x10_1 + 1))) else (none)) else (none)) else (none))) else (none)) else (none)) = some r := by first | (rw [hji20] at H; exact H) | (simp only [hji20] at H ⊢; exact H)
                      by_cases c21 : 0 ≤ (ji20)
                      · rw [if_pos c21] at H
                        have c21b0 : decide (0 ≤ (ji20)) = true := decide_eq_true c21
                        clear c21
                        by_cases c22 : (ji20) < (y255.length : Int)
                        · rw [if_pos c22] at H
                          have c22b0 : decide ((ji20) < (y255.length : Int)) = true := decide_eq_true c22
                          clear c22
                          obtain ⟨y260, hy260⟩ : ∃ y_ : List ByteArray, y_ = (([(⟨#[120]⟩ : ByteArray), (⟨#[97, 44, 32, 99, 108, 111, 115, 101]⟩ : ByteArray), (⟨#[99, 111, 110, 116, 101, 110, 116, 45, 108, 101, 110, 103, 116, 104, 44, 32, 72, 79, 83, 84]⟩ : ByteArray), (⟨#[49]⟩ : ByteArray), (⟨#[]⟩ : ByteArray), a2] : List ByteArray)) := ⟨_, rfl⟩
                          replace H : (if 0 ≤ (((Int.tdiv (rd l1 x10_1) 9) % 256) % 6) then (if (((Int.tdiv (rd l1 x10_1) 9) % 256) % 6) < (y260.length : Int) then (if x9_1.length < 4398046511104 then (parallaxlaw18_HopTells.l0 k1 l1 a2 a3 (x9_1 ++ [(⟨rdOf ByteArray.empty y255 (ji20), rdOf ByteArray.empty y260 (((Int.tdiv (rd l1 x10_1) 9) % 256) % 6)⟩ : S28)]) (wrap64 (x10_1 + 1))) else (none)) else (none)) else (none)) = some r := by first | (rw [hy260]; with_reducible exact H) | (have H2_ := (Option.bind_some _ _).symm.trans H; rw [hy260]; with_reducible exact H2_) | (have H2_ := (Option.bind_some _ _).symm.trans H; with_reducible exact H2_) | with_reducible exact H | (rw [hy260]; exact H) | exact H
                          have Ny260 := Aside0.mk hy260
                          clear hy260
                          obtain ⟨ji23, hji23⟩ : ∃ j_ : Int, (((Int.tdiv (rd l1 x10_1) 9) % 256) % 6) = j_ := ⟨_, rfl⟩
                          have hji23w : (IntKind.u8.wrap (Int.tdiv (rd l1 x10_1) 9)).tmod 6 = ji23 := by rw [← hji23, IntKind.wrap_u8, Int.tmod_eq_emod_of_nonneg (by omega)]
                          replace H : (if 0 ≤ (ji23) then (if (ji23) < (y260.length : Int) then (if x9_1.length < 4398046511104 then (parallaxlaw18_HopTells.l0 k1 l1 a2 a3 (x9_1 ++ [(⟨rdOf ByteArray.empty y255 (ji20), rdOf ByteArray.empty y260 (ji23)⟩ : S28)]) (wrap64 (x10_1 + 1))) else (none)) else (none)) else (none)) = some r := by first | (rw [hji23] at H; exact H) | (simp only [hji23] at H ⊢; exact H)
                          by_cases c24 : 0 ≤ (ji23)
                          · rw [if_pos c24] at H
                            have c24b0 : decide (0 ≤ (ji23)) = true := decide_eq_true c24
                            clear c24
                            by_cases c25 : (ji23) < (y260.length : Int)
                            · rw [if_pos c25] at H
                              have c25b0 : decide ((ji23) < (y260.length : Int)) = true := decide_eq_true c25
                              clear c25
                              by_cases c26 : x9_1.length < 4398046511104
                              · rw [if_pos c26] at H
                                have LMc26 := Aside0.mk c26
                                clear c26
                                obtain ⟨y265, hy265⟩ : ∃ y_ : List (S28), y_ = (x9_1 ++ [(⟨rdOf ByteArray.empty y255 (ji20), rdOf ByteArray.empty y260 (ji23)⟩ : S28)]) := ⟨_, rfl⟩
                                replace H : (parallaxlaw18_HopTells.l0 k1 l1 a2 a3 y265 (wrap64 (x10_1 + 1))) = some r := by first | (rw [hy265]; with_reducible exact H) | (have H2_ := (Option.bind_some _ _).symm.trans H; rw [hy265]; with_reducible exact H2_) | (have H2_ := (Option.bind_some _ _).symm.trans H; with_reducible exact H2_) | with_reducible exact H | (rw [hy265]; exact H) | exact H
                                have Ny265 := Aside0.mk hy265
                                clear hy265
                                have H' := Aside0.mk H
                                clear H
                                obtain ⟨Ao27, co27, eo27⟩ := Kd.R_slice HO_9.out
                                subst eo27
                                try go_wp2
                                have pi259 : (0 ≤ ((ji20) : Int)) = True := eq_true (of_decide_eq_true (by first | (with_reducible assumption) | assumption))
                                have qi259 : ((ji20) < (y255.length : Int)) = True := eq_true (of_decide_eq_true (by first | (with_reducible assumption) | assumption))
                                have pi264 : (0 ≤ ((ji23) : Int)) = True := eq_true (of_decide_eq_true (by first | (with_reducible assumption) | assumption))
                                have qi264 : ((ji23) < (y260.length : Int)) = True := eq_true (of_decide_eq_true (by first | (with_reducible assumption) | assumption))
                                have n0_ := Aside0.mk (Kd.R_drew HO_9.out)
                                have n1_ := Aside0.mk (below_drew1 HB.out)
                                clear HO_9
                                clear HB
                                have HO_9 := n0_
                                have HB := n1_
                                clear n0_ n1_
                                have p258 : 0 ≤ (x10_1 : Int) := of_decide_eq_true (by first | (with_reducible assumption) | assumption)
                                have q258 : x10_1 < (l1.length : Int) := of_decide_eq_true (by first | (with_reducible assumption) | assumption)
                                obtain ⟨ad258, e258, hx258_0⟩ := Kd.at_int HR1.out x10_1 p258 q258
                                have hw258_0 := hx258_0
                                cases e258
                                replace hx258_0 := (HB.out.cell (World.block_lt_of_cell? w _ hx258_0)).trans hx258_0
                                replace p258 := eq_true p258
                                replace q258 := eq_true q258
                                have p263 : 0 ≤ (x10_1 : Int) := of_decide_eq_true (by first | (with_reducible assumption) | assumption)
                                have q263 : x10_1 < (l1.length : Int) := of_decide_eq_true (by first | (with_reducible assumption) | assumption)
                                obtain ⟨ad263, e263, hx263_0⟩ := Kd.at_int HR1.out x10_1 p263 q263
                                have hw263_0 := hx263_0
                                obtain rfl : ad258 = ad263 := (by injection e263)
                                replace hx263_0 := (HB.out.cell (World.block_lt_of_cell? w _ hx263_0)).trans hx263_0
                                replace p263 := eq_true p263
                                replace q263 := eq_true q263
                                refine start_ (n := 24) (S := fun w' => w'.cell? (ad258.add (x10_1).toNat) = some (.int .u8 (rd l1 x10_1)) ∧ w'.cell? (ad258.add (x10_1).toNat) = some (.int .u8 (rd l1 x10_1))) (ds := []) #[false, false, false, false, false, false, false, false, false, false, false, false, false, false, false, false, false, false, false, false, false, false, false, false] (by kernel_rfl) rfl rfl ⟨((HB.out.cell (World.block_lt_of_cell? w _ hw258_0)).trans hw258_0), ((HB.out.cell (World.block_lt_of_cell? w _ hw263_0)).trans hw263_0)⟩ (fun hHeld => ?_); refine with_tabW parallaxlaw18_HopTells.tab9 parallaxlaw18_HopTells.bits9 (fun HT_ HW_ => ?_)
                                generalize wr.drew = w28 at HO_9 HB hx258_0 hx263_0 hHeld ⊢
                                refine pure_ (i := 0) (N := some 40) (v := ?_) (a' := ?_) #[true, false, false, false, false, false, false, false, false, false, false, false, false, false, false, false, false, false, false, false, false, false, false, false] rfl rfl (any_of HT_.out (by kernel_rfl)) (fun _ _ _ h => h) (Or.inl ⟨by rfl, ?_⟩) ?_ ?_
                                rotate_left
                                · intro w'
                                  go_simp
                                  with_reducible rfl
                                rotate_left
                                · simp only [Act.put, List.setIfInBounds_toArray, List.set_cons_zero, List.set_cons_succ, i64_w, i32_w]
                                  rfl
                                refine pure_ (i := 1) (N := some 41) (v := ?_) (a' := ?_) #[true, true, false, false, false, false, false, false, false, false, false, false, false, false, false, false, false, false, false, false, false, false, false, false] rfl rfl (any_of HT_.out (by kernel_rfl)) (fun _ _ _ h => h) (Or.inl ⟨by rfl, ?_⟩) ?_ ?_
                                rotate_left
                                · intro w'
                                  go_simp
                                  with_reducible rfl
                                rotate_left
                                · simp only [Act.put, List.setIfInBounds_toArray, List.set_cons_zero, List.set_cons_succ, i64_w, i32_w]
                                  rfl
                                refine pure_ (i := 3) (N := some 43) (v := ?_) (a' := ?_) #[true, true, false, true, false, false, false, false, false, false, false, false, false, false, false, false, false, false, false, false, false, false, false, false] rfl rfl (any_of HT_.out (by kernel_rfl)) (fun _ _ _ h => h) (Or.inl ⟨by rfl, ?_⟩) ?_ ?_
                                rotate_left
                                · intro w'
                                  go_simp
                                  with_reducible rfl
                                rotate_left
                                · simp only [Act.put, List.setIfInBounds_toArray, List.set_cons_zero, List.set_cons_succ, i64_w, i32_w]
                                  rfl
                                refine pure_ (i := 4) (N := some 44) (v := ?_) (a' := ?_) #[true, true, false, true, true, false, false, false, false, false, false, false, false, false, false, false, false, false, false, false, false, false, false, false] rfl rfl (any_of HT_.out (by kernel_rfl)) (fun _ _ _ h => h) (Or.inl ⟨by rfl, ?_⟩) ?_ ?_
                                rotate_left
                                · intro w'
                                  go_simp
                                  with_reducible rfl
                                rotate_left
                                · simp only [Act.put, List.setIfInBounds_toArray, List.set_cons_zero, List.set_cons_succ, i64_w, i32_w]
                                  rfl
                                refine pure_ (i := 5) (N := some 45) (v := ?_) (a' := ?_) #[true, true, false, true, true, true, false, false, false, false, false, false, false, false, false, false, false, false, false, false, false, false, false, false] rfl rfl (any_of HT_.out (by kernel_rfl)) (fun _ _ _ h => h) (Or.inl ⟨by rfl, ?_⟩) ?_ ?_
                                rotate_left
                                · intro w'
                                  go_simp
                                  with_reducible rfl
                                rotate_left
                                · simp only [Act.put, List.setIfInBounds_toArray, List.set_cons_zero, List.set_cons_succ, i64_w, i32_w]
                                  rfl
                                refine pure_ (i := 10) (N := some 50) (v := ?_) (a' := ?_) #[true, true, false, true, true, true, false, false, false, false, true, false, false, false, false, false, false, false, false, false, false, false, false, false] rfl rfl (any_of HT_.out (by kernel_rfl)) (fun _ _ _ h => h) (Or.inl ⟨by rfl, ?_⟩) ?_ ?_
                                rotate_left
                                · intro w'
                                  go_simp
                                  with_reducible rfl
                                rotate_left
                                · simp only [Act.put, List.setIfInBounds_toArray, List.set_cons_zero, List.set_cons_succ, i64_w, i32_w]
                                  rfl
                                refine pure_ (i := 12) (N := some 52) (v := ?_) (a' := ?_) #[true, true, false, true, true, true, false, false, false, false, true, false, true, false, false, false, false, false, false, false, false, false, false, false] rfl rfl (any_of HT_.out (by kernel_rfl)) (fun _ _ _ h => h) (Or.inl ⟨by rfl, ?_⟩) ?_ ?_
                                rotate_left
                                · intro w'
                                  go_simp
                                  with_reducible rfl
                                rotate_left
                                · simp only [Act.put, List.setIfInBounds_toArray, List.set_cons_zero, List.set_cons_succ, i64_w, i32_w]
                                  rfl
                                refine pure_ (i := 13) (N := some 53) (v := ?_) (a' := ?_) #[true, true, false, true, true, true, false, false, false, false, true, false, true, true, false, false, false, false, false, false, false, false, false, false] rfl rfl (any_of HT_.out (by kernel_rfl)) (fun _ _ _ h => h) (Or.inl ⟨by rfl, ?_⟩) ?_ ?_
                                rotate_left
                                · intro w'
                                  go_simp
                                  with_reducible rfl
                                rotate_left
                                · simp only [Act.put, List.setIfInBounds_toArray, List.set_cons_zero, List.set_cons_succ, i64_w, i32_w]
                                  rfl
                                refine pure_ (i := 14) (N := some 54) (v := ?_) (a' := ?_) #[true, true, false, true, true, true, false, false, false, false, true, false, true, true, true, false, false, false, false, false, false, false, false, false] rfl rfl (any_of HT_.out (by kernel_rfl)) (fun _ _ _ h => h) (Or.inl ⟨by rfl, ?_⟩) ?_ ?_
                                rotate_left
                                · intro w'
                                  go_simp
                                  with_reducible rfl
                                rotate_left
                                · simp only [Act.put, List.setIfInBounds_toArray, List.set_cons_zero, List.set_cons_succ, i64_w, i32_w]
                                  rfl
                                refine take_ (i := 6) (N := some 46) (v := ?_) (a' := ?_) #[true, true, false, true, true, true, true, false, false, false, true, false, true, true, true, false, false, false, false, false, false, false, false, false] rfl rfl (take_ofW HT_.out HW_.out (by kernel_rfl)) (fun _ _ _ h => h) (Or.inl ⟨by rfl, ?_⟩) hHeld ?_ ?_
                                rotate_left
                                · rintro w' ⟨s0, s1⟩
                                  go_simp
                                  with_reducible rfl
                                rotate_left
                                · simp only [Act.put, List.setIfInBounds_toArray, List.set_cons_zero, List.set_cons_succ, i64_w, i32_w]
                                  rfl
                                refine pure_ (i := 7) (N := some 47) (v := ?_) (a' := ?_) #[true, true, false, true, true, true, true, true, false, false, true, false, true, true, true, false, false, false, false, false, false, false, false, false] rfl rfl (any_of HT_.out (by kernel_rfl)) (fun _ _ _ h => h) (Or.inl ⟨by rfl, ?_⟩) ?_ ?_
                                rotate_left
                                · intro w'
                                  go_simp
                                  with_reducible rfl
                                rotate_left
                                · simp only [Act.put, List.setIfInBounds_toArray, List.set_cons_zero, List.set_cons_succ, i64_w, i32_w]
                                  rfl
                                refine take_ (i := 15) (N := some 55) (v := ?_) (a' := ?_) #[true, true, false, true, true, true, true, true, false, false, true, false, true, true, true, true, false, false, false, false, false, false, false, false] rfl rfl (take_ofW HT_.out HW_.out (by kernel_rfl)) (fun _ _ _ h => h) (Or.inl ⟨by rfl, ?_⟩) hHeld ?_ ?_
                                rotate_left
                                · rintro w' ⟨s0, s1⟩
                                  go_simp
                                  with_reducible rfl
                                rotate_left
                                · simp only [Act.put, List.setIfInBounds_toArray, List.set_cons_zero, List.set_cons_succ, i64_w, i32_w]
                                  rfl
                                refine pure_ (i := 16) (N := some 56) (v := ?_) (a' := ?_) #[true, true, false, true, true, true, true, true, false, false, true, false, true, true, true, true, true, false, false, false, false, false, false, false] rfl rfl (any_of HT_.out (by kernel_rfl)) (fun _ _ _ h => h) (Or.inl ⟨by rfl, ?_⟩) ?_ ?_
                                rotate_left
                                · intro w'
                                  go_simp
                                  with_reducible rfl
                                rotate_left
                                · simp only [Act.put, List.setIfInBounds_toArray, List.set_cons_zero, List.set_cons_succ, i64_w, i32_w]
                                  rfl
                                refine pure_ (i := 17) (N := some 57) (v := ?_) (a' := ?_) #[true, true, false, true, true, true, true, true, false, false, true, false, true, true, true, true, true, true, false, false, false, false, false, false] rfl rfl (any_of HT_.out (by kernel_rfl)) (fun _ _ _ h => h) (Or.inl ⟨by rfl, ?_⟩) ?_ ?_
                                rotate_left
                                · intro w'
                                  go_simp
                                  with_reducible rfl
                                rotate_left
                                · simp only [Act.put, List.setIfInBounds_toArray, List.set_cons_zero, List.set_cons_succ, i64_w, i32_w]
                                  rfl
                                refine join_ (σ := Value × Addr × Value × Addr) 4 #[true, true, true, true, true, true, true, true, true, true, true, true, true, true, true, true, true, true, true, true, false, false, false, false] (fun s_ => [(42, s_.1), (49, .string (rdOf ByteArray.empty y255 (ji20))), (51, s_.2.2.1), (59, .string (rdOf ByteArray.empty y260 (ji23))), (48, .pointer (some (s_.2.1.add ((ji20)).toNat))), (58, .pointer (some (s_.2.2.2.add ((ji23)).toNat)))]) (fun s_ w' => (w'.cell? (ad258.add (x10_1).toNat) = some (.int .u8 (rd l1 x10_1)) ∧ w'.cell? (ad258.add (x10_1).toNat) = some (.int .u8 (rd l1 x10_1))) ∧ (Kd.R Kd.string 9 w' w.heap.size (fun k_ => some k_ ≠ (s_.2.2.1 : Value).ownBlock) s_.1 y255) ∧ (Kd.R Kd.string 9 w' w.heap.size (fun k_ => some k_ ≠ (s_.1 : Value).ownBlock) s_.2.2.1 y260) ∧ (Kd.R k28 28 w' w.heap.size (fun _ => True) (.slice Ao27 x9_1.length co27) x9_1) ∧ (∃ c_, (s_.1 : Value) = .slice (some s_.2.1) y255.length c_) ∧ (∃ c_, (s_.2.2.1 : Value) = .slice (some s_.2.2.2) y260.length c_) ∧ (Below w.heap.size w w')) ?_ ?_
                                rotate_left
                                · intro hJ2_9_11_19
                                  refine join_ (σ := Value × Addr × Value × Addr) 5 #[true, true, true, true, true, true, true, true, true, true, true, true, true, true, true, true, true, true, true, false, false, false, false, false] (fun s_ => [(42, s_.1), (49, .string (rdOf ByteArray.empty y255 (ji20))), (51, s_.2.2.1), (48, .pointer (some (s_.2.1.add ((ji20)).toNat))), (58, .pointer (some (s_.2.2.2.add ((ji23)).toNat)))]) (fun s_ w' => (w'.cell? (ad258.add (x10_1).toNat) = some (.int .u8 (rd l1 x10_1)) ∧ w'.cell? (ad258.add (x10_1).toNat) = some (.int .u8 (rd l1 x10_1))) ∧ (Kd.R Kd.string 9 w' w.heap.size (fun k_ => some k_ ≠ (s_.2.2.1 : Value).ownBlock) s_.1 y255) ∧ (Kd.R Kd.string 9 w' w.heap.size (fun k_ => some k_ ≠ (s_.1 : Value).ownBlock) s_.2.2.1 y260) ∧ (Kd.R k28 28 w' w.heap.size (fun _ => True) (.slice Ao27 x9_1.length co27) x9_1) ∧ (∃ c_, (s_.1 : Value) = .slice (some s_.2.1) y255.length c_) ∧ (∃ c_, (s_.2.2.1 : Value) = .slice (some s_.2.2.2) y260.length c_) ∧ (Below w.heap.size w w')) ?_ ?_
                                  rotate_left
                                  · intro hJ2_9_11
                                    refine join_ (σ := Value × Addr × Value × Addr) 5 #[true, true, true, true, true, true, true, true, true, false, true, true, true, true, true, true, true, true, true, true, false, false, false, false] (fun s_ => [(42, s_.1), (51, s_.2.2.1), (59, .string (rdOf ByteArray.empty y260 (ji23))), (48, .pointer (some (s_.2.1.add ((ji20)).toNat))), (58, .pointer (some (s_.2.2.2.add ((ji23)).toNat)))]) (fun s_ w' => (w'.cell? (ad258.add (x10_1).toNat) = some (.int .u8 (rd l1 x10_1)) ∧ w'.cell? (ad258.add (x10_1).toNat) = some (.int .u8 (rd l1 x10_1))) ∧ (Kd.R Kd.string 9 w' w.heap.size (fun k_ => some k_ ≠ (s_.2.2.1 : Value).ownBlock) s_.1 y255) ∧ (Kd.R Kd.string 9 w' w.heap.size (fun k_ => some k_ ≠ (s_.1 : Value).ownBlock) s_.2.2.1 y260) ∧ (Kd.R k28 28 w' w.heap.size (fun _ => True) (.slice Ao27 x9_1.length co27) x9_1) ∧ (∃ c_, (s_.1 : Value) = .slice (some s_.2.1) y255.length c_) ∧ (∃ c_, (s_.2.2.1 : Value) = .slice (some s_.2.2.2) y260.length c_) ∧ (Below w.heap.size w w')) ?_ ?_
                                    rotate_left
                                    · intro hJ2_11_19
                                      refine join_ (σ := Value × Addr) 7 #[true, true, true, true, true, true, true, true, true, true, true, false, true, true, true, true, true, true, false, false, false, false, false, false] (fun s_ => [(42, s_.1), (49, .string (rdOf ByteArray.empty y255 (ji20))), (48, .pointer (some (s_.2.add ((ji20)).toNat)))]) (fun s_ w' => (w'.cell? (ad258.add (x10_1).toNat) = some (.int .u8 (rd l1 x10_1)) ∧ w'.cell? (ad258.add (x10_1).toNat) = some (.int .u8 (rd l1 x10_1))) ∧ (Kd.R Kd.string 9 w' w.heap.size (fun _ => True) s_.1 y255) ∧ (Kd.R k28 28 w' w.heap.size (fun _ => True) (.slice Ao27 x9_1.length co27) x9_1) ∧ (∃ c_, (s_.1 : Value) = .slice (some s_.2) y255.length c_) ∧ (Below w.heap.size w w')) ?_ ?_
                                      rotate_left
                                      · intro hJ2_9
                                        refine join_ (σ := Value × Addr × Value × Addr) 6 #[true, true, true, true, true, true, true, true, true, false, true, true, true, true, true, true, true, true, true, false, false, false, false, false] (fun s_ => [(42, s_.1), (51, s_.2.2.1), (48, .pointer (some (s_.2.1.add ((ji20)).toNat))), (58, .pointer (some (s_.2.2.2.add ((ji23)).toNat)))]) (fun s_ w' => (w'.cell? (ad258.add (x10_1).toNat) = some (.int .u8 (rd l1 x10_1)) ∧ w'.cell? (ad258.add (x10_1).toNat) = some (.int .u8 (rd l1 x10_1))) ∧ (Kd.R Kd.string 9 w' w.heap.size (fun k_ => some k_ ≠ (s_.2.2.1 : Value).ownBlock) s_.1 y255) ∧ (Kd.R Kd.string 9 w' w.heap.size (fun k_ => some k_ ≠ (s_.1 : Value).ownBlock) s_.2.2.1 y260) ∧ (Kd.R k28 28 w' w.heap.size (fun _ => True) (.slice Ao27 x9_1.length co27) x9_1) ∧ (∃ c_, (s_.1 : Value) = .slice (some s_.2.1) y255.length c_) ∧ (∃ c_, (s_.2.2.1 : Value) = .slice (some s_.2.2.2) y260.length c_) ∧ (Below w.heap.size w w')) ?_ ?_
                                        rotate_left
                                        · intro hJ2_11
                                          refine join_ (σ := Value × Addr) 7 #[true, true, false, true, true, true, true, true, false, false, true, true, true, true, true, true, true, true, true, true, false, false, false, false] (fun s_ => [(51, s_.1), (59, .string (rdOf ByteArray.empty y260 (ji23))), (58, .pointer (some (s_.2.add ((ji23)).toNat)))]) (fun s_ w' => (w'.cell? (ad258.add (x10_1).toNat) = some (.int .u8 (rd l1 x10_1)) ∧ w'.cell? (ad258.add (x10_1).toNat) = some (.int .u8 (rd l1 x10_1))) ∧ (Kd.R Kd.string 9 w' w.heap.size (fun _ => True) s_.1 y260) ∧ (Kd.R k28 28 w' w.heap.size (fun _ => True) (.slice Ao27 x9_1.length co27) x9_1) ∧ (∃ c_, (s_.1 : Value) = .slice (some s_.2) y260.length c_) ∧ (Below w.heap.size w w')) ?_ ?_
                                          rotate_left
                                          · intro hJ11_19
                                            refine join_ (σ := Value × Addr) 8 #[true, true, true, true, true, true, true, true, true, false, true, false, true, true, true, true, true, true, false, false, false, false, false, false] (fun s_ => [(42, s_.1), (48, .pointer (some (s_.2.add ((ji20)).toNat)))]) (fun s_ w' => (w'.cell? (ad258.add (x10_1).toNat) = some (.int .u8 (rd l1 x10_1)) ∧ w'.cell? (ad258.add (x10_1).toNat) = some (.int .u8 (rd l1 x10_1))) ∧ (Kd.R Kd.string 9 w' w.heap.size (fun _ => True) s_.1 y255) ∧ (Kd.R k28 28 w' w.heap.size (fun _ => True) (.slice Ao27 x9_1.length co27) x9_1) ∧ (∃ c_, (s_.1 : Value) = .slice (some s_.2) y255.length c_) ∧ (Below w.heap.size w w')) ?_ ?_
                                            rotate_left
                                            · intro hJ2
                                              refine join_ (σ := Value × Addr) 8 #[true, true, false, true, true, true, true, true, false, false, true, true, true, true, true, true, true, true, true, false, false, false, false, false] (fun s_ => [(51, s_.1), (58, .pointer (some (s_.2.add ((ji23)).toNat)))]) (fun s_ w' => (w'.cell? (ad258.add (x10_1).toNat) = some (.int .u8 (rd l1 x10_1)) ∧ w'.cell? (ad258.add (x10_1).toNat) = some (.int .u8 (rd l1 x10_1))) ∧ (Kd.R Kd.string 9 w' w.heap.size (fun _ => True) s_.1 y260) ∧ (Kd.R k28 28 w' w.heap.size (fun _ => True) (.slice Ao27 x9_1.length co27) x9_1) ∧ (∃ c_, (s_.1 : Value) = .slice (some s_.2) y260.length c_) ∧ (Below w.heap.size w w')) ?_ ?_
                                              rotate_left
                                              · intro hJ11
                                                refine two_ (i := 2) (j := 11) (Ni := some 42) (Nj := some 51) #[true, true, true, true, true, true, true, true, false, false, true, false, true, true, true, true, true, true, false, false, false, false, false, false] #[true, true, false, true, true, true, true, true, false, false, true, true, true, true, true, true, true, true, false, false, false, false, false, false] rfl rfl rfl rfl (two_of HT_.out (by kernel_rfl)) (by decide) (by decide) (fun K hK => ?_) (fun K hK => ?_)
                                                · skip
                                                  refine Kd.R_lit_step Kd.string _ 9 ?hg (N := 42) ?hd (xs := ([(⟨#[67, 111, 110, 110, 101, 99, 116, 105, 111, 110]⟩ : ByteArray), (⟨#[88]⟩ : ByteArray), (⟨#[72, 111, 115, 116]⟩ : ByteArray), (⟨#[85, 112, 103, 114, 97, 100, 101]⟩ : ByteArray), (⟨#[107, 101, 101, 112, 45, 97, 108, 105, 118, 101]⟩ : ByteArray), (⟨#[65]⟩ : ByteArray), (⟨#[67, 111, 110, 116, 101, 110, 116, 45, 76, 101, 110, 103, 116, 104]⟩ : ByteArray), (⟨#[84, 114, 97, 105, 108, 101, 114]⟩ : ByteArray), a2] : List ByteArray)) (inner := [.string (⟨#[67, 111, 110, 110, 101, 99, 116, 105, 111, 110]⟩ : ByteArray), .string (⟨#[88]⟩ : ByteArray), .string (⟨#[72, 111, 115, 116]⟩ : ByteArray), .string (⟨#[85, 112, 103, 114, 97, 100, 101]⟩ : ByteArray), .string (⟨#[107, 101, 101, 112, 45, 97, 108, 105, 118, 101]⟩ : ByteArray), .string (⟨#[65]⟩ : ByteArray), .string (⟨#[67, 111, 110, 116, 101, 110, 116, 45, 76, 101, 110, 103, 116, 104]⟩ : ByteArray), .string (⟨#[84, 114, 97, 105, 108, 101, 114]⟩ : ByteArray), .string a2]) (ok := fun _ => True) (okp := fun _ => True) ?hr ?hp (fun _ hk => hk) trivial (Below.refl _ _) (Nat.le_refl _) (by simp) ?_; (case hd => rfl); (case hg => rfl); (case hr => first | (go_simp; done) | (go_simp; rfl)); (case hp => exact (Reps.one (show Kd.M Kd.string _ _ _ (⟨#[67, 111, 110, 110, 101, 99, 116, 105, 111, 110]⟩ : ByteArray) [.string (⟨#[67, 111, 110, 110, 101, 99, 116, 105, 111, 110]⟩ : ByteArray)] from rfl) (Reps.one (show Kd.M Kd.string _ _ _ (⟨#[88]⟩ : ByteArray) [.string (⟨#[88]⟩ : ByteArray)] from rfl) (Reps.one (show Kd.M Kd.string _ _ _ (⟨#[72, 111, 115, 116]⟩ : ByteArray) [.string (⟨#[72, 111, 115, 116]⟩ : ByteArray)] from rfl) (Reps.one (show Kd.M Kd.string _ _ _ (⟨#[85, 112, 103, 114, 97, 100, 101]⟩ : ByteArray) [.string (⟨#[85, 112, 103, 114, 97, 100, 101]⟩ : ByteArray)] from rfl) (Reps.one (show Kd.M Kd.string _ _ _ (⟨#[107, 101, 101, 112, 45, 97, 108, 105, 118, 101]⟩ : ByteArray) [.string (⟨#[107, 101, 101, 112, 45, 97, 108, 105, 118, 101]⟩ : ByteArray)] from rfl) (Reps.one (show Kd.M Kd.string _ _ _ (⟨#[65]⟩ : ByteArray) [.string (⟨#[65]⟩ : ByteArray)] from rfl) (Reps.one (show Kd.M Kd.string _ _ _ (⟨#[67, 111, 110, 116, 101, 110, 116, 45, 76, 101, 110, 103, 116, 104]⟩ : ByteArray) [.string (⟨#[67, 111, 110, 116, 101, 110, 116, 45, 76, 101, 110, 103, 116, 104]⟩ : ByteArray)] from rfl) (Reps.one (show Kd.M Kd.string _ _ _ (⟨#[84, 114, 97, 105, 108, 101, 114]⟩ : ByteArray) [.string (⟨#[84, 114, 97, 105, 108, 101, 114]⟩ : ByteArray)] from rfl) (Reps.one (show Kd.M Kd.string _ _ _ a2 [.string a2] from rfl) (Reps.none _ _)))))))))))
                                                  intro v256 w29 ho30 hb hg_ hnew_
                                                  clear hg_ hnew_
                                                  (first | rw [← Ny255.out] at ho30 | (simp only [Int.reduceToNat] at ho30; rw [← Ny255.out] at ho30))
                                                  have n0_ := Aside0.mk (Kd.R_below (by (with_reducible repeat (first | apply Kd.R_alloc | apply Kd.R_drewN | apply Kd.R_drew)); exact HO_9.out) hb)
                                                  have n1_ := Aside0.mk (Kd.R_lower ho30 (below_size (by repeat (first | (with_reducible first | exact HB.out | apply below_alloc | apply pw_below_drewN | apply below_drew1) | exact HB.out))))
                                                  have n2_ := Aside0.mk (below_step (by repeat (first | (with_reducible first | exact HB.out | apply below_alloc | apply pw_below_drewN | apply below_drew1) | exact HB.out)) hb)
                                                  clear HO_9
                                                  clear HB
                                                  have HO_9 := n0_
                                                  have HO257 := n1_
                                                  have HB := n2_
                                                  clear n0_ n1_ n2_
                                                  clear hb ho30
                                                  obtain ⟨Ao31, co31, eo31⟩ := Kd.R_slice HO257.out
                                                  subst eo31
                                                  obtain ⟨ado31, fo31, _⟩ := Kd.at_string (Kd.R_reads' HO257.out).2.2 0 (by decide) (by rw [Ny255.out]; simp)
                                                  cases fo31
                                                  refine hK.out _ _ ⟨((HB.out.cell (World.block_lt_of_cell? w _ hw258_0)).trans hw258_0), ((HB.out.cell (World.block_lt_of_cell? w _ hw263_0)).trans hw263_0)⟩ (fun hHeld => ?_)
                                                  clear hK K
                                                  refine norm_ (a' := ?_) ?_ ?_
                                                  rotate_left
                                                  · show Act.put _ (some 42) _ = _
                                                    simp only [Act.put, List.setIfInBounds_toArray, List.set_cons_zero, List.set_cons_succ, i64_w, i32_w]
                                                    rfl
                                                  refine pure_ (i := 8) (N := some 48) (v := ?_) (a' := ?_) #[true, true, true, true, true, true, true, true, true, false, true, false, true, true, true, true, true, true, false, false, false, false, false, false] rfl rfl (any_of HT_.out (by kernel_rfl)) (fun _ _ _ h => h) (Or.inl ⟨by rfl, ?_⟩) ?_ ?_
                                                  rotate_left
                                                  · intro w'
                                                    go_simp
                                                    with_reducible rfl
                                                  rotate_left
                                                  · simp only [Act.put, List.setIfInBounds_toArray, List.set_cons_zero, List.set_cons_succ, i64_w, i32_w]
                                                    rfl
                                                  exact norm_ (by first | (simp only [putAll, Act.put, List.setIfInBounds_toArray, List.set_cons_zero, List.set_cons_succ]; done) | (simp only [putAll, Act.put, List.setIfInBounds_toArray, List.set_cons_zero, List.set_cons_succ]; rfl)) (hJ2 (.slice (some ado31) y255.length co31, ado31) _ ⟨hHeld, (by (with_reducible repeat (first | apply Kd.R_alloc | apply Kd.R_drewN | apply Kd.R_drew)); exact HO257.out), (by (with_reducible repeat (first | apply Kd.R_alloc | apply Kd.R_drewN | apply Kd.R_drew)); exact HO_9.out), ⟨_, rfl⟩, (by repeat (first | (with_reducible first | exact HB.out | apply below_alloc | apply pw_below_drewN | apply below_drew1) | exact HB.out))⟩)
                                                · skip
                                                  refine Kd.R_lit_step Kd.string _ 9 ?hg (N := 51) ?hd (xs := ([(⟨#[120]⟩ : ByteArray), (⟨#[97, 44, 32, 99, 108, 111, 115, 101]⟩ : ByteArray), (⟨#[99, 111, 110, 116, 101, 110, 116, 45, 108, 101, 110, 103, 116, 104, 44, 32, 72, 79, 83, 84]⟩ : ByteArray), (⟨#[49]⟩ : ByteArray), (⟨#[]⟩ : ByteArray), a2] : List ByteArray)) (inner := [.string (⟨#[120]⟩ : ByteArray), .string (⟨#[97, 44, 32, 99, 108, 111, 115, 101]⟩ : ByteArray), .string (⟨#[99, 111, 110, 116, 101, 110, 116, 45, 108, 101, 110, 103, 116, 104, 44, 32, 72, 79, 83, 84]⟩ : ByteArray), .string (⟨#[49]⟩ : ByteArray), .string (⟨#[]⟩ : ByteArray), .string a2]) (ok := fun _ => True) (okp := fun _ => True) ?hr ?hp (fun _ hk => hk) trivial (Below.refl _ _) (Nat.le_refl _) (by simp) ?_; (case hd => rfl); (case hg => rfl); (case hr => first | (go_simp; done) | (go_simp; rfl)); (case hp => exact (Reps.one (show Kd.M Kd.string _ _ _ (⟨#[120]⟩ : ByteArray) [.string (⟨#[120]⟩ : ByteArray)] from rfl) (Reps.one (show Kd.M Kd.string _ _ _ (⟨#[97, 44, 32, 99, 108, 111, 115, 101]⟩ : ByteArray) [.string (⟨#[97, 44, 32, 99, 108, 111, 115, 101]⟩ : ByteArray)] from rfl) (Reps.one (show Kd.M Kd.string _ _ _ (⟨#[99, 111, 110, 116, 101, 110, 116, 45, 108, 101, 110, 103, 116, 104, 44, 32, 72, 79, 83, 84]⟩ : ByteArray) [.string (⟨#[99, 111, 110, 116, 101, 110, 116, 45, 108, 101, 110, 103, 116, 104, 44, 32, 72, 79, 83, 84]⟩ : ByteArray)] from rfl) (Reps.one (show Kd.M Kd.string _ _ _ (⟨#[49]⟩ : ByteArray) [.string (⟨#[49]⟩ : ByteArray)] from rfl) (Reps.one (show Kd.M Kd.string _ _ _ (⟨#[]⟩ : ByteArray) [.string (⟨#[]⟩ : ByteArray)] from rfl) (Reps.one (show Kd.M Kd.string _ _ _ a2 [.string a2] from rfl) (Reps.none _ _))))))))
                                                  intro v261 w29 ho30 hb hg_ hnew_
                                                  clear hg_ hnew_
                                                  (first | rw [← Ny260.out] at ho30 | (simp only [Int.reduceToNat] at ho30; rw [← Ny260.out] at ho30))
                                                  have n0_ := Aside0.mk (Kd.R_below (by (with_reducible repeat (first | apply Kd.R_alloc | apply Kd.R_drewN | apply Kd.R_drew)); exact HO_9.out) hb)
                                                  have n1_ := Aside0.mk (Kd.R_lower ho30 (below_size (by repeat (first | (with_reducible first | exact HB.out | apply below_alloc | apply pw_below_drewN | apply below_drew1) | exact HB.out))))
                                                  have n2_ := Aside0.mk (below_step (by repeat (first | (with_reducible first | exact HB.out | apply below_alloc | apply pw_below_drewN | apply below_drew1) | exact HB.out)) hb)
                                                  clear HO_9
                                                  clear HB
                                                  have HO_9 := n0_
                                                  have HO262 := n1_
                                                  have HB := n2_
                                                  clear n0_ n1_ n2_
                                                  clear hb ho30
                                                  obtain ⟨Ao31, co31, eo31⟩ := Kd.R_slice HO262.out
                                                  subst eo31
                                                  obtain ⟨ado31, fo31, _⟩ := Kd.at_string (Kd.R_reads' HO262.out).2.2 0 (by decide) (by rw [Ny260.out]; simp)
                                                  cases fo31
                                                  refine hK.out _ _ ⟨((HB.out.cell (World.block_lt_of_cell? w _ hw258_0)).trans hw258_0), ((HB.out.cell (World.block_lt_of_cell? w _ hw263_0)).trans hw263_0)⟩ (fun hHeld => ?_)
                                                  clear hK K
                                                  refine norm_ (a' := ?_) ?_ ?_
                                                  rotate_left
                                                  · show Act.put _ (some 51) _ = _
                                                    simp only [Act.put, List.setIfInBounds_toArray, List.set_cons_zero, List.set_cons_succ, i64_w, i32_w]
                                                    rfl
                                                  refine pure_ (i := 18) (N := some 58) (v := ?_) (a' := ?_) #[true, true, false, true, true, true, true, true, false, false, true, true, true, true, true, true, true, true, true, false, false, false, false, false] rfl rfl (any_of HT_.out (by kernel_rfl)) (fun _ _ _ h => h) (Or.inl ⟨by rfl, ?_⟩) ?_ ?_
                                                  rotate_left
                                                  · intro w'
                                                    go_simp
                                                    with_reducible rfl
                                                  rotate_left
                                                  · simp only [Act.put, List.setIfInBounds_toArray, List.set_cons_zero, List.set_cons_succ, i64_w, i32_w]
                                                    rfl
                                                  exact norm_ (by first | (simp only [putAll, Act.put, List.setIfInBounds_toArray, List.set_cons_zero, List.set_cons_succ]; done) | (simp only [putAll, Act.put, List.setIfInBounds_toArray, List.set_cons_zero, List.set_cons_succ]; rfl)) (hJ11 (.slice (some ado31) y260.length co31, ado31) _ ⟨hHeld, (by (with_reducible repeat (first | apply Kd.R_alloc | apply Kd.R_drewN | apply Kd.R_drew)); exact HO262.out), (by (with_reducible repeat (first | apply Kd.R_alloc | apply Kd.R_drewN | apply Kd.R_drew)); exact HO_9.out), ⟨_, rfl⟩, (by repeat (first | (with_reducible first | exact HB.out | apply below_alloc | apply pw_below_drewN | apply below_drew1) | exact HB.out))⟩)
                                              · skip
                                                rintro ⟨v261, adz_v261⟩ w32 ⟨hS_, h0_, h1_, h2_, h3_⟩
                                                have n0_ : Aside0 (Kd.R Kd.string 9 w32 w.heap.size (fun _ => True) v261 y260) := ⟨h0_⟩
                                                have n1_ : Aside0 (Kd.R k28 28 w32 w.heap.size (fun _ => True) (.slice Ao27 x9_1.length co27) x9_1) := ⟨h1_⟩
                                                have n2_ : Aside0 (∃ c_, (v261 : Value) = .slice (some adz_v261) y260.length c_) := ⟨h2_⟩
                                                have n3_ : Aside0 (Below w.heap.size w w32) := ⟨h3_⟩
                                                clear HO_9
                                                clear HB
                                                clear h0_ h1_ h2_ h3_
                                                have HO262 := n0_
                                                have HO_9 := n1_
                                                have HA_HO262 := n2_
                                                have HB := n3_
                                                clear n0_ n1_ n2_ n3_
                                                have hHeld : w32.cell? (ad258.add (x10_1).toNat) = some (.int .u8 (rd l1 x10_1)) ∧ w32.cell? (ad258.add (x10_1).toNat) = some (.int .u8 (rd l1 x10_1)) := hS_
                                                obtain ⟨co33, eo33⟩ := HA_HO262.out
                                                clear HA_HO262
                                                subst eo33
                                                refine norm_ (a' := ?_) ?_ ?_
                                                rotate_left
                                                · simp only [putAll, Act.put, List.setIfInBounds_toArray, List.set_cons_zero, List.set_cons_succ]
                                                  rfl
                                                refine two_ (i := 2) (j := 19) (Ni := some 42) (Nj := some 59) #[true, true, true, true, true, true, true, true, false, false, true, true, true, true, true, true, true, true, true, false, false, false, false, false] #[true, true, false, true, true, true, true, true, false, false, true, true, true, true, true, true, true, true, true, true, false, false, false, false] rfl rfl rfl rfl (two_of HT_.out (by kernel_rfl)) (by decide) (by decide) (fun K hK => ?_) (fun K hK => ?_)
                                                · skip
                                                  refine Kd.R_lit_step Kd.string _ 9 ?hg (N := 42) ?hd (xs := ([(⟨#[67, 111, 110, 110, 101, 99, 116, 105, 111, 110]⟩ : ByteArray), (⟨#[88]⟩ : ByteArray), (⟨#[72, 111, 115, 116]⟩ : ByteArray), (⟨#[85, 112, 103, 114, 97, 100, 101]⟩ : ByteArray), (⟨#[107, 101, 101, 112, 45, 97, 108, 105, 118, 101]⟩ : ByteArray), (⟨#[65]⟩ : ByteArray), (⟨#[67, 111, 110, 116, 101, 110, 116, 45, 76, 101, 110, 103, 116, 104]⟩ : ByteArray), (⟨#[84, 114, 97, 105, 108, 101, 114]⟩ : ByteArray), a2] : List ByteArray)) (inner := [.string (⟨#[67, 111, 110, 110, 101, 99, 116, 105, 111, 110]⟩ : ByteArray), .string (⟨#[88]⟩ : ByteArray), .string (⟨#[72, 111, 115, 116]⟩ : ByteArray), .string (⟨#[85, 112, 103, 114, 97, 100, 101]⟩ : ByteArray), .string (⟨#[107, 101, 101, 112, 45, 97, 108, 105, 118, 101]⟩ : ByteArray), .string (⟨#[65]⟩ : ByteArray), .string (⟨#[67, 111, 110, 116, 101, 110, 116, 45, 76, 101, 110, 103, 116, 104]⟩ : ByteArray), .string (⟨#[84, 114, 97, 105, 108, 101, 114]⟩ : ByteArray), .string a2]) (ok := fun _ => True) (okp := fun _ => True) ?hr ?hp (fun _ hk => hk) trivial (Below.refl _ _) (Nat.le_refl _) (by simp) ?_; (case hd => rfl); (case hg => rfl); (case hr => first | (go_simp; done) | (go_simp; rfl)); (case hp => exact (Reps.one (show Kd.M Kd.string _ _ _ (⟨#[67, 111, 110, 110, 101, 99, 116, 105, 111, 110]⟩ : ByteArray) [.string (⟨#[67, 111, 110, 110, 101, 99, 116, 105, 111, 110]⟩ : ByteArray)] from rfl) (Reps.one (show Kd.M Kd.string _ _ _ (⟨#[88]⟩ : ByteArray) [.string (⟨#[88]⟩ : ByteArray)] from rfl) (Reps.one (show Kd.M Kd.string _ _ _ (⟨#[72, 111, 115, 116]⟩ : ByteArray) [.string (⟨#[72, 111, 115, 116]⟩ : ByteArray)] from rfl) (Reps.one (show Kd.M Kd.string _ _ _ (⟨#[85, 112, 103, 114, 97, 100, 101]⟩ : ByteArray) [.string (⟨#[85, 112, 103, 114, 97, 100, 101]⟩ : ByteArray)] from rfl) (Reps.one (show Kd.M Kd.string _ _ _ (⟨#[107, 101, 101, 112, 45, 97, 108, 105, 118, 101]⟩ : ByteArray) [.string (⟨#[107, 101, 101, 112, 45, 97, 108, 105, 118, 101]⟩ : ByteArray)] from rfl) (Reps.one (show Kd.M Kd.string _ _ _ (⟨#[65]⟩ : ByteArray) [.string (⟨#[65]⟩ : ByteArray)] from rfl) (Reps.one (show Kd.M Kd.string _ _ _ (⟨#[67, 111, 110, 116, 101, 110, 116, 45, 76, 101, 110, 103, 116, 104]⟩ : ByteArray) [.string (⟨#[67, 111, 110, 116, 101, 110, 116, 45, 76, 101, 110, 103, 116, 104]⟩ : ByteArray)] from rfl) (Reps.one (show Kd.M Kd.string _ _ _ (⟨#[84, 114, 97, 105, 108, 101, 114]⟩ : ByteArray) [.string (⟨#[84, 114, 97, 105, 108, 101, 114]⟩ : ByteArray)] from rfl) (Reps.one (show Kd.M Kd.string _ _ _ a2 [.string a2] from rfl) (Reps.none _ _)))))))))))
                                                  intro v256 w34 ho35 hb hg_ hnew_
                                                  clear hg_ hnew_
                                                  (first | rw [← Ny255.out] at ho35 | (simp only [Int.reduceToNat] at ho35; rw [← Ny255.out] at ho35))
                                                  have n0_ := Aside0.mk (Kd.R_below (by (with_reducible repeat (first | apply Kd.R_alloc | apply Kd.R_drewN | apply Kd.R_drew)); exact HO_9.out) hb)
                                                  have n1_ := Aside0.mk (Kd.R_elder' (by (with_reducible repeat (first | apply Kd.R_alloc | apply Kd.R_drewN | apply Kd.R_drew)); exact HO262.out) (Kd.R_base ho35) hb)
                                                  have n2_ := Aside0.mk (Kd.R_lower (Kd.R_new' ho35 (Kd.R_lt (by (with_reducible repeat (first | apply Kd.R_alloc | apply Kd.R_drewN | apply Kd.R_drew)); exact HO262.out))) (below_size (by repeat (first | (with_reducible first | exact HB.out | apply below_alloc | apply pw_below_drewN | apply below_drew1) | exact HB.out))))
                                                  have n3_ := Aside0.mk (below_step (by repeat (first | (with_reducible first | exact HB.out | apply below_alloc | apply pw_below_drewN | apply below_drew1) | exact HB.out)) hb)
                                                  clear HO_9
                                                  clear HO262
                                                  clear HB
                                                  have HO_9 := n0_
                                                  have HO262 := n1_
                                                  have HO257 := n2_
                                                  have HB := n3_
                                                  clear n0_ n1_ n2_ n3_
                                                  clear hb ho35
                                                  obtain ⟨Ao36, co36, eo36⟩ := Kd.R_slice HO257.out
                                                  subst eo36
                                                  obtain ⟨ado36, fo36, _⟩ := Kd.at_string (Kd.R_reads' HO257.out).2.2 0 (by decide) (by rw [Ny255.out]; simp)
                                                  cases fo36
                                                  refine hK.out _ _ ⟨((HB.out.cell (World.block_lt_of_cell? w _ hw258_0)).trans hw258_0), ((HB.out.cell (World.block_lt_of_cell? w _ hw263_0)).trans hw263_0)⟩ (fun hHeld => ?_)
                                                  clear hK K
                                                  refine norm_ (a' := ?_) ?_ ?_
                                                  rotate_left
                                                  · show Act.put _ (some 42) _ = _
                                                    simp only [Act.put, List.setIfInBounds_toArray, List.set_cons_zero, List.set_cons_succ, i64_w, i32_w]
                                                    rfl
                                                  refine pure_ (i := 8) (N := some 48) (v := ?_) (a' := ?_) #[true, true, true, true, true, true, true, true, true, false, true, true, true, true, true, true, true, true, true, false, false, false, false, false] rfl rfl (any_of HT_.out (by kernel_rfl)) (fun _ _ _ h => h) (Or.inl ⟨by rfl, ?_⟩) ?_ ?_
                                                  rotate_left
                                                  · intro w'
                                                    go_simp
                                                    with_reducible rfl
                                                  rotate_left
                                                  · simp only [Act.put, List.setIfInBounds_toArray, List.set_cons_zero, List.set_cons_succ, i64_w, i32_w]
                                                    rfl
                                                  exact norm_ (by first | (simp only [putAll, Act.put, List.setIfInBounds_toArray, List.set_cons_zero, List.set_cons_succ]; done) | (simp only [putAll, Act.put, List.setIfInBounds_toArray, List.set_cons_zero, List.set_cons_succ]; rfl)) (hJ2_11 (.slice (some ado36) y255.length co36, ado36, .slice (some adz_v261) y260.length co33, adz_v261) _ ⟨hHeld, (by (with_reducible repeat (first | apply Kd.R_alloc | apply Kd.R_drewN | apply Kd.R_drew)); exact Kd.R_mono HO257.out (fun _ hk => (by first | exact hk.2 | exact True.intro))), (by (with_reducible repeat (first | apply Kd.R_alloc | apply Kd.R_drewN | apply Kd.R_drew)); exact Kd.R_mono HO262.out (fun _ hk => (by first | exact hk.2 | exact True.intro))), (by (with_reducible repeat (first | apply Kd.R_alloc | apply Kd.R_drewN | apply Kd.R_drew)); exact HO_9.out), ⟨_, rfl⟩, ⟨_, rfl⟩, (by repeat (first | (with_reducible first | exact HB.out | apply below_alloc | apply pw_below_drewN | apply below_drew1) | exact HB.out))⟩)
                                                · skip
                                                  (have p264 : 0 ≤ ((ji23) : Int) := of_decide_eq_true (by first | (with_reducible assumption) | assumption); have q264 : (ji23) < (y260.length : Int) := of_decide_eq_true (by first | (with_reducible assumption) | assumption); obtain ⟨ad264, e264, hx264_0⟩ := Kd.at_string (Kd.R_reads' HO262.out).2.2 (ji23) p264 q264; obtain rfl : adz_v261 = ad264 := (by injection e264))
                                                  refine value_ (w1 := ?_) (v := ?_) (by rfl) rfl ?_ ?_
                                                  rotate_left 2
                                                  · go_simp
                                                    constructor
                                                    · rfl
                                                    · rfl
                                                  clear hx264_0
                                                  refine hK.out _ _ ⟨((HB.out.cell (World.block_lt_of_cell? w _ hw258_0)).trans hw258_0), ((HB.out.cell (World.block_lt_of_cell? w _ hw263_0)).trans hw263_0)⟩ (fun hHeld => ?_)
                                                  clear hK K
                                                  refine norm_ (a' := ?_) ?_ ?_
                                                  rotate_left
                                                  · show Act.put _ (some 59) _ = _
                                                    simp only [Act.put, List.setIfInBounds_toArray, List.set_cons_zero, List.set_cons_succ, i64_w, i32_w]
                                                    rfl
                                                  exact norm_ (by first | (simp only [putAll, Act.put, List.setIfInBounds_toArray, List.set_cons_zero, List.set_cons_succ]; done) | (simp only [putAll, Act.put, List.setIfInBounds_toArray, List.set_cons_zero, List.set_cons_succ]; rfl)) (hJ11_19 (.slice (some adz_v261) y260.length co33, adz_v261) _ ⟨hHeld, (by (with_reducible repeat (first | apply Kd.R_alloc | apply Kd.R_drewN | apply Kd.R_drew)); exact HO262.out), (by (with_reducible repeat (first | apply Kd.R_alloc | apply Kd.R_drewN | apply Kd.R_drew)); exact HO_9.out), ⟨_, rfl⟩, (by repeat (first | (with_reducible first | exact HB.out | apply below_alloc | apply pw_below_drewN | apply below_drew1) | exact HB.out))⟩)
                                            · skip
                                              rintro ⟨v256, adz_v256⟩ w32 ⟨hS_, h0_, h1_, h2_, h3_⟩
                                              have n0_ : Aside0 (Kd.R Kd.string 9 w32 w.heap.size (fun _ => True) v256 y255) := ⟨h0_⟩
                                              have n1_ : Aside0 (Kd.R k28 28 w32 w.heap.size (fun _ => True) (.slice Ao27 x9_1.length co27) x9_1) := ⟨h1_⟩
                                              have n2_ : Aside0 (∃ c_, (v256 : Value) = .slice (some adz_v256) y255.length c_) := ⟨h2_⟩
                                              have n3_ : Aside0 (Below w.heap.size w w32) := ⟨h3_⟩
                                              clear HO_9
                                              clear HB
                                              clear h0_ h1_ h2_ h3_
                                              have HO257 := n0_
                                              have HO_9 := n1_
                                              have HA_HO257 := n2_
                                              have HB := n3_
                                              clear n0_ n1_ n2_ n3_
                                              have hHeld : w32.cell? (ad258.add (x10_1).toNat) = some (.int .u8 (rd l1 x10_1)) ∧ w32.cell? (ad258.add (x10_1).toNat) = some (.int .u8 (rd l1 x10_1)) := hS_
                                              obtain ⟨co33, eo33⟩ := HA_HO257.out
                                              clear HA_HO257
                                              subst eo33
                                              refine norm_ (a' := ?_) ?_ ?_
                                              rotate_left
                                              · simp only [putAll, Act.put, List.setIfInBounds_toArray, List.set_cons_zero, List.set_cons_succ]
                                                rfl
                                              refine two_ (i := 9) (j := 11) (Ni := some 49) (Nj := some 51) #[true, true, true, true, true, true, true, true, true, true, true, false, true, true, true, true, true, true, false, false, false, false, false, false] #[true, true, true, true, true, true, true, true, true, false, true, true, true, true, true, true, true, true, false, false, false, false, false, false] rfl rfl rfl rfl (two_of HT_.out (by kernel_rfl)) (by decide) (by decide) (fun K hK => ?_) (fun K hK => ?_)
                                              · skip
                                                (have p259 : 0 ≤ ((ji20) : Int) := of_decide_eq_true (by first | (with_reducible assumption) | assumption); have q259 : (ji20) < (y255.length : Int) := of_decide_eq_true (by first | (with_reducible assumption) | assumption); obtain ⟨ad259, e259, hx259_0⟩ := Kd.at_string (Kd.R_reads' HO257.out).2.2 (ji20) p259 q259; obtain rfl : adz_v256 = ad259 := (by injection e259))
                                                refine value_ (w1 := ?_) (v := ?_) (by rfl) rfl ?_ ?_
                                                rotate_left 2
                                                · go_simp
                                                  constructor
                                                  · rfl
                                                  · rfl
                                                clear hx259_0
                                                refine hK.out _ _ ⟨((HB.out.cell (World.block_lt_of_cell? w _ hw258_0)).trans hw258_0), ((HB.out.cell (World.block_lt_of_cell? w _ hw263_0)).trans hw263_0)⟩ (fun hHeld => ?_)
                                                clear hK K
                                                refine norm_ (a' := ?_) ?_ ?_
                                                rotate_left
                                                · show Act.put _ (some 49) _ = _
                                                  simp only [Act.put, List.setIfInBounds_toArray, List.set_cons_zero, List.set_cons_succ, i64_w, i32_w]
                                                  rfl
                                                exact norm_ (by first | (simp only [putAll, Act.put, List.setIfInBounds_toArray, List.set_cons_zero, List.set_cons_succ]; done) | (simp only [putAll, Act.put, List.setIfInBounds_toArray, List.set_cons_zero, List.set_cons_succ]; rfl)) (hJ2_9 (.slice (some adz_v256) y255.length co33, adz_v256) _ ⟨hHeld, (by (with_reducible repeat (first | apply Kd.R_alloc | apply Kd.R_drewN | apply Kd.R_drew)); exact HO257.out), (by (with_reducible repeat (first | apply Kd.R_alloc | apply Kd.R_drewN | apply Kd.R_drew)); exact HO_9.out), ⟨_, rfl⟩, (by repeat (first | (with_reducible first | exact HB.out | apply below_alloc | apply pw_below_drewN | apply below_drew1) | exact HB.out))⟩)
                                              · skip
                                                refine Kd.R_lit_step Kd.string _ 9 ?hg (N := 51) ?hd (xs := ([(⟨#[120]⟩ : ByteArray), (⟨#[97, 44, 32, 99, 108, 111, 115, 101]⟩ : ByteArray), (⟨#[99, 111, 110, 116, 101, 110, 116, 45, 108, 101, 110, 103, 116, 104, 44, 32, 72, 79, 83, 84]⟩ : ByteArray), (⟨#[49]⟩ : ByteArray), (⟨#[]⟩ : ByteArray), a2] : List ByteArray)) (inner := [.string (⟨#[120]⟩ : ByteArray), .string (⟨#[97, 44, 32, 99, 108, 111, 115, 101]⟩ : ByteArray), .string (⟨#[99, 111, 110, 116, 101, 110, 116, 45, 108, 101, 110, 103, 116, 104, 44, 32, 72, 79, 83, 84]⟩ : ByteArray), .string (⟨#[49]⟩ : ByteArray), .string (⟨#[]⟩ : ByteArray), .string a2]) (ok := fun _ => True) (okp := fun _ => True) ?hr ?hp (fun _ hk => hk) trivial (Below.refl _ _) (Nat.le_refl _) (by simp) ?_; (case hd => rfl); (case hg => rfl); (case hr => first | (go_simp; done) | (go_simp; rfl)); (case hp => exact (Reps.one (show Kd.M Kd.string _ _ _ (⟨#[120]⟩ : ByteArray) [.string (⟨#[120]⟩ : ByteArray)] from rfl) (Reps.one (show Kd.M Kd.string _ _ _ (⟨#[97, 44, 32, 99, 108, 111, 115, 101]⟩ : ByteArray) [.string (⟨#[97, 44, 32, 99, 108, 111, 115, 101]⟩ : ByteArray)] from rfl) (Reps.one (show Kd.M Kd.string _ _ _ (⟨#[99, 111, 110, 116, 101, 110, 116, 45, 108, 101, 110, 103, 116, 104, 44, 32, 72, 79, 83, 84]⟩ : ByteArray) [.string (⟨#[99, 111, 110, 116, 101, 110, 116, 45, 108, 101, 110, 103, 116, 104, 44, 32, 72, 79, 83, 84]⟩ : ByteArray)] from rfl) (Reps.one (show Kd.M Kd.string _ _ _ (⟨#[49]⟩ : ByteArray) [.string (⟨#[49]⟩ : ByteArray)] from rfl) (Reps.one (show Kd.M Kd.string _ _ _ (⟨#[]⟩ : ByteArray) [.string (⟨#[]⟩ : ByteArray)] from rfl) (Reps.one (show Kd.M Kd.string _ _ _ a2 [.string a2] from rfl) (Reps.none _ _))))))))
                                                intro v261 w34 ho35 hb hg_ hnew_
                                                clear hg_ hnew_
                                                (first | rw [← Ny260.out] at ho35 | (simp only [Int.reduceToNat] at ho35; rw [← Ny260.out] at ho35))
                                                have n0_ := Aside0.mk (Kd.R_below (by (with_reducible repeat (first | apply Kd.R_alloc | apply Kd.R_drewN | apply Kd.R_drew)); exact HO_9.out) hb)
                                                have n1_ := Aside0.mk (Kd.R_elder' (by (with_reducible repeat (first | apply Kd.R_alloc | apply Kd.R_drewN | apply Kd.R_drew)); exact HO257.out) (Kd.R_base ho35) hb)
                                                have n2_ := Aside0.mk (Kd.R_lower (Kd.R_new' ho35 (Kd.R_lt (by (with_reducible repeat (first | apply Kd.R_alloc | apply Kd.R_drewN | apply Kd.R_drew)); exact HO257.out))) (below_size (by repeat (first | (with_reducible first | exact HB.out | apply below_alloc | apply pw_below_drewN | apply below_drew1) | exact HB.out))))
                                                have n3_ := Aside0.mk (below_step (by repeat (first | (with_reducible first | exact HB.out | apply below_alloc | apply pw_below_drewN | apply below_drew1) | exact HB.out)) hb)
                                                clear HO_9
                                                clear HO257
                                                clear HB
                                                have HO_9 := n0_
                                                have HO257 := n1_
                                                have HO262 := n2_
                                                have HB := n3_
                                                clear n0_ n1_ n2_ n3_
                                                clear hb ho35
                                                obtain ⟨Ao36, co36, eo36⟩ := Kd.R_slice HO262.out
                                                subst eo36
                                                obtain ⟨ado36, fo36, _⟩ := Kd.at_string (Kd.R_reads' HO262.out).2.2 0 (by decide) (by rw [Ny260.out]; simp)
                                                cases fo36
                                                refine hK.out _ _ ⟨((HB.out.cell (World.block_lt_of_cell? w _ hw258_0)).trans hw258_0), ((HB.out.cell (World.block_lt_of_cell? w _ hw263_0)).trans hw263_0)⟩ (fun hHeld => ?_)
                                                clear hK K
                                                refine norm_ (a' := ?_) ?_ ?_
                                                rotate_left
                                                · show Act.put _ (some 51) _ = _
                                                  simp only [Act.put, List.setIfInBounds_toArray, List.set_cons_zero, List.set_cons_succ, i64_w, i32_w]
                                                  rfl
                                                refine pure_ (i := 18) (N := some 58) (v := ?_) (a' := ?_) #[true, true, true, true, true, true, true, true, true, false, true, true, true, true, true, true, true, true, true, false, false, false, false, false] rfl rfl (any_of HT_.out (by kernel_rfl)) (fun _ _ _ h => h) (Or.inl ⟨by rfl, ?_⟩) ?_ ?_
                                                rotate_left
                                                · intro w'
                                                  go_simp
                                                  with_reducible rfl
                                                rotate_left
                                                · simp only [Act.put, List.setIfInBounds_toArray, List.set_cons_zero, List.set_cons_succ, i64_w, i32_w]
                                                  rfl
                                                exact norm_ (by first | (simp only [putAll, Act.put, List.setIfInBounds_toArray, List.set_cons_zero, List.set_cons_succ]; done) | (simp only [putAll, Act.put, List.setIfInBounds_toArray, List.set_cons_zero, List.set_cons_succ]; rfl)) (hJ2_11 (.slice (some adz_v256) y255.length co33, adz_v256, .slice (some ado36) y260.length co36, ado36) _ ⟨hHeld, (by (with_reducible repeat (first | apply Kd.R_alloc | apply Kd.R_drewN | apply Kd.R_drew)); exact Kd.R_mono HO257.out (fun _ hk => (by first | exact hk.2 | exact True.intro))), (by (with_reducible repeat (first | apply Kd.R_alloc | apply Kd.R_drewN | apply Kd.R_drew)); exact Kd.R_mono HO262.out (fun _ hk => (by first | exact hk.2 | exact True.intro))), (by (with_reducible repeat (first | apply Kd.R_alloc | apply Kd.R_drewN | apply Kd.R_drew)); exact HO_9.out), ⟨_, rfl⟩, ⟨_, rfl⟩, (by repeat (first | (with_reducible first | exact HB.out | apply below_alloc | apply pw_below_drewN | apply below_drew1) | exact HB.out))⟩)
                                          · skip
                                            rintro ⟨v261, adz_v261⟩ w32 ⟨hS_, h0_, h1_, h2_, h3_⟩
                                            have n0_ : Aside0 (Kd.R Kd.string 9 w32 w.heap.size (fun _ => True) v261 y260) := ⟨h0_⟩
                                            have n1_ : Aside0 (Kd.R k28 28 w32 w.heap.size (fun _ => True) (.slice Ao27 x9_1.length co27) x9_1) := ⟨h1_⟩
                                            have n2_ : Aside0 (∃ c_, (v261 : Value) = .slice (some adz_v261) y260.length c_) := ⟨h2_⟩
                                            have n3_ : Aside0 (Below w.heap.size w w32) := ⟨h3_⟩
                                            clear HO_9
                                            clear HB
                                            clear h0_ h1_ h2_ h3_
                                            have HO262 := n0_
                                            have HO_9 := n1_
                                            have HA_HO262 := n2_
                                            have HB := n3_
                                            clear n0_ n1_ n2_ n3_
                                            have hHeld : w32.cell? (ad258.add (x10_1).toNat) = some (.int .u8 (rd l1 x10_1)) ∧ w32.cell? (ad258.add (x10_1).toNat) = some (.int .u8 (rd l1 x10_1)) := hS_
                                            obtain ⟨co33, eo33⟩ := HA_HO262.out
                                            clear HA_HO262
                                            subst eo33
                                            refine norm_ (a' := ?_) ?_ ?_
                                            rotate_left
                                            · simp only [putAll, Act.put, List.setIfInBounds_toArray, List.set_cons_zero, List.set_cons_succ]
                                              rfl
                                            refine one_ (i := 2) (N := some 42) #[true, true, true, true, true, true, true, true, false, false, true, true, true, true, true, true, true, true, true, true, false, false, false, false] rfl rfl (one_of HT_.out (by kernel_rfl)) (by decide) (fun K hK => ?_)
                                            refine Kd.R_lit_step Kd.string _ 9 ?hg (N := 42) ?hd (xs := ([(⟨#[67, 111, 110, 110, 101, 99, 116, 105, 111, 110]⟩ : ByteArray), (⟨#[88]⟩ : ByteArray), (⟨#[72, 111, 115, 116]⟩ : ByteArray), (⟨#[85, 112, 103, 114, 97, 100, 101]⟩ : ByteArray), (⟨#[107, 101, 101, 112, 45, 97, 108, 105, 118, 101]⟩ : ByteArray), (⟨#[65]⟩ : ByteArray), (⟨#[67, 111, 110, 116, 101, 110, 116, 45, 76, 101, 110, 103, 116, 104]⟩ : ByteArray), (⟨#[84, 114, 97, 105, 108, 101, 114]⟩ : ByteArray), a2] : List ByteArray)) (inner := [.string (⟨#[67, 111, 110, 110, 101, 99, 116, 105, 111, 110]⟩ : ByteArray), .string (⟨#[88]⟩ : ByteArray), .string (⟨#[72, 111, 115, 116]⟩ : ByteArray), .string (⟨#[85, 112, 103, 114, 97, 100, 101]⟩ : ByteArray), .string (⟨#[107, 101, 101, 112, 45, 97, 108, 105, 118, 101]⟩ : ByteArray), .string (⟨#[65]⟩ : ByteArray), .string (⟨#[67, 111, 110, 116, 101, 110, 116, 45, 76, 101, 110, 103, 116, 104]⟩ : ByteArray), .string (⟨#[84, 114, 97, 105, 108, 101, 114]⟩ : ByteArray), .string a2]) (ok := fun _ => True) (okp := fun _ => True) ?hr ?hp (fun _ hk => hk) trivial (Below.refl _ _) (Nat.le_refl _) (by simp) ?_; (case hd => rfl); (case hg => rfl); (case hr => first | (go_simp; done) | (go_simp; rfl)); (case hp => exact (Reps.one (show Kd.M Kd.string _ _ _ (⟨#[67, 111, 110, 110, 101, 99, 116, 105, 111, 110]⟩ : ByteArray) [.string (⟨#[67, 111, 110, 110, 101, 99, 116, 105, 111, 110]⟩ : ByteArray)] from rfl) (Reps.one (show Kd.M Kd.string _ _ _ (⟨#[88]⟩ : ByteArray) [.string (⟨#[88]⟩ : ByteArray)] from rfl) (Reps.one (show Kd.M Kd.string _ _ _ (⟨#[72, 111, 115, 116]⟩ : ByteArray) [.string (⟨#[72, 111, 115, 116]⟩ : ByteArray)] from rfl) (Reps.one (show Kd.M Kd.string _ _ _ (⟨#[85, 112, 103, 114, 97, 100, 101]⟩ : ByteArray) [.string (⟨#[85, 112, 103, 114, 97, 100, 101]⟩ : ByteArray)] from rfl) (Reps.one (show Kd.M Kd.string _ _ _ (⟨#[107, 101, 101, 112, 45, 97, 108, 105, 118, 101]⟩ : ByteArray) [.string (⟨#[107, 101, 101, 112, 45, 97, 108, 105, 118, 101]⟩ : ByteArray)] from rfl) (Reps.one (show Kd.M Kd.string _ _ _ (⟨#[65]⟩ : ByteArray) [.string (⟨#[65]⟩ : ByteArray)] from rfl) (Reps.one (show Kd.M Kd.string _ _ _ (⟨#[67, 111, 110, 116, 101, 110, 116, 45, 76, 101, 110, 103, 116, 104]⟩ : ByteArray) [.string (⟨#[67, 111, 110, 116, 101, 110, 116, 45, 76, 101, 110, 103, 116, 104]⟩ : ByteArray)] from rfl) (Reps.one (show Kd.M Kd.string _ _ _ (⟨#[84, 114, 97, 105, 108, 101, 114]⟩ : ByteArray) [.string (⟨#[84, 114, 97, 105, 108, 101, 114]⟩ : ByteArray)] from rfl) (Reps.one (show Kd.M Kd.string _ _ _ a2 [.string a2] from rfl) (Reps.none _ _)))))))))))
                                            intro v256 w34 ho35 hb hg_ hnew_
                                            clear hg_ hnew_
                                            (first | rw [← Ny255.out] at ho35 | (simp only [Int.reduceToNat] at ho35; rw [← Ny255.out] at ho35))
                                            have n0_ := Aside0.mk (Kd.R_below (by (with_reducible repeat (first | apply Kd.R_alloc | apply Kd.R_drewN | apply Kd.R_drew)); exact HO_9.out) hb)
                                            have n1_ := Aside0.mk (Kd.R_elder' (by (with_reducible repeat (first | apply Kd.R_alloc | apply Kd.R_drewN | apply Kd.R_drew)); exact HO262.out) (Kd.R_base ho35) hb)
                                            have n2_ := Aside0.mk (Kd.R_lower (Kd.R_new' ho35 (Kd.R_lt (by (with_reducible repeat (first | apply Kd.R_alloc | apply Kd.R_drewN | apply Kd.R_drew)); exact HO262.out))) (below_size (by repeat (first | (with_reducible first | exact HB.out | apply below_alloc | apply pw_below_drewN | apply below_drew1) | exact HB.out))))
                                            have n3_ := Aside0.mk (below_step (by repeat (first | (with_reducible first | exact HB.out | apply below_alloc | apply pw_below_drewN | apply below_drew1) | exact HB.out)) hb)
                                            clear HO_9
                                            clear HO262
                                            clear HB
                                            have HO_9 := n0_
                                            have HO262 := n1_
                                            have HO257 := n2_
                                            have HB := n3_
                                            clear n0_ n1_ n2_ n3_
                                            clear hb ho35
                                            obtain ⟨Ao36, co36, eo36⟩ := Kd.R_slice HO257.out
                                            subst eo36
                                            obtain ⟨ado36, fo36, _⟩ := Kd.at_string (Kd.R_reads' HO257.out).2.2 0 (by decide) (by rw [Ny255.out]; simp)
                                            cases fo36
                                            refine hK.out _ _ ⟨((HB.out.cell (World.block_lt_of_cell? w _ hw258_0)).trans hw258_0), ((HB.out.cell (World.block_lt_of_cell? w _ hw263_0)).trans hw263_0)⟩ (fun hHeld => ?_)
                                            clear hK K
                                            refine norm_ (a' := ?_) ?_ ?_
                                            rotate_left
                                            · show Act.put _ (some 42) _ = _
                                              simp only [Act.put, List.setIfInBounds_toArray, List.set_cons_zero, List.set_cons_succ, i64_w, i32_w]
                                              rfl
                                            refine pure_ (i := 8) (N := some 48) (v := ?_) (a' := ?_) #[true, true, true, true, true, true, true, true, true, false, true, true, true, true, true, true, true, true, true, true, false, false, false, false] rfl rfl (any_of HT_.out (by kernel_rfl)) (fun _ _ _ h => h) (Or.inl ⟨by rfl, ?_⟩) ?_ ?_
                                            rotate_left
                                            · intro w'
                                              go_simp
                                              with_reducible rfl
                                            rotate_left
                                            · simp only [Act.put, List.setIfInBounds_toArray, List.set_cons_zero, List.set_cons_succ, i64_w, i32_w]
                                              rfl
                                            exact norm_ (by first | (simp only [putAll, Act.put, List.setIfInBounds_toArray, List.set_cons_zero, List.set_cons_succ]; done) | (simp only [putAll, Act.put, List.setIfInBounds_toArray, List.set_cons_zero, List.set_cons_succ]; rfl)) (hJ2_11_19 (.slice (some ado36) y255.length co36, ado36, .slice (some adz_v261) y260.length co33, adz_v261) _ ⟨hHeld, (by (with_reducible repeat (first | apply Kd.R_alloc | apply Kd.R_drewN | apply Kd.R_drew)); exact Kd.R_mono HO257.out (fun _ hk => (by first | exact hk.2 | exact True.intro))), (by (with_reducible repeat (first | apply Kd.R_alloc | apply Kd.R_drewN | apply Kd.R_drew)); exact Kd.R_mono HO262.out (fun _ hk => (by first | exact hk.2 | exact True.intro))), (by (with_reducible repeat (first | apply Kd.R_alloc | apply Kd.R_drewN | apply Kd.R_drew)); exact HO_9.out), ⟨_, rfl⟩, ⟨_, rfl⟩, (by repeat (first | (with_reducible first | exact HB.out | apply below_alloc | apply pw_below_drewN | apply below_drew1) | exact HB.out))⟩)
                                        · skip
                                          rintro ⟨v256, adz_v256, v261, adz_v261⟩ w35 ⟨hS_, h0_, h1_, h2_, h3_, h4_, h5_⟩
                                          have n0_ : Aside0 (Kd.R Kd.string 9 w35 w.heap.size (fun k_ => some k_ ≠ (v261 : Value).ownBlock) v256 y255) := ⟨h0_⟩
                                          have n1_ : Aside0 (Kd.R Kd.string 9 w35 w.heap.size (fun k_ => some k_ ≠ (v256 : Value).ownBlock) v261 y260) := ⟨h1_⟩
                                          have n2_ : Aside0 (Kd.R k28 28 w35 w.heap.size (fun _ => True) (.slice Ao27 x9_1.length co27) x9_1) := ⟨h2_⟩
                                          have n3_ : Aside0 (∃ c_, (v256 : Value) = .slice (some adz_v256) y255.length c_) := ⟨h3_⟩
                                          have n4_ : Aside0 (∃ c_, (v261 : Value) = .slice (some adz_v261) y260.length c_) := ⟨h4_⟩
                                          have n5_ : Aside0 (Below w.heap.size w w35) := ⟨h5_⟩
                                          clear HO_9
                                          clear HB
                                          clear h0_ h1_ h2_ h3_ h4_ h5_
                                          have HO257 := n0_
                                          have HO262 := n1_
                                          have HO_9 := n2_
                                          have HA_HO257 := n3_
                                          have HA_HO262 := n4_
                                          have HB := n5_
                                          clear n0_ n1_ n2_ n3_ n4_ n5_
                                          have hHeld : w35.cell? (ad258.add (x10_1).toNat) = some (.int .u8 (rd l1 x10_1)) ∧ w35.cell? (ad258.add (x10_1).toNat) = some (.int .u8 (rd l1 x10_1)) := hS_
                                          obtain ⟨co36, eo36⟩ := HA_HO257.out
                                          clear HA_HO257
                                          subst eo36
                                          obtain ⟨co37, eo37⟩ := HA_HO262.out
                                          clear HA_HO262
                                          subst eo37
                                          refine norm_ (a' := ?_) ?_ ?_
                                          rotate_left
                                          · simp only [putAll, Act.put, List.setIfInBounds_toArray, List.set_cons_zero, List.set_cons_succ]
                                            rfl
                                          refine two_ (i := 9) (j := 19) (Ni := some 49) (Nj := some 59) #[true, true, true, true, true, true, true, true, true, true, true, true, true, true, true, true, true, true, true, false, false, false, false, false] #[true, true, true, true, true, true, true, true, true, false, true, true, true, true, true, true, true, true, true, true, false, false, false, false] rfl rfl rfl rfl (two_of HT_.out (by kernel_rfl)) (by decide) (by decide) (fun K hK => ?_) (fun K hK => ?_)
                                          · skip
                                            (have p259 : 0 ≤ ((ji20) : Int) := of_decide_eq_true (by first | (with_reducible assumption) | assumption); have q259 : (ji20) < (y255.length : Int) := of_decide_eq_true (by first | (with_reducible assumption) | assumption); obtain ⟨ad259, e259, hx259_0⟩ := Kd.at_string (Kd.R_reads' HO257.out).2.2 (ji20) p259 q259; obtain rfl : adz_v256 = ad259 := (by injection e259))
                                            refine value_ (w1 := ?_) (v := ?_) (by rfl) rfl ?_ ?_
                                            rotate_left 2
                                            · go_simp
                                              constructor
                                              · rfl
                                              · rfl
                                            clear hx259_0
                                            refine hK.out _ _ ⟨((HB.out.cell (World.block_lt_of_cell? w _ hw258_0)).trans hw258_0), ((HB.out.cell (World.block_lt_of_cell? w _ hw263_0)).trans hw263_0)⟩ (fun hHeld => ?_)
                                            clear hK K
                                            refine norm_ (a' := ?_) ?_ ?_
                                            rotate_left
                                            · show Act.put _ (some 49) _ = _
                                              simp only [Act.put, List.setIfInBounds_toArray, List.set_cons_zero, List.set_cons_succ, i64_w, i32_w]
                                              rfl
                                            exact norm_ (by first | (simp only [putAll, Act.put, List.setIfInBounds_toArray, List.set_cons_zero, List.set_cons_succ]; done) | (simp only [putAll, Act.put, List.setIfInBounds_toArray, List.set_cons_zero, List.set_cons_succ]; rfl)) (hJ2_9_11 (.slice (some adz_v256) y255.length co36, adz_v256, .slice (some adz_v261) y260.length co37, adz_v261) _ ⟨hHeld, (by (with_reducible repeat (first | apply Kd.R_alloc | apply Kd.R_drewN | apply Kd.R_drew)); exact HO257.out), (by (with_reducible repeat (first | apply Kd.R_alloc | apply Kd.R_drewN | apply Kd.R_drew)); exact HO262.out), (by (with_reducible repeat (first | apply Kd.R_alloc | apply Kd.R_drewN | apply Kd.R_drew)); exact HO_9.out), ⟨_, rfl⟩, ⟨_, rfl⟩, (by repeat (first | (with_reducible first | exact HB.out | apply below_alloc | apply pw_below_drewN | apply below_drew1) | exact HB.out))⟩)
                                          · skip
                                            (have p264 : 0 ≤ ((ji23) : Int) := of_decide_eq_true (by first | (with_reducible assumption) | assumption); have q264 : (ji23) < (y260.length : Int) := of_decide_eq_true (by first | (with_reducible assumption) | assumption); obtain ⟨ad264, e264, hx264_0⟩ := Kd.at_string (Kd.R_reads' HO262.out).2.2 (ji23) p264 q264; obtain rfl : adz_v261 = ad264 := (by injection e264))
                                            refine value_ (w1 := ?_) (v := ?_) (by rfl) rfl ?_ ?_
                                            rotate_left 2
                                            · go_simp
                                              constructor
                                              · rfl
                                              · rfl
                                            clear hx264_0
                                            refine hK.out _ _ ⟨((HB.out.cell (World.block_lt_of_cell? w _ hw258_0)).trans hw258_0), ((HB.out.cell (World.block_lt_of_cell? w _ hw263_0)).trans hw263_0)⟩ (fun hHeld => ?_)
                                            clear hK K
                                            refine norm_ (a' := ?_) ?_ ?_
                                            rotate_left
                                            · show Act.put _ (some 59) _ = _
                                              simp only [Act.put, List.setIfInBounds_toArray, List.set_cons_zero, List.set_cons_succ, i64_w, i32_w]
                                              rfl
                                            exact norm_ (by first | (simp only [putAll, Act.put, List.setIfInBounds_toArray, List.set_cons_zero, List.set_cons_succ]; done) | (simp only [putAll, Act.put, List.setIfInBounds_toArray, List.set_cons_zero, List.set_cons_succ]; rfl)) (hJ2_11_19 (.slice (some adz_v256) y255.length co36, adz_v256, .slice (some adz_v261) y260.length co37, adz_v261) _ ⟨hHeld, (by (with_reducible repeat (first | apply Kd.R_alloc | apply Kd.R_drewN | apply Kd.R_drew)); exact HO257.out), (by (with_reducible repeat (first | apply Kd.R_alloc | apply Kd.R_drewN | apply Kd.R_drew)); exact HO262.out), (by (with_reducible repeat (first | apply Kd.R_alloc | apply Kd.R_drewN | apply Kd.R_drew)); exact HO_9.out), ⟨_, rfl⟩, ⟨_, rfl⟩, (by repeat (first | (with_reducible first | exact HB.out | apply below_alloc | apply pw_below_drewN | apply below_drew1) | exact HB.out))⟩)
                                      · skip
                                        rintro ⟨v256, adz_v256⟩ w32 ⟨hS_, h0_, h1_, h2_, h3_⟩
                                        have n0_ : Aside0 (Kd.R Kd.string 9 w32 w.heap.size (fun _ => True) v256 y255) := ⟨h0_⟩
                                        have n1_ : Aside0 (Kd.R k28 28 w32 w.heap.size (fun _ => True) (.slice Ao27 x9_1.length co27) x9_1) := ⟨h1_⟩
                                        have n2_ : Aside0 (∃ c_, (v256 : Value) = .slice (some adz_v256) y255.length c_) := ⟨h2_⟩
                                        have n3_ : Aside0 (Below w.heap.size w w32) := ⟨h3_⟩
                                        clear HO_9
                                        clear HB
                                        clear h0_ h1_ h2_ h3_
                                        have HO257 := n0_
                                        have HO_9 := n1_
                                        have HA_HO257 := n2_
                                        have HB := n3_
                                        clear n0_ n1_ n2_ n3_
                                        have hHeld : w32.cell? (ad258.add (x10_1).toNat) = some (.int .u8 (rd l1 x10_1)) ∧ w32.cell? (ad258.add (x10_1).toNat) = some (.int .u8 (rd l1 x10_1)) := hS_
                                        obtain ⟨co33, eo33⟩ := HA_HO257.out
                                        clear HA_HO257
                                        subst eo33
                                        refine norm_ (a' := ?_) ?_ ?_
                                        rotate_left
                                        · simp only [putAll, Act.put, List.setIfInBounds_toArray, List.set_cons_zero, List.set_cons_succ]
                                          rfl
                                        refine one_ (i := 11) (N := some 51) #[true, true, true, true, true, true, true, true, true, true, true, true, true, true, true, true, true, true, false, false, false, false, false, false] rfl rfl (one_of HT_.out (by kernel_rfl)) (by decide) (fun K hK => ?_)
                                        refine Kd.R_lit_step Kd.string _ 9 ?hg (N := 51) ?hd (xs := ([(⟨#[120]⟩ : ByteArray), (⟨#[97, 44, 32, 99, 108, 111, 115, 101]⟩ : ByteArray), (⟨#[99, 111, 110, 116, 101, 110, 116, 45, 108, 101, 110, 103, 116, 104, 44, 32, 72, 79, 83, 84]⟩ : ByteArray), (⟨#[49]⟩ : ByteArray), (⟨#[]⟩ : ByteArray), a2] : List ByteArray)) (inner := [.string (⟨#[120]⟩ : ByteArray), .string (⟨#[97, 44, 32, 99, 108, 111, 115, 101]⟩ : ByteArray), .string (⟨#[99, 111, 110, 116, 101, 110, 116, 45, 108, 101, 110, 103, 116, 104, 44, 32, 72, 79, 83, 84]⟩ : ByteArray), .string (⟨#[49]⟩ : ByteArray), .string (⟨#[]⟩ : ByteArray), .string a2]) (ok := fun _ => True) (okp := fun _ => True) ?hr ?hp (fun _ hk => hk) trivial (Below.refl _ _) (Nat.le_refl _) (by simp) ?_; (case hd => rfl); (case hg => rfl); (case hr => first | (go_simp; done) | (go_simp; rfl)); (case hp => exact (Reps.one (show Kd.M Kd.string _ _ _ (⟨#[120]⟩ : ByteArray) [.string (⟨#[120]⟩ : ByteArray)] from rfl) (Reps.one (show Kd.M Kd.string _ _ _ (⟨#[97, 44, 32, 99, 108, 111, 115, 101]⟩ : ByteArray) [.string (⟨#[97, 44, 32, 99, 108, 111, 115, 101]⟩ : ByteArray)] from rfl) (Reps.one (show Kd.M Kd.string _ _ _ (⟨#[99, 111, 110, 116, 101, 110, 116, 45, 108, 101, 110, 103, 116, 104, 44, 32, 72, 79, 83, 84]⟩ : ByteArray) [.string (⟨#[99, 111, 110, 116, 101, 110, 116, 45, 108, 101, 110, 103, 116, 104, 44, 32, 72, 79, 83, 84]⟩ : ByteArray)] from rfl) (Reps.one (show Kd.M Kd.string _ _ _ (⟨#[49]⟩ : ByteArray) [.string (⟨#[49]⟩ : ByteArray)] from rfl) (Reps.one (show Kd.M Kd.string _ _ _ (⟨#[]⟩ : ByteArray) [.string (⟨#[]⟩ : ByteArray)] from rfl) (Reps.one (show Kd.M Kd.string _ _ _ a2 [.string a2] from rfl) (Reps.none _ _))))))))
                                        intro v261 w34 ho35 hb hg_ hnew_
                                        clear hg_ hnew_
                                        (first | rw [← Ny260.out] at ho35 | (simp only [Int.reduceToNat] at ho35; rw [← Ny260.out] at ho35))
                                        have n0_ := Aside0.mk (Kd.R_below (by (with_reducible repeat (first | apply Kd.R_alloc | apply Kd.R_drewN | apply Kd.R_drew)); exact HO_9.out) hb)
                                        have n1_ := Aside0.mk (Kd.R_elder' (by (with_reducible repeat (first | apply Kd.R_alloc | apply Kd.R_drewN | apply Kd.R_drew)); exact HO257.out) (Kd.R_base ho35) hb)
                                        have n2_ := Aside0.mk (Kd.R_lower (Kd.R_new' ho35 (Kd.R_lt (by (with_reducible repeat (first | apply Kd.R_alloc | apply Kd.R_drewN | apply Kd.R_drew)); exact HO257.out))) (below_size (by repeat (first | (with_reducible first | exact HB.out | apply below_alloc | apply pw_below_drewN | apply below_drew1) | exact HB.out))))
                                        have n3_ := Aside0.mk (below_step (by repeat (first | (with_reducible first | exact HB.out | apply below_alloc | apply pw_below_drewN | apply below_drew1) | exact HB.out)) hb)
                                        clear HO_9
                                        clear HO257
                                        clear HB
                                        have HO_9 := n0_
                                        have HO257 := n1_
                                        have HO262 := n2_
                                        have HB := n3_
                                        clear n0_ n1_ n2_ n3_
                                        clear hb ho35
                                        obtain ⟨Ao36, co36, eo36⟩ := Kd.R_slice HO262.out
                                        subst eo36
                                        obtain ⟨ado36, fo36, _⟩ := Kd.at_string (Kd.R_reads' HO262.out).2.2 0 (by decide) (by rw [Ny260.out]; simp)
                                        cases fo36
                                        refine hK.out _ _ ⟨((HB.out.cell (World.block_lt_of_cell? w _ hw258_0)).trans hw258_0), ((HB.out.cell (World.block_lt_of_cell? w _ hw263_0)).trans hw263_0)⟩ (fun hHeld => ?_)
                                        clear hK K
                                        refine norm_ (a' := ?_) ?_ ?_
                                        rotate_left
                                        · show Act.put _ (some 51) _ = _
                                          simp only [Act.put, List.setIfInBounds_toArray, List.set_cons_zero, List.set_cons_succ, i64_w, i32_w]
                                          rfl
                                        refine pure_ (i := 18) (N := some 58) (v := ?_) (a' := ?_) #[true, true, true, true, true, true, true, true, true, true, true, true, true, true, true, true, true, true, true, false, false, false, false, false] rfl rfl (any_of HT_.out (by kernel_rfl)) (fun _ _ _ h => h) (Or.inl ⟨by rfl, ?_⟩) ?_ ?_
                                        rotate_left
                                        · intro w'
                                          go_simp
                                          with_reducible rfl
                                        rotate_left
                                        · simp only [Act.put, List.setIfInBounds_toArray, List.set_cons_zero, List.set_cons_succ, i64_w, i32_w]
                                          rfl
                                        exact norm_ (by first | (simp only [putAll, Act.put, List.setIfInBounds_toArray, List.set_cons_zero, List.set_cons_succ]; done) | (simp only [putAll, Act.put, List.setIfInBounds_toArray, List.set_cons_zero, List.set_cons_succ]; rfl)) (hJ2_9_11 (.slice (some adz_v256) y255.length co33, adz_v256, .slice (some ado36) y260.length co36, ado36) _ ⟨hHeld, (by (with_reducible repeat (first | apply Kd.R_alloc | apply Kd.R_drewN | apply Kd.R_drew)); exact Kd.R_mono HO257.out (fun _ hk => (by first | exact hk.2 | exact True.intro))), (by (with_reducible repeat (first | apply Kd.R_alloc | apply Kd.R_drewN | apply Kd.R_drew)); exact Kd.R_mono HO262.out (fun _ hk => (by first | exact hk.2 | exact True.intro))), (by (with_reducible repeat (first | apply Kd.R_alloc | apply Kd.R_drewN | apply Kd.R_drew)); exact HO_9.out), ⟨_, rfl⟩, ⟨_, rfl⟩, (by repeat (first | (with_reducible first | exact HB.out | apply below_alloc | apply pw_below_drewN | apply below_drew1) | exact HB.out))⟩)
                                    · skip
                                      rintro ⟨v256, adz_v256, v261, adz_v261⟩ w35 ⟨hS_, h0_, h1_, h2_, h3_, h4_, h5_⟩
                                      have n0_ : Aside0 (Kd.R Kd.string 9 w35 w.heap.size (fun k_ => some k_ ≠ (v261 : Value).ownBlock) v256 y255) := ⟨h0_⟩
                                      have n1_ : Aside0 (Kd.R Kd.string 9 w35 w.heap.size (fun k_ => some k_ ≠ (v256 : Value).ownBlock) v261 y260) := ⟨h1_⟩
                                      have n2_ : Aside0 (Kd.R k28 28 w35 w.heap.size (fun _ => True) (.slice Ao27 x9_1.length co27) x9_1) := ⟨h2_⟩
                                      have n3_ : Aside0 (∃ c_, (v256 : Value) = .slice (some adz_v256) y255.length c_) := ⟨h3_⟩
                                      have n4_ : Aside0 (∃ c_, (v261 : Value) = .slice (some adz_v261) y260.length c_) := ⟨h4_⟩
                                      have n5_ : Aside0 (Below w.heap.size w w35) := ⟨h5_⟩
                                      clear HO_9
                                      clear HB
                                      clear h0_ h1_ h2_ h3_ h4_ h5_
                                      have HO257 := n0_
                                      have HO262 := n1_
                                      have HO_9 := n2_
                                      have HA_HO257 := n3_
                                      have HA_HO262 := n4_
                                      have HB := n5_
                                      clear n0_ n1_ n2_ n3_ n4_ n5_
                                      have hHeld : w35.cell? (ad258.add (x10_1).toNat) = some (.int .u8 (rd l1 x10_1)) ∧ w35.cell? (ad258.add (x10_1).toNat) = some (.int .u8 (rd l1 x10_1)) := hS_
                                      obtain ⟨co36, eo36⟩ := HA_HO257.out
                                      clear HA_HO257
                                      subst eo36
                                      obtain ⟨co37, eo37⟩ := HA_HO262.out
                                      clear HA_HO262
                                      subst eo37
                                      refine norm_ (a' := ?_) ?_ ?_
                                      rotate_left
                                      · simp only [putAll, Act.put, List.setIfInBounds_toArray, List.set_cons_zero, List.set_cons_succ]
                                        rfl
                                      refine one_ (i := 9) (N := some 49) #[true, true, true, true, true, true, true, true, true, true, true, true, true, true, true, true, true, true, true, true, false, false, false, false] rfl rfl (one_of HT_.out (by kernel_rfl)) (by decide) (fun K hK => ?_)
                                      (have p259 : 0 ≤ ((ji20) : Int) := of_decide_eq_true (by first | (with_reducible assumption) | assumption); have q259 : (ji20) < (y255.length : Int) := of_decide_eq_true (by first | (with_reducible assumption) | assumption); obtain ⟨ad259, e259, hx259_0⟩ := Kd.at_string (Kd.R_reads' HO257.out).2.2 (ji20) p259 q259; obtain rfl : adz_v256 = ad259 := (by injection e259))
                                      refine value_ (w1 := ?_) (v := ?_) (by rfl) rfl ?_ ?_
                                      rotate_left 2
                                      · go_simp
                                        constructor
                                        · rfl
                                        · rfl
                                      clear hx259_0
                                      refine hK.out _ _ ⟨((HB.out.cell (World.block_lt_of_cell? w _ hw258_0)).trans hw258_0), ((HB.out.cell (World.block_lt_of_cell? w _ hw263_0)).trans hw263_0)⟩ (fun hHeld => ?_)
                                      clear hK K
                                      refine norm_ (a' := ?_) ?_ ?_
                                      rotate_left
                                      · show Act.put _ (some 49) _ = _
                                        simp only [Act.put, List.setIfInBounds_toArray, List.set_cons_zero, List.set_cons_succ, i64_w, i32_w]
                                        rfl
                                      exact norm_ (by first | (simp only [putAll, Act.put, List.setIfInBounds_toArray, List.set_cons_zero, List.set_cons_succ]; done) | (simp only [putAll, Act.put, List.setIfInBounds_toArray, List.set_cons_zero, List.set_cons_succ]; rfl)) (hJ2_9_11_19 (.slice (some adz_v256) y255.length co36, adz_v256, .slice (some adz_v261) y260.length co37, adz_v261) _ ⟨hHeld, (by (with_reducible repeat (first | apply Kd.R_alloc | apply Kd.R_drewN | apply Kd.R_drew)); exact HO257.out), (by (with_reducible repeat (first | apply Kd.R_alloc | apply Kd.R_drewN | apply Kd.R_drew)); exact HO262.out), (by (with_reducible repeat (first | apply Kd.R_alloc | apply Kd.R_drewN | apply Kd.R_drew)); exact HO_9.out), ⟨_, rfl⟩, ⟨_, rfl⟩, (by repeat (first | (with_reducible first | exact HB.out | apply below_alloc | apply pw_below_drewN | apply below_drew1) | exact HB.out))⟩)
                                  · skip
                                    rintro ⟨v256, adz_v256, v261, adz_v261⟩ w35 ⟨hS_, h0_, h1_, h2_, h3_, h4_, h5_⟩
                                    have n0_ : Aside0 (Kd.R Kd.string 9 w35 w.heap.size (fun k_ => some k_ ≠ (v261 : Value).ownBlock) v256 y255) := ⟨h0_⟩
                                    have n1_ : Aside0 (Kd.R Kd.string 9 w35 w.heap.size (fun k_ => some k_ ≠ (v256 : Value).ownBlock) v261 y260) := ⟨h1_⟩
                                    have n2_ : Aside0 (Kd.R k28 28 w35 w.heap.size (fun _ => True) (.slice Ao27 x9_1.length co27) x9_1) := ⟨h2_⟩
                                    have n3_ : Aside0 (∃ c_, (v256 : Value) = .slice (some adz_v256) y255.length c_) := ⟨h3_⟩
                                    have n4_ : Aside0 (∃ c_, (v261 : Value) = .slice (some adz_v261) y260.length c_) := ⟨h4_⟩
                                    have n5_ : Aside0 (Below w.heap.size w w35) := ⟨h5_⟩
                                    clear HO_9
                                    clear HB
                                    clear h0_ h1_ h2_ h3_ h4_ h5_
                                    have HO257 := n0_
                                    have HO262 := n1_
                                    have HO_9 := n2_
                                    have HA_HO257 := n3_
                                    have HA_HO262 := n4_
                                    have HB := n5_
                                    clear n0_ n1_ n2_ n3_ n4_ n5_
                                    have hHeld : w35.cell? (ad258.add (x10_1).toNat) = some (.int .u8 (rd l1 x10_1)) ∧ w35.cell? (ad258.add (x10_1).toNat) = some (.int .u8 (rd l1 x10_1)) := hS_
                                    obtain ⟨co36, eo36⟩ := HA_HO257.out
                                    clear HA_HO257
                                    subst eo36
                                    obtain ⟨co37, eo37⟩ := HA_HO262.out
                                    clear HA_HO262
                                    subst eo37
                                    refine norm_ (a' := ?_) ?_ ?_
                                    rotate_left
                                    · simp only [putAll, Act.put, List.setIfInBounds_toArray, List.set_cons_zero, List.set_cons_succ]
                                      rfl
                                    refine one_ (i := 19) (N := some 59) #[true, true, true, true, true, true, true, true, true, true, true, true, true, true, true, true, true, true, true, true, false, false, false, false] rfl rfl (one_of HT_.out (by kernel_rfl)) (by decide) (fun K hK => ?_)
                                    (have p264 : 0 ≤ ((ji23) : Int) := of_decide_eq_true (by first | (with_reducible assumption) | assumption); have q264 : (ji23) < (y260.length : Int) := of_decide_eq_true (by first | (with_reducible assumption) | assumption); obtain ⟨ad264, e264, hx264_0⟩ := Kd.at_string (Kd.R_reads' HO262.out).2.2 (ji23) p264 q264; obtain rfl : adz_v261 = ad264 := (by injection e264))
                                    refine value_ (w1 := ?_) (v := ?_) (by rfl) rfl ?_ ?_
                                    rotate_left 2
                                    · go_simp
                                      constructor
                                      · rfl
                                      · rfl
                                    clear hx264_0
                                    refine hK.out _ _ ⟨((HB.out.cell (World.block_lt_of_cell? w _ hw258_0)).trans hw258_0), ((HB.out.cell (World.block_lt_of_cell? w _ hw263_0)).trans hw263_0)⟩ (fun hHeld => ?_)
                                    clear hK K
                                    refine norm_ (a' := ?_) ?_ ?_
                                    rotate_left
                                    · show Act.put _ (some 59) _ = _
                                      simp only [Act.put, List.setIfInBounds_toArray, List.set_cons_zero, List.set_cons_succ, i64_w, i32_w]
                                      rfl
                                    exact norm_ (by first | (simp only [putAll, Act.put, List.setIfInBounds_toArray, List.set_cons_zero, List.set_cons_succ]; done) | (simp only [putAll, Act.put, List.setIfInBounds_toArray, List.set_cons_zero, List.set_cons_succ]; rfl)) (hJ2_9_11_19 (.slice (some adz_v256) y255.length co36, adz_v256, .slice (some adz_v261) y260.length co37, adz_v261) _ ⟨hHeld, (by (with_reducible repeat (first | apply Kd.R_alloc | apply Kd.R_drewN | apply Kd.R_drew)); exact HO257.out), (by (with_reducible repeat (first | apply Kd.R_alloc | apply Kd.R_drewN | apply Kd.R_drew)); exact HO262.out), (by (with_reducible repeat (first | apply Kd.R_alloc | apply Kd.R_drewN | apply Kd.R_drew)); exact HO_9.out), ⟨_, rfl⟩, ⟨_, rfl⟩, (by repeat (first | (with_reducible first | exact HB.out | apply below_alloc | apply pw_below_drewN | apply below_drew1) | exact HB.out))⟩)
                                rintro ⟨v256, adz_v256, v261, adz_v261⟩ w35 ⟨hS_, h0_, h1_, h2_, h3_, h4_, h5_⟩
                                have n0_ : Aside0 (Kd.R Kd.string 9 w35 w.heap.size (fun k_ => some k_ ≠ (v261 : Value).ownBlock) v256 y255) := ⟨h0_⟩
                                have n1_ : Aside0 (Kd.R Kd.string 9 w35 w.heap.size (fun k_ => some k_ ≠ (v256 : Value).ownBlock) v261 y260) := ⟨h1_⟩
                                have n2_ : Aside0 (Kd.R k28 28 w35 w.heap.size (fun _ => True) (.slice Ao27 x9_1.length co27) x9_1) := ⟨h2_⟩
                                have n3_ : Aside0 (∃ c_, (v256 : Value) = .slice (some adz_v256) y255.length c_) := ⟨h3_⟩
                                have n4_ : Aside0 (∃ c_, (v261 : Value) = .slice (some adz_v261) y260.length c_) := ⟨h4_⟩
                                have n5_ : Aside0 (Below w.heap.size w w35) := ⟨h5_⟩
                                clear HO_9
                                clear HB
                                clear h0_ h1_ h2_ h3_ h4_ h5_
                                have HO257 := n0_
                                have HO262 := n1_
                                have HO_9 := n2_
                                have HA_HO257 := n3_
                                have HA_HO262 := n4_
                                have HB := n5_
                                clear n0_ n1_ n2_ n3_ n4_ n5_
                                have hHeld : w35.cell? (ad258.add (x10_1).toNat) = some (.int .u8 (rd l1 x10_1)) ∧ w35.cell? (ad258.add (x10_1).toNat) = some (.int .u8 (rd l1 x10_1)) := hS_
                                obtain ⟨co36, eo36⟩ := HA_HO257.out
                                clear HA_HO257
                                subst eo36
                                obtain ⟨co37, eo37⟩ := HA_HO262.out
                                clear HA_HO262
                                subst eo37
                                refine norm_ (a' := ?_) ?_ ?_
                                rotate_left
                                · simp only [putAll, Act.put, List.setIfInBounds_toArray, List.set_cons_zero, List.set_cons_succ]
                                  rfl
                                refine pure_ (i := 20) (N := some 60) (v := ?_) (a' := ?_) #[true, true, true, true, true, true, true, true, true, true, true, true, true, true, true, true, true, true, true, true, true, false, false, false] rfl rfl (any_of HT_.out (by kernel_rfl)) (fun _ _ _ h => h) (Or.inl ⟨by rfl, ?_⟩) ?_ ?_
                                rotate_left
                                · intro w'
                                  go_simp
                                  with_reducible rfl
                                rotate_left
                                · simp only [Act.put, List.setIfInBounds_toArray, List.set_cons_zero, List.set_cons_succ, i64_w, i32_w]
                                  rfl
                                refine one_ (i := 21) (N := some 61) #[true, true, true, true, true, true, true, true, true, true, true, true, true, true, true, true, true, true, true, true, true, true, false, false] rfl rfl (one_of HT_.out (by kernel_rfl)) (by decide) (fun K hK => ?_)
                                refine value_ (w1 := ?_) (v := ?_) (by rfl) rfl ?_ ?_
                                rotate_left 2
                                · go_simp
                                  constructor
                                  · rfl
                                  · rfl
                                refine hK.out _ _ ⟨(World.cell?_alloc_lt _ _ _ (World.block_lt_of_cell? _ _ (((HB.out.cell (World.block_lt_of_cell? w _ hw258_0)).trans hw258_0)))).trans (((HB.out.cell (World.block_lt_of_cell? w _ hw258_0)).trans hw258_0)), (World.cell?_alloc_lt _ _ _ (World.block_lt_of_cell? _ _ (((HB.out.cell (World.block_lt_of_cell? w _ hw263_0)).trans hw263_0)))).trans (((HB.out.cell (World.block_lt_of_cell? w _ hw263_0)).trans hw263_0))⟩ (fun hHeld => ?_)
                                clear hK K
                                refine norm_ (a' := ?_) ?_ ?_
                                rotate_left
                                · show Act.put _ (some 61) _ = _
                                  simp only [Act.put, List.setIfInBounds_toArray, List.set_cons_zero, List.set_cons_succ, i64_w, i32_w]
                                  rfl
                                refine one_ (i := 22) (N := some 62) #[true, true, true, true, true, true, true, true, true, true, true, true, true, true, true, true, true, true, true, true, true, true, true, false] rfl rfl (one_of HT_.out (by kernel_rfl)) (by decide) (fun K hK => ?_)
                                refine Kd.R_append_step k28 (w0 := w) w.heap.size (by rfl) (.tmp 40) (.tmp 61) 22 28 (.agg #[(.string ⟨#[]⟩), (.string ⟨#[]⟩)]) 32 rfl Tryd.underlying22 info28 rfl (by decide) (by omega) (.slice Ao27 x9_1.length co27) x9_1 (⟨rdOf ByteArray.empty y255 (ji20), rdOf ByteArray.empty y260 (ji23)⟩ : S28) [.string (rdOf ByteArray.empty y255 (ji20)), .string (rdOf ByteArray.empty y260 (ji23))] (fun _ => True) (fun _ => False) rfl rfl ?aP (fun _ hk => hk.elim) ?aF ?aO ?aB ?aS ?aL ?_
                                (case aP => exact k28_mkM _ _ _ (⟨rdOf ByteArray.empty y255 (ji20), rdOf ByteArray.empty y260 (ji23)⟩ : S28))
                                (case aB => exact (by repeat (first | (with_reducible first | exact HB.out | apply below_alloc | apply pw_below_drewN | apply below_drew1) | exact HB.out)))
                                (case aF => exact (fun _ _ => trivial))
                                (case aO => exact (by (with_reducible repeat (first | apply Kd.R_alloc | apply Kd.R_drewN | apply Kd.R_drew)); exact HO_9.out))
                                (case aS => exact (below_size (by repeat (first | (with_reducible first | exact HB.out | apply below_alloc | apply pw_below_drewN | apply below_drew1) | exact HB.out))))
                                (case aL => have := LMc26.out; omega)
                                intro v266 w38 ho hb hg hat
                                rw [← Ny265.out] at ho
                                have n0_ := Aside0.mk (Kd.R_over' (by (with_reducible repeat (first | apply Kd.R_alloc | apply Kd.R_drewN | apply Kd.R_drew)); exact HO257.out) (Kd.R_typed (by (with_reducible repeat (first | apply Kd.R_alloc | apply Kd.R_drewN | apply Kd.R_drew)); exact HO_9.out)) (by decide) hg)
                                have n1_ := Aside0.mk (Kd.R_over' (by (with_reducible repeat (first | apply Kd.R_alloc | apply Kd.R_drewN | apply Kd.R_drew)); exact HO262.out) (Kd.R_typed (by (with_reducible repeat (first | apply Kd.R_alloc | apply Kd.R_drewN | apply Kd.R_drew)); exact HO_9.out)) (by decide) hg)
                                have n2_ := Aside0.mk (hb)
                                have n3_ := Aside0.mk (ho)
                                clear HO257
                                clear HO262
                                clear HB
                                clear HO_9
                                have HO257 := n0_
                                have HO262 := n1_
                                have HB := n2_
                                have HO267 := n3_
                                clear n0_ n1_ n2_ n3_
                                clear ho hb hg hat
                                refine hK.out _ _ ⟨((HB.out.cell (World.block_lt_of_cell? w _ hw258_0)).trans hw258_0), ((HB.out.cell (World.block_lt_of_cell? w _ hw263_0)).trans hw263_0)⟩ (fun hHeld => ?_)
                                clear hK K
                                refine norm_ (a' := ?_) ?_ ?_
                                rotate_left
                                · show Act.put _ (some 62) _ = _
                                  simp only [Act.put, List.setIfInBounds_toArray, List.set_cons_zero, List.set_cons_succ, i64_w, i32_w]
                                  rfl
                                refine pure_ (i := 23) (N := some 9) (v := ?_) (a' := ?_) #[true, true, true, true, true, true, true, true, true, true, true, true, true, true, true, true, true, true, true, true, true, true, true, true] rfl rfl (any_of HT_.out (by kernel_rfl)) (fun _ _ _ h => h) (Or.inl ⟨by rfl, ?_⟩) ?_ ?_
                                rotate_left
                                · intro w'
                                  go_simp
                                  with_reducible rfl
                                rotate_left
                                · simp only [Act.put, List.setIfInBounds_toArray, List.set_cons_zero, List.set_cons_succ, i64_w, i32_w]
                                  rfl
                                refine done_ (done_of HT_.out (by kernel_rfl)) ?_
                                try go_wp2
                                go_roundg k1
                                case measure => have := HK1.out; omega
                                case rel => exact ⟨(y265), (wrap64 (x10_1 + 1)), (by first | rfl | (simp; done) | (simp [*]; done)), H', ⟨by have := HK1.out; omega⟩, ⟨by (with_reducible repeat (first | apply Kd.R_alloc | apply Kd.R_drewN | apply Kd.R_drew)); exact HO267.out⟩, ⟨by repeat (first | (with_reducible first | exact HB.out | apply below_alloc | apply pw_below_drewN | apply below_drew1) | exact HB.out)⟩⟩
                              · rw [if_neg c26] at H
                                exact absurd H (by simp)
                            · rw [if_neg c25] at H
                              exact absurd H (by simp)
                          · rw [if_neg c24] at H
                            exact absurd H (by simp)
                        · rw [if_neg c22] at H
                          exact absurd H (by simp)
                      · rw [if_neg c21] at H
                        exact absurd H (by simp)
                    · rw [if_neg c19] at H
                      exact absurd H (by simp)
                  · rw [if_neg c18] at H
                    have c18b0 : decide (x10_1 < (l1.length : Int)) = false := decide_eq_false c18
                    clear c18
                    replace H := Option.bind_eq_some_iff.mp H
                    obtain ⟨t268, A390, H⟩ := H
                    (try dsimp only at H)
                    have A39 := Aside0.mk A390
                    clear A390
                    replace H := Option.bind_eq_some_iff.mp H
                    obtain ⟨t271, A400, H⟩ := H
                    (try dsimp only at H)
                    have A40 := Aside0.mk A400
                    clear A400
                    replace H := Option.bind_eq_some_iff.mp H
                    obtain ⟨t274, A410, H⟩ := H
                    (try dsimp only at H)
                    have A41 := Aside0.mk A410
                    clear A410
                    by_cases c42 : t274 = true
                    · subst c42
                      rw [if_pos rfl] at H
                      replace H := Option.bind_eq_some_iff.mp H
                      obtain ⟨t275, A430, H⟩ := H
                      (try dsimp only at H)
                      have A43 := Aside0.mk A430
                      clear A430
                      replace H := Option.bind_eq_some_iff.mp H
                      obtain ⟨t278, A440, H⟩ := H
                      (try dsimp only at H)
                      have A44 := Aside0.mk A440
                      clear A440
                      replace H := Option.bind_eq_some_iff.mp H
                      obtain ⟨t281, A450, H⟩ := H
                      (try dsimp only at H)
                      have A45 := Aside0.mk A450
                      clear A450
                      by_cases c46 : t281 = true
                      · subst c46
                        rw [if_pos rfl] at H
                        replace H := Option.bind_eq_some_iff.mp H
                        obtain ⟨t282, A470, H⟩ := H
                        (try dsimp only at H)
                        have A47 := Aside0.mk A470
                        clear A470
                        replace H := Option.bind_eq_some_iff.mp H
                        obtain ⟨t285, A480, H⟩ := H
                        (try dsimp only at H)
                        have A48 := Aside0.mk A480
                        clear A480
                        replace H := Option.bind_eq_some_iff.mp H
                        obtain ⟨t288, A490, H⟩ := H
                        (try dsimp only at H)
                        have A49 := Aside0.mk A490
                        clear A490
                        by_cases c50 : t288 = true
                        · subst c50
                          rw [if_pos rfl] at H
                          replace H := Option.bind_eq_some_iff.mp H
                          obtain ⟨t289, A510, H⟩ := H
                          (try dsimp only at H)
                          have A51 := Aside0.mk A510
                          clear A510
                          replace H := Option.bind_eq_some_iff.mp H
                          obtain ⟨t292, A520, H⟩ := H
                          (try dsimp only at H)
                          have A52 := Aside0.mk A520
                          clear A520
                          replace H := Option.bind_eq_some_iff.mp H
                          obtain ⟨t295, A530, H⟩ := H
                          (try dsimp only at H)
                          have A53 := Aside0.mk A530
                          clear A530
                          by_cases c54 : t295 = true
                          · subst c54
                            rw [if_pos rfl] at H
                            replace H := Option.bind_eq_some_iff.mp H
                            obtain ⟨t296, A550, H⟩ := H
                            (try dsimp only at H)
                            have A55 := Aside0.mk A550
                            clear A550
                            replace H := Option.bind_eq_some_iff.mp H
                            obtain ⟨t299, A560, H⟩ := H
                            (try dsimp only at H)
                            have A56 := Aside0.mk A560
                            clear A560
                            obtain rfl := Option.some.inj H
                            obtain ⟨Ao57, co57, eo57⟩ := Kd.R_slice HO_9.out
                            subst eo57
                            go_wp2_with (first | ((with_reducible refine gate_callee (f := 8) rfl ?_); refine goesL_ (some 64) rfl rfl Tryd.func8 (by kernel_rfl) rfl #[.slice Ao57 x9_1.length co57] rfl (by (try simp only [List.map_toArray, List.map_cons, List.map_nil]); first | done | rfl | (simp only [List.length_drop, List.length_take]; rfl)) ?_; (with_reducible refine (hop_Strip.calls k1 _ _ x9_1 t268 _ ?side1 ?side2 ?side3 A39.out).mono ?_); (case side1 => repeat (first | exact (Kd.R_reads' HO_9.out).2.2 | (with_reducible refine Kd.C_alloc ?_ _) | (with_reducible refine Kd.C_drewN ?_ _) | (with_reducible refine Kd.C_drew ?_))); (case side2 => exact (Kd.R_reads' HO_9.out).2.1); (case side3 => exact Laid.below HLX.out (by repeat (first | (with_reducible first | exact HB.out | apply below_alloc | apply pw_below_drewN | apply below_drew1) | exact HB.out))); rintro e w58 ⟨v269, rfl, ho0, hb⟩; refine ⟨_, rfl, ?_⟩; have n0_ := Aside0.mk (Kd.R_elder' (by (with_reducible repeat (first | apply Kd.R_alloc | apply Kd.R_drewN | apply Kd.R_drew)); exact HO_9.out) (Kd.R_base ho0) hb); have n1_ := Aside0.mk (Kd.R_lower (Kd.R_new' ho0 (Kd.R_lt (by (with_reducible repeat (first | apply Kd.R_alloc | apply Kd.R_drewN | apply Kd.R_drew)); exact HO_9.out))) (below_size (by repeat (first | (with_reducible first | exact HB.out | apply below_alloc | apply pw_below_drewN | apply below_drew1) | exact HB.out)))); have n2_ := Aside0.mk (below_step (by repeat (first | (with_reducible first | exact HB.out | apply below_alloc | apply pw_below_drewN | apply below_drew1) | exact HB.out)) hb); clear HO_9; clear HB; have HO_9 := n0_; have HO270 := n1_; have HB := n2_; clear n0_ n1_ n2_; (try clear hb); (try clear hb2); (try clear hk); (try clear hi); (try clear ho0)) | ((with_reducible refine gate_callee (f := 10) rfl ?_); refine goesL_ (some 67) rfl rfl Tryd.func10 (by kernel_rfl) rfl #[.slice Ao57 x9_1.length co57] rfl (by (try simp only [List.map_toArray, List.map_cons, List.map_nil]); first | done | rfl | (simp only [List.length_drop, List.length_take]; rfl)) ?_; (with_reducible refine (parallaxref17_Strip.calls k1 _ _ x9_1 t271 _ ?side1 ?side2 A40.out).mono ?_); (case side1 => repeat (first | exact (Kd.R_reads' HO_9.out).2.2 | (with_reducible refine Kd.C_alloc ?_ _) | (with_reducible refine Kd.C_drewN ?_ _) | (with_reducible refine Kd.C_drew ?_))); (case side2 => exact (Kd.R_reads' HO_9.out).2.1); rintro e w59 ⟨v272, rfl, ho0, hb⟩; refine ⟨_, rfl, ?_⟩; have n0_ := Aside0.mk (Kd.R_elder' (by (with_reducible repeat (first | apply Kd.R_alloc | apply Kd.R_drewN | apply Kd.R_drew)); exact HO_9.out) (Kd.R_base ho0) hb); have n1_ := Aside0.mk (Kd.R_elder' (by (with_reducible repeat (first | apply Kd.R_alloc | apply Kd.R_drewN | apply Kd.R_drew)); exact HO270.out) (Kd.R_base ho0) hb); have n2_ := Aside0.mk (Kd.R_lower (Kd.R_new' (Kd.R_new' ho0 (Kd.R_lt (by (with_reducible repeat (first | apply Kd.R_alloc | apply Kd.R_drewN | apply Kd.R_drew)); exact HO_9.out))) (Kd.R_lt (by (with_reducible repeat (first | apply Kd.R_alloc | apply Kd.R_drewN | apply Kd.R_drew)); exact HO270.out))) (below_size (by repeat (first | (with_reducible first | exact HB.out | apply below_alloc | apply pw_below_drewN | apply below_drew1) | exact HB.out)))); have n3_ := Aside0.mk (below_step (by repeat (first | (with_reducible first | exact HB.out | apply below_alloc | apply pw_below_drewN | apply below_drew1) | exact HB.out)) hb); clear HO_9; clear HO270; clear HB; have HO_9 := n0_; have HO270 := n1_; have HO273 := n2_; have HB := n3_; clear n0_ n1_ n2_ n3_; (try clear hb); (try clear hb2); (try clear hk); (try clear hi); (try clear ho0); obtain ⟨Ao60, co60, eo60⟩ := Kd.R_slice HO270.out; subst eo60; obtain ⟨Ao61, co61, eo61⟩ := Kd.R_slice HO273.out; subst eo61) | ((with_reducible refine gate_callee (f := 9) rfl ?_); refine goesL_ (some 68) rfl rfl Tryd.func9 (by kernel_rfl) rfl #[.slice Ao60 t268.length co60, .slice Ao61 t271.length co61] rfl (by (try simp only [List.map_toArray, List.map_cons, List.map_nil]); first | done | rfl | (simp only [List.length_drop, List.length_take]; rfl)) ?_; (with_reducible refine (parallaxref1_Fields.calls k1 _ _ t268 _ _ t271 true _ ?side1 ?side2 ?side3 ?side4 A41.out).mono ?_); (case side1 => repeat (first | exact (Kd.R_reads' HO270.out).2.2 | (with_reducible refine Kd.C_alloc ?_ _) | (with_reducible refine Kd.C_drewN ?_ _) | (with_reducible refine Kd.C_drew ?_))); (case side2 => exact (Kd.R_reads' HO270.out).2.1); (case side3 => repeat (first | exact (Kd.R_reads' HO273.out).2.2 | (with_reducible refine Kd.C_alloc ?_ _) | (with_reducible refine Kd.C_drewN ?_ _) | (with_reducible refine Kd.C_drew ?_))); (case side4 => exact (Kd.R_reads' HO273.out).2.1); rintro e w' ⟨rfl, ⟨nd, rfl⟩⟩; refine ⟨_, rfl, ?_⟩) | (go_at_call 11; (with_reducible refine (hop_Via.calls _ _ x9_1 a2 t275 _ ?side1 ?side2 A43.out).mono ?_); (case side1 => repeat (first | exact (Kd.R_reads' HO_9.out).2.2 | (with_reducible refine Kd.C_alloc ?_ _) | (with_reducible refine Kd.C_drewN ?_ _) | (with_reducible refine Kd.C_drew ?_))); (case side2 => exact (Kd.R_reads' HO_9.out).2.1); rintro e w62 ⟨v276, rfl, ho0, hb⟩; have n0_ := Aside0.mk (Kd.R_elder' (by (with_reducible repeat (first | apply Kd.R_alloc | apply Kd.R_drewN | apply Kd.R_drew)); exact HO_9.out) (Kd.R_base ho0) hb); have n1_ := Aside0.mk (Kd.R_elder' (by (with_reducible repeat (first | apply Kd.R_alloc | apply Kd.R_drewN | apply Kd.R_drew)); exact HO270.out) (Kd.R_base ho0) hb); have n2_ := Aside0.mk (Kd.R_elder' (by (with_reducible repeat (first | apply Kd.R_alloc | apply Kd.R_drewN | apply Kd.R_drew)); exact HO273.out) (Kd.R_base ho0) hb); have n3_ := Aside0.mk (Kd.R_lower (Kd.R_new' (Kd.R_new' (Kd.R_new' ho0 (Kd.R_lt (by (with_reducible repeat (first | apply Kd.R_alloc | apply Kd.R_drewN | apply Kd.R_drew)); exact HO_9.out))) (Kd.R_lt (by (with_reducible repeat (first | apply Kd.R_alloc | apply Kd.R_drewN | apply Kd.R_drew)); exact HO270.out))) (Kd.R_lt (by (with_reducible repeat (first | apply Kd.R_alloc | apply Kd.R_drewN | apply Kd.R_drew)); exact HO273.out))) (below_size (by repeat (first | (with_reducible first | exact HB.out | apply below_alloc | apply pw_below_drewN | apply below_drew1) | exact HB.out)))); have n4_ := Aside0.mk (below_step (by repeat (first | (with_reducible first | exact HB.out | apply below_alloc | apply pw_below_drewN | apply below_drew1) | exact HB.out)) hb); clear HO_9; clear HO270; clear HO273; clear HB; have HO_9 := n0_; have HO270 := n1_; have HO273 := n2_; have HO277 := n3_; have HB := n4_; clear n0_ n1_ n2_ n3_ n4_; (try clear hb); (try clear hb2); (try clear hk); (try clear hi); (try clear ho0)) | (go_at_call 12; (with_reducible refine (parallaxref17_Via.calls _ _ x9_1 a2 t278 _ ?side1 ?side2 A44.out).mono ?_); (case side1 => repeat (first | exact (Kd.R_reads' HO_9.out).2.2 | (with_reducible refine Kd.C_alloc ?_ _) | (with_reducible refine Kd.C_drewN ?_ _) | (with_reducible refine Kd.C_drew ?_))); (case side2 => exact (Kd.R_reads' HO_9.out).2.1); rintro e w63 ⟨v279, rfl, ho0, hb⟩; have n0_ := Aside0.mk (Kd.R_elder' (by (with_reducible repeat (first | apply Kd.R_alloc | apply Kd.R_drewN | apply Kd.R_drew)); exact HO_9.out) (Kd.R_base ho0) hb); have n1_ := Aside0.mk (Kd.R_elder' (by (with_reducible repeat (first | apply Kd.R_alloc | apply Kd.R_drewN | apply Kd.R_drew)); exact HO270.out) (Kd.R_base ho0) hb); have n2_ := Aside0.mk (Kd.R_elder' (by (with_reducible repeat (first | apply Kd.R_alloc | apply Kd.R_drewN | apply Kd.R_drew)); exact HO273.out) (Kd.R_base ho0) hb); have n3_ := Aside0.mk (Kd.R_elder' (by (with_reducible repeat (first | apply Kd.R_alloc | apply Kd.R_drewN | apply Kd.R_drew)); exact HO277.out) (Kd.R_base ho0) hb); have n4_ := Aside0.mk (Kd.R_lower (Kd.R_new' (Kd.R_new' (Kd.R_new' (Kd.R_new' ho0 (Kd.R_lt (by (with_reducible repeat (first | apply Kd.R_alloc | apply Kd.R_drewN | apply Kd.R_drew)); exact HO_9.out))) (Kd.R_lt (by (with_reducible repeat (first | apply Kd.R_alloc | apply Kd.R_drewN | apply Kd.R_drew)); exact HO270.out))) (Kd.R_lt (by (with_reducible repeat (first | apply Kd.R_alloc | apply Kd.R_drewN | apply Kd.R_drew)); exact HO273.out))) (Kd.R_lt (by (with_reducible repeat (first | apply Kd.R_alloc | apply Kd.R_drewN | apply Kd.R_drew)); exact HO277.out))) (below_size (by repeat (first | (with_reducible first | exact HB.out | apply below_alloc | apply pw_below_drewN | apply below_drew1) | exact HB.out)))); have n5_ := Aside0.mk (below_step (by repeat (first | (with_reducible first | exact HB.out | apply below_alloc | apply pw_below_drewN | apply below_drew1) | exact HB.out)) hb); clear HO_9; clear HO270; clear HO273; clear HO277; clear HB; have HO_9 := n0_; have HO270 := n1_; have HO273 := n2_; have HO277 := n3_; have HO280 := n4_; have HB := n5_; clear n0_ n1_ n2_ n3_ n4_ n5_; (try clear hb); (try clear hb2); (try clear hk); (try clear hi); (try clear ho0); obtain ⟨Ao64, co64, eo64⟩ := Kd.R_slice HO277.out; subst eo64; obtain ⟨Ao65, co65, eo65⟩ := Kd.R_slice HO280.out; subst eo65) | (go_at_call 9; (with_reducible refine (parallaxref1_Fields.calls k1 _ _ t275 _ _ t278 true _ ?side1 ?side2 ?side3 ?side4 A45.out).mono ?_); (case side1 => repeat (first | exact (Kd.R_reads' HO277.out).2.2 | (with_reducible refine Kd.C_alloc ?_ _) | (with_reducible refine Kd.C_drewN ?_ _) | (with_reducible refine Kd.C_drew ?_))); (case side2 => exact (Kd.R_reads' HO277.out).2.1); (case side3 => repeat (first | exact (Kd.R_reads' HO280.out).2.2 | (with_reducible refine Kd.C_alloc ?_ _) | (with_reducible refine Kd.C_drewN ?_ _) | (with_reducible refine Kd.C_drew ?_))); (case side4 => exact (Kd.R_reads' HO280.out).2.1); rintro e w' ⟨rfl, ⟨nd, rfl⟩⟩) | (go_at_call 13; (with_reducible refine (hop_From.calls _ _ x9_1 a3 t282 _ ?side1 ?side2 A47.out).mono ?_); (case side1 => repeat (first | exact (Kd.R_reads' HO_9.out).2.2 | (with_reducible refine Kd.C_alloc ?_ _) | (with_reducible refine Kd.C_drewN ?_ _) | (with_reducible refine Kd.C_drew ?_))); (case side2 => exact (Kd.R_reads' HO_9.out).2.1); rintro e w66 ⟨v283, rfl, ho0, hb⟩; have n0_ := Aside0.mk (Kd.R_elder' (by (with_reducible repeat (first | apply Kd.R_alloc | apply Kd.R_drewN | apply Kd.R_drew)); exact HO_9.out) (Kd.R_base ho0) hb); have n1_ := Aside0.mk (Kd.R_elder' (by (with_reducible repeat (first | apply Kd.R_alloc | apply Kd.R_drewN | apply Kd.R_drew)); exact HO270.out) (Kd.R_base ho0) hb); have n2_ := Aside0.mk (Kd.R_elder' (by (with_reducible repeat (first | apply Kd.R_alloc | apply Kd.R_drewN | apply Kd.R_drew)); exact HO273.out) (Kd.R_base ho0) hb); have n3_ := Aside0.mk (Kd.R_elder' (by (with_reducible repeat (first | apply Kd.R_alloc | apply Kd.R_drewN | apply Kd.R_drew)); exact HO277.out) (Kd.R_base ho0) hb); have n4_ := Aside0.mk (Kd.R_elder' (by (with_reducible repeat (first | apply Kd.R_alloc | apply Kd.R_drewN | apply Kd.R_drew)); exact HO280.out) (Kd.R_base ho0) hb); have n5_ := Aside0.mk (Kd.R_lower (Kd.R_new' (Kd.R_new' (Kd.R_new' (Kd.R_new' (Kd.R_new' ho0 (Kd.R_lt (by (with_reducible repeat (first | apply Kd.R_alloc | apply Kd.R_drewN | apply Kd.R_drew)); exact HO_9.out))) (Kd.R_lt (by (with_reducible repeat (first | apply Kd.R_alloc | apply Kd.R_drewN | apply Kd.R_drew)); exact HO270.out))) (Kd.R_lt (by (with_reducible repeat (first | apply Kd.R_alloc | apply Kd.R_drewN | apply Kd.R_drew)); exact HO273.out))) (Kd.R_lt (by (with_reducible repeat (first | apply Kd.R_alloc | apply Kd.R_drewN | apply Kd.R_drew)); exact HO277.out))) (Kd.R_lt (by (with_reducible repeat (first | apply Kd.R_alloc | apply Kd.R_drewN | apply Kd.R_drew)); exact HO280.out))) (below_size (by repeat (first | (with_reducible first | exact HB.out | apply below_alloc | apply pw_below_drewN | apply below_drew1) | exact HB.out)))); have n6_ := Aside0.mk (below_step (by repeat (first | (with_reducible first | exact HB.out | apply below_alloc | apply pw_below_drewN | apply below_drew1) | exact HB.out)) hb); clear HO_9; clear HO270; clear HO273; clear HO277; clear HO280; clear HB; have HO_9 := n0_; have HO270 := n1_; have HO273 := n2_; have HO277 := n3_; have HO280 := n4_; have HO284 := n5_; have HB := n6_; clear n0_ n1_ n2_ n3_ n4_ n5_ n6_; (try clear hb); (try clear hb2); (try clear hk); (try clear hi); (try clear ho0)) | (go_at_call 14; (with_reducible refine (parallaxref17_From.calls _ _ x9_1 a3 t285 _ ?side1 ?side2 A48.out).mono ?_); (case side1 => repeat (first | exact (Kd.R_reads' HO_9.out).2.2 | (with_reducible refine Kd.C_alloc ?_ _) | (with_reducible refine Kd.C_drewN ?_ _) | (with_reducible refine Kd.C_drew ?_))); (case side2 => exact (Kd.R_reads' HO_9.out).2.1); rintro e w67 ⟨v286, rfl, ho0, hb⟩; have n0_ := Aside0.mk (Kd.R_elder' (by (with_reducible repeat (first | apply Kd.R_alloc | apply Kd.R_drewN | apply Kd.R_drew)); exact HO_9.out) (Kd.R_base ho0) hb); have n1_ := Aside0.mk (Kd.R_elder' (by (with_reducible repeat (first | apply Kd.R_alloc | apply Kd.R_drewN | apply Kd.R_drew)); exact HO270.out) (Kd.R_base ho0) hb); have n2_ := Aside0.mk (Kd.R_elder' (by (with_reducible repeat (first | apply Kd.R_alloc | apply Kd.R_drewN | apply Kd.R_drew)); exact HO273.out) (Kd.R_base ho0) hb); have n3_ := Aside0.mk (Kd.R_elder' (by (with_reducible repeat (first | apply Kd.R_alloc | apply Kd.R_drewN | apply Kd.R_drew)); exact HO277.out) (Kd.R_base ho0) hb); have n4_ := Aside0.mk (Kd.R_elder' (by (with_reducible repeat (first | apply Kd.R_alloc | apply Kd.R_drewN | apply Kd.R_drew)); exact HO280.out) (Kd.R_base ho0) hb); have n5_ := Aside0.mk (Kd.R_elder' (by (with_reducible repeat (first | apply Kd.R_alloc | apply Kd.R_drewN | apply Kd.R_drew)); exact HO284.out) (Kd.R_base ho0) hb); have n6_ := Aside0.mk (Kd.R_lower (Kd.R_new' (Kd.R_new' (Kd.R_new' (Kd.R_new' (Kd.R_new' (Kd.R_new' ho0 (Kd.R_lt (by (with_reducible repeat (first | apply Kd.R_alloc | apply Kd.R_drewN | apply Kd.R_drew)); exact HO_9.out))) (Kd.R_lt (by (with_reducible repeat (first | apply Kd.R_alloc | apply Kd.R_drewN | apply Kd.R_drew)); exact HO270.out))) (Kd.R_lt (by (with_reducible repeat (first | apply Kd.R_alloc | apply Kd.R_drewN | apply Kd.R_drew)); exact HO273.out))) (Kd.R_lt (by (with_reducible repeat (first | apply Kd.R_alloc | apply Kd.R_drewN | apply Kd.R_drew)); exact HO277.out))) (Kd.R_lt (by (with_reducible repeat (first | apply Kd.R_alloc | apply Kd.R_drewN | apply Kd.R_drew)); exact HO280.out))) (Kd.R_lt (by (with_reducible repeat (first | apply Kd.R_alloc | apply Kd.R_drewN | apply Kd.R_drew)); exact HO284.out))) (below_size (by repeat (first | (with_reducible first | exact HB.out | apply below_alloc | apply pw_below_drewN | apply below_drew1) | exact HB.out)))); have n7_ := Aside0.mk (below_step (by repeat (first | (with_reducible first | exact HB.out | apply below_alloc | apply pw_below_drewN | apply below_drew1) | exact HB.out)) hb); clear HO_9; clear HO270; clear HO273; clear HO277; clear HO280; clear HO284; clear HB; have HO_9 := n0_; have HO270 := n1_; have HO273 := n2_; have HO277 := n3_; have HO280 := n4_; have HO284 := n5_; have HO287 := n6_; have HB := n7_; clear n0_ n1_ n2_ n3_ n4_ n5_ n6_ n7_; (try clear hb); (try clear hb2); (try clear hk); (try clear hi); (try clear ho0); obtain ⟨Ao68, co68, eo68⟩ := Kd.R_slice HO284.out; subst eo68; obtain ⟨Ao69, co69, eo69⟩ := Kd.R_slice HO287.out; subst eo69) | (go_at_call 9; (with_reducible refine (parallaxref1_Fields.calls k1 _ _ t282 _ _ t285 true _ ?side1 ?side2 ?side3 ?side4 A49.out).mono ?_); (case side1 => repeat (first | exact (Kd.R_reads' HO284.out).2.2 | (with_reducible refine Kd.C_alloc ?_ _) | (with_reducible refine Kd.C_drewN ?_ _) | (with_reducible refine Kd.C_drew ?_))); (case side2 => exact (Kd.R_reads' HO284.out).2.1); (case side3 => repeat (first | exact (Kd.R_reads' HO287.out).2.2 | (with_reducible refine Kd.C_alloc ?_ _) | (with_reducible refine Kd.C_drewN ?_ _) | (with_reducible refine Kd.C_drew ?_))); (case side4 => exact (Kd.R_reads' HO287.out).2.1); rintro e w' ⟨rfl, ⟨nd, rfl⟩⟩) | (go_at_call 16; (with_reducible refine (hop_Names.calls  t289 _ ?side1 A51.out).mono ?_); (case side1 => exact Laid.below HLX.out (by repeat (first | (with_reducible first | exact HB.out | apply below_alloc | apply pw_below_drewN | apply below_drew1) | exact HB.out))); rintro e w70 ⟨v290, rfl, ho0, hb⟩; have n0_ := Aside0.mk (Kd.R_below (by (with_reducible repeat (first | apply Kd.R_alloc | apply Kd.R_drewN | apply Kd.R_drew)); exact HO_9.out) hb); have n1_ := Aside0.mk (Kd.R_below (by (with_reducible repeat (first | apply Kd.R_alloc | apply Kd.R_drewN | apply Kd.R_drew)); exact HO270.out) hb); have n2_ := Aside0.mk (Kd.R_below (by (with_reducible repeat (first | apply Kd.R_alloc | apply Kd.R_drewN | apply Kd.R_drew)); exact HO273.out) hb); have n3_ := Aside0.mk (Kd.R_below (by (with_reducible repeat (first | apply Kd.R_alloc | apply Kd.R_drewN | apply Kd.R_drew)); exact HO277.out) hb); have n4_ := Aside0.mk (Kd.R_below (by (with_reducible repeat (first | apply Kd.R_alloc | apply Kd.R_drewN | apply Kd.R_drew)); exact HO280.out) hb); have n5_ := Aside0.mk (Kd.R_below (by (with_reducible repeat (first | apply Kd.R_alloc | apply Kd.R_drewN | apply Kd.R_drew)); exact HO284.out) hb); have n6_ := Aside0.mk (Kd.R_below (by (with_reducible repeat (first | apply Kd.R_alloc | apply Kd.R_drewN | apply Kd.R_drew)); exact HO287.out) hb); have n7_ := Aside0.mk (Kd.R_lower ho0 (below_size (by repeat (first | (with_reducible first | exact HB.out | apply below_alloc | apply pw_below_drewN | apply below_drew1) | exact HB.out)))); have n8_ := Aside0.mk (below_step (by repeat (first | (with_reducible first | exact HB.out | apply below_alloc | apply pw_below_drewN | apply below_drew1) | exact HB.out)) hb); clear HO_9; clear HO270; clear HO273; clear HO277; clear HO280; clear HO284; clear HO287; clear HB; have HO_9 := n0_; have HO270 := n1_; have HO273 := n2_; have HO277 := n3_; have HO280 := n4_; have HO284 := n5_; have HO287 := n6_; have HO291 := n7_; have HB := n8_; clear n0_ n1_ n2_ n3_ n4_ n5_ n6_ n7_ n8_; (try clear hb); (try clear hb2); (try clear hk); (try clear hi); (try clear ho0)) | (go_at_call 17; (with_reducible refine (parallaxref17_Names.calls  t292 _ A52.out).mono ?_); rintro e w71 ⟨v293, rfl, ho0, hb⟩; have n0_ := Aside0.mk (Kd.R_below (by (with_reducible repeat (first | apply Kd.R_alloc | apply Kd.R_drewN | apply Kd.R_drew)); exact HO_9.out) hb); have n1_ := Aside0.mk (Kd.R_below (by (with_reducible repeat (first | apply Kd.R_alloc | apply Kd.R_drewN | apply Kd.R_drew)); exact HO270.out) hb); have n2_ := Aside0.mk (Kd.R_below (by (with_reducible repeat (first | apply Kd.R_alloc | apply Kd.R_drewN | apply Kd.R_drew)); exact HO273.out) hb); have n3_ := Aside0.mk (Kd.R_below (by (with_reducible repeat (first | apply Kd.R_alloc | apply Kd.R_drewN | apply Kd.R_drew)); exact HO277.out) hb); have n4_ := Aside0.mk (Kd.R_below (by (with_reducible repeat (first | apply Kd.R_alloc | apply Kd.R_drewN | apply Kd.R_drew)); exact HO280.out) hb); have n5_ := Aside0.mk (Kd.R_below (by (with_reducible repeat (first | apply Kd.R_alloc | apply Kd.R_drewN | apply Kd.R_drew)); exact HO284.out) hb); have n6_ := Aside0.mk (Kd.R_below (by (with_reducible repeat (first | apply Kd.R_alloc | apply Kd.R_drewN | apply Kd.R_drew)); exact HO287.out) hb); have n7_ := Aside0.mk (Kd.R_elder' (by (with_reducible repeat (first | apply Kd.R_alloc | apply Kd.R_drewN | apply Kd.R_drew)); exact HO291.out) (Kd.R_base ho0) hb); have n8_ := Aside0.mk (Kd.R_lower (Kd.R_new' ho0 (Kd.R_lt (by (with_reducible repeat (first | apply Kd.R_alloc | apply Kd.R_drewN | apply Kd.R_drew)); exact HO291.out))) (below_size (by repeat (first | (with_reducible first | exact HB.out | apply below_alloc | apply pw_below_drewN | apply below_drew1) | exact HB.out)))); have n9_ := Aside0.mk (below_step (by repeat (first | (with_reducible first | exact HB.out | apply below_alloc | apply pw_below_drewN | apply below_drew1) | exact HB.out)) hb); clear HO_9; clear HO270; clear HO273; clear HO277; clear HO280; clear HO284; clear HO287; clear HO291; clear HB; have HO_9 := n0_; have HO270 := n1_; have HO273 := n2_; have HO277 := n3_; have HO280 := n4_; have HO284 := n5_; have HO287 := n6_; have HO291 := n7_; have HO294 := n8_; have HB := n9_; clear n0_ n1_ n2_ n3_ n4_ n5_ n6_ n7_ n8_ n9_; (try clear hb); (try clear hb2); (try clear hk); (try clear hi); (try clear ho0); obtain ⟨Ao72, co72, eo72⟩ := Kd.R_slice HO291.out; subst eo72; obtain ⟨Ao73, co73, eo73⟩ := Kd.R_slice HO294.out; subst eo73) | (go_at_call 15; (with_reducible refine (parallaxref1_Strings.calls k1 _ _ t289 _ _ t292 true _ ?side1 ?side2 ?side3 ?side4 A53.out).mono ?_); (case side1 => repeat (first | exact (Kd.R_reads' HO291.out).2.2 | (with_reducible refine Kd.C_alloc ?_ _) | (with_reducible refine Kd.C_drewN ?_ _) | (with_reducible refine Kd.C_drew ?_))); (case side2 => exact (Kd.R_reads' HO291.out).2.1); (case side3 => repeat (first | exact (Kd.R_reads' HO294.out).2.2 | (with_reducible refine Kd.C_alloc ?_ _) | (with_reducible refine Kd.C_drewN ?_ _) | (with_reducible refine Kd.C_drew ?_))); (case side4 => exact (Kd.R_reads' HO294.out).2.1); rintro e w' ⟨rfl, ⟨nd, rfl⟩⟩) | (go_at_call 8; (with_reducible refine (hop_Strip.calls k1 _ _ t268 t296 _ ?side1 ?side2 ?side3 A55.out).mono ?_); (case side1 => repeat (first | exact (Kd.R_reads' HO270.out).2.2 | (with_reducible refine Kd.C_alloc ?_ _) | (with_reducible refine Kd.C_drewN ?_ _) | (with_reducible refine Kd.C_drew ?_))); (case side2 => exact (Kd.R_reads' HO270.out).2.1); (case side3 => exact Laid.below HLX.out (by repeat (first | (with_reducible first | exact HB.out | apply below_alloc | apply pw_below_drewN | apply below_drew1) | exact HB.out))); rintro e w74 ⟨v297, rfl, ho0, hb⟩; have n0_ := Aside0.mk (Kd.R_elder' (by (with_reducible repeat (first | apply Kd.R_alloc | apply Kd.R_drewN | apply Kd.R_drew)); exact HO_9.out) (Kd.R_base ho0) hb); have n1_ := Aside0.mk (Kd.R_elder' (by (with_reducible repeat (first | apply Kd.R_alloc | apply Kd.R_drewN | apply Kd.R_drew)); exact HO270.out) (Kd.R_base ho0) hb); have n2_ := Aside0.mk (Kd.R_elder' (by (with_reducible repeat (first | apply Kd.R_alloc | apply Kd.R_drewN | apply Kd.R_drew)); exact HO273.out) (Kd.R_base ho0) hb); have n3_ := Aside0.mk (Kd.R_elder' (by (with_reducible repeat (first | apply Kd.R_alloc | apply Kd.R_drewN | apply Kd.R_drew)); exact HO277.out) (Kd.R_base ho0) hb); have n4_ := Aside0.mk (Kd.R_elder' (by (with_reducible repeat (first | apply Kd.R_alloc | apply Kd.R_drewN | apply Kd.R_drew)); exact HO280.out) (Kd.R_base ho0) hb); have n5_ := Aside0.mk (Kd.R_elder' (by (with_reducible repeat (first | apply Kd.R_alloc | apply Kd.R_drewN | apply Kd.R_drew)); exact HO284.out) (Kd.R_base ho0) hb); have n6_ := Aside0.mk (Kd.R_elder' (by (with_reducible repeat (first | apply Kd.R_alloc | apply Kd.R_drewN | apply Kd.R_drew)); exact HO287.out) (Kd.R_base ho0) hb); have n7_ := Aside0.mk (Kd.R_below (by (with_reducible repeat (first | apply Kd.R_alloc | apply Kd.R_drewN | apply Kd.R_drew)); exact HO291.out) hb); have n8_ := Aside0.mk (Kd.R_below (by (with_reducible repeat (first | apply Kd.R_alloc | apply Kd.R_drewN | apply Kd.R_drew)); exact HO294.out) hb); have n9_ := Aside0.mk (Kd.R_lower (Kd.R_new' (Kd.R_new' (Kd.R_new' (Kd.R_new' (Kd.R_new' (Kd.R_new' (Kd.R_new' ho0 (Kd.R_lt (by (with_reducible repeat (first | apply Kd.R_alloc | apply Kd.R_drewN | apply Kd.R_drew)); exact HO_9.out))) (Kd.R_lt (by (with_reducible repeat (first | apply Kd.R_alloc | apply Kd.R_drewN | apply Kd.R_drew)); exact HO270.out))) (Kd.R_lt (by (with_reducible repeat (first | apply Kd.R_alloc | apply Kd.R_drewN | apply Kd.R_drew)); exact HO273.out))) (Kd.R_lt (by (with_reducible repeat (first | apply Kd.R_alloc | apply Kd.R_drewN | apply Kd.R_drew)); exact HO277.out))) (Kd.R_lt (by (with_reducible repeat (first | apply Kd.R_alloc | apply Kd.R_drewN | apply Kd.R_drew)); exact HO280.out))) (Kd.R_lt (by (with_reducible repeat (first | apply Kd.R_alloc | apply Kd.R_drewN | apply Kd.R_drew)); exact HO284.out))) (Kd.R_lt (by (with_reducible repeat (first | apply Kd.R_alloc | apply Kd.R_drewN | apply Kd.R_drew)); exact HO287.out))) (below_size (by repeat (first | (with_reducible first | exact HB.out | apply below_alloc | apply pw_below_drewN | apply below_drew1) | exact HB.out)))); have n10_ := Aside0.mk (below_step (by repeat (first | (with_reducible first | exact HB.out | apply below_alloc | apply pw_below_drewN | apply below_drew1) | exact HB.out)) hb); clear HO_9; clear HO270; clear HO273; clear HO277; clear HO280; clear HO284; clear HO287; clear HO291; clear HO294; clear HB; have HO_9 := n0_; have HO270 := n1_; have HO273 := n2_; have HO277 := n3_; have HO280 := n4_; have HO284 := n5_; have HO287 := n6_; have HO291 := n7_; have HO294 := n8_; have HO298 := n9_; have HB := n10_; clear n0_ n1_ n2_ n3_ n4_ n5_ n6_ n7_ n8_ n9_ n10_; (try clear hb); (try clear hb2); (try clear hk); (try clear hi); (try clear ho0); obtain ⟨Ao75, co75, eo75⟩ := Kd.R_slice HO298.out; subst eo75) | (go_at_call 9; (with_reducible refine (parallaxref1_Fields.calls k1 _ _ t296 _ _ t268 t299 _ ?side1 ?side2 ?side3 ?side4 A56.out).mono ?_); (case side1 => repeat (first | exact (Kd.R_reads' HO298.out).2.2 | (with_reducible refine Kd.C_alloc ?_ _) | (with_reducible refine Kd.C_drewN ?_ _) | (with_reducible refine Kd.C_drew ?_))); (case side2 => exact (Kd.R_reads' HO298.out).2.1); (case side3 => repeat (first | exact (Kd.R_reads' HO270.out).2.2 | (with_reducible refine Kd.C_alloc ?_ _) | (with_reducible refine Kd.C_drewN ?_ _) | (with_reducible refine Kd.C_drew ?_))); (case side4 => exact (Kd.R_reads' HO270.out).2.1); rintro e w' ⟨rfl, ⟨nd, rfl⟩⟩) | (go_at_call 8; (with_reducible refine (hop_Strip.calls k1 _ _ x9_1 t268 _ ?side1 ?side2 ?side3 A39.out).mono ?_); (case side1 => repeat (first | exact (Kd.R_reads' HO_9.out).2.2 | (with_reducible refine Kd.C_alloc ?_ _) | (with_reducible refine Kd.C_drewN ?_ _) | (with_reducible refine Kd.C_drew ?_))); (case side2 => exact (Kd.R_reads' HO_9.out).2.1); (case side3 => exact Laid.below HLX.out (by repeat (first | (with_reducible first | exact HB.out | apply below_alloc | apply pw_below_drewN | apply below_drew1) | exact HB.out))); rintro e w58 ⟨v269, rfl, ho0, hb⟩; have n0_ := Aside0.mk (Kd.R_elder' (by (with_reducible repeat (first | apply Kd.R_alloc | apply Kd.R_drewN | apply Kd.R_drew)); exact HO_9.out) (Kd.R_base ho0) hb); have n1_ := Aside0.mk (Kd.R_lower (Kd.R_new' ho0 (Kd.R_lt (by (with_reducible repeat (first | apply Kd.R_alloc | apply Kd.R_drewN | apply Kd.R_drew)); exact HO_9.out))) (below_size (by repeat (first | (with_reducible first | exact HB.out | apply below_alloc | apply pw_below_drewN | apply below_drew1) | exact HB.out)))); have n2_ := Aside0.mk (below_step (by repeat (first | (with_reducible first | exact HB.out | apply below_alloc | apply pw_below_drewN | apply below_drew1) | exact HB.out)) hb); clear HO_9; clear HB; have HO_9 := n0_; have HO270 := n1_; have HB := n2_; clear n0_ n1_ n2_; (try clear hb); (try clear hb2); (try clear hk); (try clear hi); (try clear ho0)) | (go_at_call 10; (with_reducible refine (parallaxref17_Strip.calls k1 _ _ x9_1 t271 _ ?side1 ?side2 A40.out).mono ?_); (case side1 => repeat (first | exact (Kd.R_reads' HO_9.out).2.2 | (with_reducible refine Kd.C_alloc ?_ _) | (with_reducible refine Kd.C_drewN ?_ _) | (with_reducible refine Kd.C_drew ?_))); (case side2 => exact (Kd.R_reads' HO_9.out).2.1); rintro e w59 ⟨v272, rfl, ho0, hb⟩; have n0_ := Aside0.mk (Kd.R_elder' (by (with_reducible repeat (first | apply Kd.R_alloc | apply Kd.R_drewN | apply Kd.R_drew)); exact HO_9.out) (Kd.R_base ho0) hb); have n1_ := Aside0.mk (Kd.R_elder' (by (with_reducible repeat (first | apply Kd.R_alloc | apply Kd.R_drewN | apply Kd.R_drew)); exact HO270.out) (Kd.R_base ho0) hb); have n2_ := Aside0.mk (Kd.R_lower (Kd.R_new' (Kd.R_new' ho0 (Kd.R_lt (by (with_reducible repeat (first | apply Kd.R_alloc | apply Kd.R_drewN | apply Kd.R_drew)); exact HO_9.out))) (Kd.R_lt (by (with_reducible repeat (first | apply Kd.R_alloc | apply Kd.R_drewN | apply Kd.R_drew)); exact HO270.out))) (below_size (by repeat (first | (with_reducible first | exact HB.out | apply below_alloc | apply pw_below_drewN | apply below_drew1) | exact HB.out)))); have n3_ := Aside0.mk (below_step (by repeat (first | (with_reducible first | exact HB.out | apply below_alloc | apply pw_below_drewN | apply below_drew1) | exact HB.out)) hb); clear HO_9; clear HO270; clear HB; have HO_9 := n0_; have HO270 := n1_; have HO273 := n2_; have HB := n3_; clear n0_ n1_ n2_ n3_; (try clear hb); (try clear hb2); (try clear hk); (try clear hi); (try clear ho0); obtain ⟨Ao60, co60, eo60⟩ := Kd.R_slice HO270.out; subst eo60; obtain ⟨Ao61, co61, eo61⟩ := Kd.R_slice HO273.out; subst eo61) | (go_at_call 9; (with_reducible refine (parallaxref1_Fields.calls k1 _ _ t268 _ _ t271 true _ ?side1 ?side2 ?side3 ?side4 A41.out).mono ?_); (case side1 => repeat (first | exact (Kd.R_reads' HO270.out).2.2 | (with_reducible refine Kd.C_alloc ?_ _) | (with_reducible refine Kd.C_drewN ?_ _) | (with_reducible refine Kd.C_drew ?_))); (case side2 => exact (Kd.R_reads' HO270.out).2.1); (case side3 => repeat (first | exact (Kd.R_reads' HO273.out).2.2 | (with_reducible refine Kd.C_alloc ?_ _) | (with_reducible refine Kd.C_drewN ?_ _) | (with_reducible refine Kd.C_drew ?_))); (case side4 => exact (Kd.R_reads' HO273.out).2.1); rintro e w' ⟨rfl, ⟨nd, rfl⟩⟩))
                            go_ret
                            exact ⟨by first | rfl | (simp [errW_none, errW_some] <;> rfl) | (simp [*, errW_none, errW_some] <;> rfl), by repeat (first | (with_reducible first | exact HB.out | apply below_alloc | apply pw_below_drewN | apply below_drew1) | exact HB.out)⟩
                          · replace c54 := Bool.eq_false_iff.mpr c54
                            subst c54
                            rw [if_neg (show ¬ (false = true) by decide)] at H
                            exact absurd ((Option.some.inj H).trans HT.out) (by decide)
                        · replace c50 := Bool.eq_false_iff.mpr c50
                          subst c50
                          rw [if_neg (show ¬ (false = true) by decide)] at H
                          exact absurd ((Option.some.inj H).trans HT.out) (by decide)
                      · replace c46 := Bool.eq_false_iff.mpr c46
                        subst c46
                        rw [if_neg (show ¬ (false = true) by decide)] at H
                        exact absurd ((Option.some.inj H).trans HT.out) (by decide)
                    · replace c42 := Bool.eq_false_iff.mpr c42
                      subst c42
                      rw [if_neg (show ¬ (false = true) by decide)] at H
                      exact absurd ((Option.some.inj H).trans HT.out) (by decide)
            · rw [if_neg c15] at H
              exact absurd H (by simp)
    · replace c8 := Bool.eq_false_iff.mpr c8
      subst c8
      rw [if_neg (show ¬ (false = true) by decide)] at H
      obtain rfl := Option.some.inj H
      go_enter Tryd.func3, Tryd.ntmps3
      go_wp2_with (first | ((with_reducible refine gate_callee (f := 6) rfl ?_); refine goesL_ (some 12) rfl rfl Tryd.func6 (by kernel_rfl) rfl #[] rfl (by (try simp only [List.map_toArray, List.map_cons, List.map_nil]); first | done | rfl | (simp only [List.length_drop, List.length_take]; rfl)) ?_; (with_reducible refine (parallaxlaw18_known.calls k  true _ rfl ?side1 A5.out).mono ?_); (case side1 => exact Laid.below HLX.out (by repeat (first | (with_reducible first | exact HB.out | apply below_alloc | apply pw_below_drewN | apply below_drew1) | exact HB.out))); rintro e w76 ⟨rfl, hb⟩; refine ⟨_, rfl, ?_⟩; have n0_ := Aside0.mk (below_step (by repeat (first | (with_reducible first | exact HB.out | apply below_alloc | apply pw_below_drewN | apply below_drew1) | exact HB.out)) hb); clear HB; have HB := n0_; clear n0_; (try clear hb); (try clear hb2); (try clear hk); (try clear hi)) | ((with_reducible refine gate_callee (f := 7) rfl ?_); refine goesL_ (some 15) rfl rfl Tryd.func7 (by kernel_rfl) rfl #[.slice A0 l0.length c0] rfl (by (try simp only [List.map_toArray, List.map_cons, List.map_nil]); first | done | rfl | (simp only [List.length_drop, List.length_take]; rfl)) ?_; (with_reducible refine (parallaxhelp_Fields.calls k _ _ l0 false _ ?side1 ?side2 A7.out).mono ?_); (case side1 => repeat (first | exact (Kd.C_below HR0.out HB.out) | (with_reducible refine Kd.C_alloc ?_ _) | (with_reducible refine Kd.C_drewN ?_ _) | (with_reducible refine Kd.C_drew ?_))); (case side2 => exact HC0.out); rintro e w' ⟨rfl, ⟨nd, rfl⟩⟩; refine ⟨_, rfl, ?_⟩) | (go_at_call 6; (with_reducible refine (parallaxlaw18_known.calls k  true _ rfl ?side1 A5.out).mono ?_); (case side1 => exact Laid.below HLX.out (by repeat (first | (with_reducible first | exact HB.out | apply below_alloc | apply pw_below_drewN | apply below_drew1) | exact HB.out))); rintro e w76 ⟨rfl, hb⟩; have n0_ := Aside0.mk (below_step (by repeat (first | (with_reducible first | exact HB.out | apply below_alloc | apply pw_below_drewN | apply below_drew1) | exact HB.out)) hb); clear HB; have HB := n0_; clear n0_; (try clear hb); (try clear hb2); (try clear hk); (try clear hi)) | (go_at_call 7; (with_reducible refine (parallaxhelp_Fields.calls k _ _ l0 false _ ?side1 ?side2 A7.out).mono ?_); (case side1 => repeat (first | exact (Kd.C_below HR0.out HB.out) | (with_reducible refine Kd.C_alloc ?_ _) | (with_reducible refine Kd.C_drewN ?_ _) | (with_reducible refine Kd.C_drew ?_))); (case side2 => exact HC0.out); rintro e w' ⟨rfl, ⟨nd, rfl⟩⟩))
      go_ret
      exact ⟨by first | rfl | (simp [errW_none, errW_some] <;> rfl) | (simp [*, errW_none, errW_some] <;> rfl), by repeat (first | (with_reducible first | exact HB.out | apply below_alloc | apply pw_below_drewN | apply below_drew1) | exact HB.out)⟩
  · replace c6 := Bool.eq_false_iff.mpr c6
    subst c6
    rw [if_neg (show ¬ (false = true) by decide)] at H
    exact absurd ((Option.some.inj H).trans HT.out) (by decide)

/-- THE ONE PURE STATEMENT of parallaxlaw18_HopTells: yours. -/
def parallaxlaw18_HopTells.Pure : Prop := ∀ (l0 : List (S28)) (l1 : List Int) (a2 : ByteArray) (a3 : ByteArray), (l0.length ≤ 9223372036854775807 ∧ ∀ x0_ ∈ l0, (x0_.f0.size ≤ 140737488351232 ∧ x0_.f1.size ≤ 140737488351232)) → l1.length ≤ maxLen → l1.length * 1 ≤ 140737488351232 → (∀ x ∈ l1, (Lit.int .u8 x).wf = true) → a2.size ≤ 140737488351232 → a3.size ≤ 140737488351232 → ∃ k, parallaxlaw18_HopTells.f k l0 l1 a2 a3 = some true

end Go.Proofs.YtfmpajagkjealaaDoor.PHopTells
