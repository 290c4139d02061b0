-- Written by a program of this session (wip/tools/myprint.sh)
import Derived.Test.YtfmpajagkjealaaDoorPHopAddsx0
import Derived.Test.YtfmpajagkjealaaDoorPHopAddsx1
import Derived.Test.YtfmpajagkjealaaDoorPHopAddsx3
namespace Go.Proofs.YtfmpajagkjealaaDoor.PHopAdds
open Go.RowKit Go.Proofs.YtfmpajagkjealaaDoorW.PrintWords Go.Proofs.YtfmpajagkjealaaDoorW.PrintLast Go.Proofs.YtfmpajagkjealaaDoorW.PrintMore
attribute [local go_sem] max2_int min2_int max_two min_two max_three min_three max_four min_four   -- for this text's walks alone
set_option linter.unusedVariables false
set_option linter.unusedSimpArgs false

attribute [local go_sem high] eqA28
/-! ### parallaxlaw18_HopAdds: function 5 -/
def parallaxlaw18_HopAdds.f (k : Nat) (l0 : List (S28)) (a1 : ByteArray) (a2 : ByteArray) : Option (Bool) := (parallaxlaw18_known.f k).bind fun t179 => (if t179 = true then ((parallaxhelp_Fields.f k l0).bind fun t180 => (if t180 = true then (if (wrap64 ((a1.size : Int) + (a2.size : Int))) > 60 then (some true) else ((hop_Via.f l0 a1).bind fun t181 => ((hop_From.f l0 a2).bind fun t184 => (if (t181.length : Int) = (wrap64 ((l0.length : Int) + 1)) then (if (t184.length : Int) = (wrap64 ((l0.length : Int) + 1)) then (if 0 ≤ (l0.length : Int) then (if (l0.length : Int) ≤ (t181.length : Int) then ((parallaxref1_Fields.f k (t181.take ((l0.length : Int) : Int).toNat) l0).bind fun t191 => (if t191 = true then (if (l0.length : Int) ≤ (t184.length : Int) then ((parallaxref1_Fields.f k (t184.take ((l0.length : Int) : Int).toNat) l0).bind fun t196 => (if t196 = true then (if (l0.length : Int) < (t181.length : Int) then (if 4 + a1.size ≤ 9223372036854775807 then (if ((((rd_T28 t181 (l0.length : Int)).f0).toList) == ([86, 105, 97] : List UInt8) && ((((rd_T28 t181 (l0.length : Int)).f1).toList) == (((⟨#[49, 46, 49, 32]⟩ : ByteArray) ++ a1).toList))) = true then (if (l0.length : Int) < (t184.length : Int) then (some ((((rd_T28 t184 (l0.length : Int)).f0).toList) == ([88, 45, 70, 111, 114, 119, 97, 114, 100, 101, 100, 45, 70, 111, 114] : List UInt8) && ((((rd_T28 t184 (l0.length : Int)).f1).toList) == a2.toList))) else (none)) else (some false)) else (none)) else (none)) else (some false))) else (none)) else (some false))) else (none)) else (none)) else (some false)) else (some false))))) else (some true))) else (some false))
theorem parallaxlaw18_HopAdds.mono : ∀ a0 a1 a2 k, LeO (parallaxlaw18_HopAdds.f k a0 a1 a2) (parallaxlaw18_HopAdds.f (k + 1) a0 a1 a2) := by
  intro a0 a1 a2 k
  unfold parallaxlaw18_HopAdds.f
  repeat' first
      | (with_reducible exact parallaxhelp_Fields.mono _ _)
      | (with_reducible exact parallaxlaw18_known.mono _)
      | (with_reducible exact parallaxref1_Fields.mono _ _ _)
      | (with_reducible exact LeO.refl _)
      | (with_reducible exact LeO.none _)
      | (with_reducible refine LeO.ite ?_ ?_)
      | (with_reducible refine LeO.bind ?_ (fun _ => ?_))
      | exact parallaxhelp_Fields.mono _ _
      | exact parallaxlaw18_known.mono _
      | exact parallaxref1_Fields.mono _ _ _
      | exact LeO.none _
      | refine LeO.ite ?_ ?_
      | refine LeO.bind ?_ (fun _ => ?_)
set_option maxHeartbeats 8000000 in
set_option maxRecDepth 100000 in
theorem parallaxlaw18_HopAdds.calls (k : Nat) (A0 : Option Addr) (c0 : Nat) (l0 : List (S28)) (a1 : ByteArray) (a2 : ByteArray) (r : Bool) (w : World) (hr0 : Kd.C k28 w A0 l0.length l0) (hc0 : l0.length ≤ c0) (hT : r = true) (hL : Laid.LaidX w) (h : parallaxlaw18_HopAdds.f k l0 a1 a2 = some r) :
    Calls Tryd.prog 5 #[.slice A0 l0.length c0, .string a1, .string a2] w fun e w' => e = .returned (.bool r) ∧ Below w.heap.size w w' := by
  have hu28 := Tryd.underlying28
  have HT := Aside0.mk hT
  clear hT
  have HR0 := Aside0.mk hr0
  have HC0 := Aside0.mk hc0
  clear hr0 hc0
  have HB := Aside0.mk (Below.refl w.heap.size w)
  have HLX := Aside0.mk hL
  clear hL
  have H : ((parallaxlaw18_known.f k).bind fun t179 => (if t179 = true then ((parallaxhelp_Fields.f k l0).bind fun t180 => (if t180 = true then (if (wrap64 ((a1.size : Int) + (a2.size : Int))) > 60 then (some true) else ((hop_Via.f l0 a1).bind fun t181 => ((hop_From.f l0 a2).bind fun t184 => (if (t181.length : Int) = (wrap64 ((l0.length : Int) + 1)) then (if (t184.length : Int) = (wrap64 ((l0.length : Int) + 1)) then (if 0 ≤ (l0.length : Int) then (if (l0.length : Int) ≤ (t181.length : Int) then ((parallaxref1_Fields.f k (t181.take ((l0.length : Int) : Int).toNat) l0).bind fun t191 => (if t191 = true then (if (l0.length : Int) ≤ (t184.length : Int) then ((parallaxref1_Fields.f k (t184.take ((l0.length : Int) : Int).toNat) l0).bind fun t196 => (if t196 = true then (if (l0.length : Int) < (t181.length : Int) then (if 4 + a1.size ≤ 9223372036854775807 then (if ((((rd_T28 t181 (l0.length : Int)).f0).toList) == ([86, 105, 97] : List UInt8) && ((((rd_T28 t181 (l0.length : Int)).f1).toList) == (((⟨#[49, 46, 49, 32]⟩ : ByteArray) ++ a1).toList))) = true then (if (l0.length : Int) < (t184.length : Int) then (some ((((rd_T28 t184 (l0.length : Int)).f0).toList) == ([88, 45, 70, 111, 114, 119, 97, 114, 100, 101, 100, 45, 70, 111, 114] : List UInt8) && ((((rd_T28 t184 (l0.length : Int)).f1).toList) == a2.toList))) else (none)) else (some false)) else (none)) else (none)) else (some false))) else (none)) else (some false))) else (none)) else (none)) else (some false)) else (some false))))) else (some true))) else (some false))) = some r := h
  clear h
  replace H := Option.bind_eq_some_iff.mp H
  obtain ⟨t179, A40, H⟩ := H
  (try dsimp only at H)
  have A4 := Aside0.mk A40
  clear A40
  by_cases c5 : t179 = true
  · subst c5
    rw [if_pos rfl] at H
    replace H := Option.bind_eq_some_iff.mp H
    obtain ⟨t180, A60, H⟩ := H
    (try dsimp only at H)
    have A6 := Aside0.mk A60
    clear A60
    by_cases c7 : t180 = true
    · subst c7
      rw [if_pos rfl] at H
      by_cases c8 : (wrap64 ((a1.size : Int) + (a2.size : Int))) > 60
      · rw [if_pos c8] at H
        have c8b0 : decide (60 < (wrap64 ((a1.size : Int) + (a2.size : Int)))) = true := decide_eq_true c8
        clear c8
        obtain rfl := Option.some.inj H
        go_enter Tryd.func5, Tryd.ntmps5
        go_wp2_with (first | ((with_reducible refine gate_callee (f := 6) rfl ?_); refine goesL_ (some 10) rfl rfl Tryd.func6 (by kernel_rfl) rfl #[] rfl (by (try simp only [List.map_toArray, List.map_cons, List.map_nil]); first | done | rfl | (simp only [List.length_drop, List.length_take]; rfl)) ?_; (with_reducible refine (parallaxlaw18_known.calls k  true _ rfl ?side1 A4.out).mono ?_); (case side1 => exact Laid.below HLX.out (by repeat (first | (with_reducible first | exact HB.out | apply below_alloc | apply pw_below_drewN | apply below_drew1) | exact HB.out))); rintro e w9 ⟨rfl, hb⟩; refine ⟨_, rfl, ?_⟩; have n0_ := Aside0.mk (below_step (by repeat (first | (with_reducible first | exact HB.out | apply below_alloc | apply pw_below_drewN | apply below_drew1) | exact HB.out)) hb); clear HB; have HB := n0_; clear n0_; (try clear hb); (try clear hb2); (try clear hk); (try clear hi)) | ((with_reducible refine gate_callee (f := 7) rfl ?_); refine goesL_ (some 13) rfl rfl Tryd.func7 (by kernel_rfl) rfl #[.slice A0 l0.length c0] rfl (by (try simp only [List.map_toArray, List.map_cons, List.map_nil]); first | done | rfl | (simp only [List.length_drop, List.length_take]; rfl)) ?_; (with_reducible refine (parallaxhelp_Fields.calls k _ _ l0 true _ ?side1 ?side2 A6.out).mono ?_); (case side1 => repeat (first | exact (Kd.C_below HR0.out HB.out) | (with_reducible refine Kd.C_alloc ?_ _) | (with_reducible refine Kd.C_drewN ?_ _) | (with_reducible refine Kd.C_drew ?_))); (case side2 => exact HC0.out); rintro e w' ⟨rfl, ⟨nd, rfl⟩⟩; refine ⟨_, rfl, ?_⟩) | (go_at_call 6; (with_reducible refine (parallaxlaw18_known.calls k  true _ rfl ?side1 A4.out).mono ?_); (case side1 => exact Laid.below HLX.out (by repeat (first | (with_reducible first | exact HB.out | apply below_alloc | apply pw_below_drewN | apply below_drew1) | exact HB.out))); rintro e w9 ⟨rfl, hb⟩; have n0_ := Aside0.mk (below_step (by repeat (first | (with_reducible first | exact HB.out | apply below_alloc | apply pw_below_drewN | apply below_drew1) | exact HB.out)) hb); clear HB; have HB := n0_; clear n0_; (try clear hb); (try clear hb2); (try clear hk); (try clear hi)) | (go_at_call 7; (with_reducible refine (parallaxhelp_Fields.calls k _ _ l0 true _ ?side1 ?side2 A6.out).mono ?_); (case side1 => repeat (first | exact (Kd.C_below HR0.out HB.out) | (with_reducible refine Kd.C_alloc ?_ _) | (with_reducible refine Kd.C_drewN ?_ _) | (with_reducible refine Kd.C_drew ?_))); (case side2 => exact HC0.out); rintro e w' ⟨rfl, ⟨nd, rfl⟩⟩))
        (try any_goals (exfalso; have h_ := ‹some undef = some (Value.bool _)›; revert h_; simp [undef]; done))
        go_ret
        exact ⟨by first | rfl | (simp [errW_none, errW_some] <;> rfl) | (simp [*, errW_none, errW_some] <;> rfl), by repeat (first | (with_reducible first | exact HB.out | apply below_alloc | apply pw_below_drewN | apply below_drew1) | exact HB.out)⟩
      · rw [if_neg c8] at H
        have c8b0 : decide (60 < (wrap64 ((a1.size : Int) + (a2.size : Int)))) = false := decide_eq_false c8
        clear c8
        replace H := Option.bind_eq_some_iff.mp H
        obtain ⟨t181, A100, H⟩ := H
        (try dsimp only at H)
        have A10 := Aside0.mk A100
        clear A100
        replace H := Option.bind_eq_some_iff.mp H
        obtain ⟨t184, A110, H⟩ := H
        (try dsimp only at H)
        have A11 := Aside0.mk A110
        clear A110
        by_cases c12 : (t181.length : Int) = (wrap64 ((l0.length : Int) + 1))
        · rw [if_pos c12] at H
          have c12b0 : ((t181.length : Int) == (wrap64 ((l0.length : Int) + 1))) = true := beq_iff_eq.mpr c12
          have c12b1 : ((t181.length : Int) != (wrap64 ((l0.length : Int) + 1))) = false := bne_eq_false_iff_eq.mpr c12
          clear c12
          by_cases c13 : (t184.length : Int) = (wrap64 ((l0.length : Int) + 1))
          · rw [if_pos c13] at H
            have c13b0 : ((t184.length : Int) == (wrap64 ((l0.length : Int) + 1))) = true := beq_iff_eq.mpr c13
            have c13b1 : ((t184.length : Int) != (wrap64 ((l0.length : Int) + 1))) = false := bne_eq_false_iff_eq.mpr c13
            clear c13
            by_cases c14 : 0 ≤ (l0.length : Int)
            · rw [if_pos c14] at H
              have c14b0 := eq_true c14
              have c14b1 : decide (0 ≤ (l0.length : Int)) = true := decide_eq_true c14
              clear c14
              by_cases c15 : (l0.length : Int) ≤ (t181.length : Int)
              · rw [if_pos c15] at H
                have c15b0 := eq_true c15
                have c15b1 : decide ((l0.length : Int) ≤ (t181.length : Int)) = true := decide_eq_true c15
                clear c15
                obtain ⟨y187, hy187⟩ : ∃ y_ : List (S28), y_ = (t181.take ((l0.length : Int) : Int).toNat) := ⟨_, rfl⟩
                replace H : ((parallaxref1_Fields.f k y187 l0).bind fun t191 => (if t191 = true then (if (l0.length : Int) ≤ (t184.length : Int) then ((parallaxref1_Fields.f k (t184.take ((l0.length : Int) : Int).toNat) l0).bind fun t196 => (if t196 = true then (if (l0.length : Int) < (t181.length : Int) then (if 4 + a1.size ≤ 9223372036854775807 then (if ((((rd_T28 t181 (l0.length : Int)).f0).toList) == ([86, 105, 97] : List UInt8) && ((((rd_T28 t181 (l0.length : Int)).f1).toList) == (((⟨#[49, 46, 49, 32]⟩ : ByteArray) ++ a1).toList))) = true then (if (l0.length : Int) < (t184.length : Int) then (some ((((rd_T28 t184 (l0.length : Int)).f0).toList) == ([88, 45, 70, 111, 114, 119, 97, 114, 100, 101, 100, 45, 70, 111, 114] : List UInt8) && ((((rd_T28 t184 (l0.length : Int)).f1).toList) == a2.toList))) else (none)) else (some false)) else (none)) else (none)) else (some false))) else (none)) else (some false))) = some r := by first | (rw [hy187]; with_reducible exact H) | (have H2_ := (Option.bind_some _ _).symm.trans H; rw [hy187]; with_reducible exact H2_) | (have H2_ := (Option.bind_some _ _).symm.trans H; with_reducible exact H2_) | with_reducible exact H | (rw [hy187]; exact H) | exact H
                have Ny187 := Aside0.mk hy187
                clear hy187
                replace H := Option.bind_eq_some_iff.mp H
                obtain ⟨t191, A160, H⟩ := H
                (try dsimp only at H)
                have A16 := Aside0.mk A160
                clear A160
                by_cases c17 : t191 = true
                · subst c17
                  rw [if_pos rfl] at H
                  have c18b0 := eq_true (of_decide_eq_true (by first | (with_reducible assumption) | assumption) : 0 ≤ (l0.length : Int))
                  by_cases c19 : (l0.length : Int) ≤ (t184.length : Int)
                  · rw [if_pos c19] at H
                    have c19b0 := eq_true c19
                    have c19b1 : decide ((l0.length : Int) ≤ (t184.length : Int)) = true := decide_eq_true c19
                    clear c19
                    obtain ⟨y192, hy192⟩ : ∃ y_ : List (S28), y_ = (t184.take ((l0.length : Int) : Int).toNat) := ⟨_, rfl⟩
                    replace H : ((parallaxref1_Fields.f k y192 l0).bind fun t196 => (if t196 = true then (if (l0.length : Int) < (t181.length : Int) then (if 4 + a1.size ≤ 9223372036854775807 then (if ((((rd_T28 t181 (l0.length : Int)).f0).toList) == ([86, 105, 97] : List UInt8) && ((((rd_T28 t181 (l0.length : Int)).f1).toList) == (((⟨#[49, 46, 49, 32]⟩ : ByteArray) ++ a1).toList))) = true then (if (l0.length : Int) < (t184.length : Int) then (some ((((rd_T28 t184 (l0.length : Int)).f0).toList) == ([88, 45, 70, 111, 114, 119, 97, 114, 100, 101, 100, 45, 70, 111, 114] : List UInt8) && ((((rd_T28 t184 (l0.length : Int)).f1).toList) == a2.toList))) else (none)) else (some false)) else (none)) else (none)) else (some false))) = some r := by first | (rw [hy192]; with_reducible exact H) | (have H2_ := (Option.bind_some _ _).symm.trans H; rw [hy192]; with_reducible exact H2_) | (have H2_ := (Option.bind_some _ _).symm.trans H; with_reducible exact H2_) | with_reducible exact H | (rw [hy192]; exact H) | exact H
                    have Ny192 := Aside0.mk hy192
                    clear hy192
                    replace H := Option.bind_eq_some_iff.mp H
                    obtain ⟨t196, A200, H⟩ := H
                    (try dsimp only at H)
                    have A20 := Aside0.mk A200
                    clear A200
                    by_cases c21 : t196 = true
                    · subst c21
                      rw [if_pos rfl] at H
                      by_cases c22 : (l0.length : Int) < (t181.length : Int)
                      · rw [if_pos c22] at H
                        have c22b0 : decide ((l0.length : Int) < (t181.length : Int)) = true := decide_eq_true c22
                        have c22b1 : decide (l0.length < t181.length) = true := decide_eq_true (Int.ofNat_lt.mp c22)
                        clear c22
                        by_cases c23 : 4 + a1.size ≤ 9223372036854775807
                        · rw [if_pos c23] at H
                          have c23b0 := eq_true c23
                          have c23b1 : decide (4 + a1.size ≤ 9223372036854775807) = true := decide_eq_true c23
                          try have c23b2 : (9223372036854775807 < 4 + a1.size) = False := eq_false (Nat.not_lt.2 c23)
                          by_cases c24 : ((((rd_T28 t181 (l0.length : Int)).f0).toList) == ([86, 105, 97] : List UInt8) && ((((rd_T28 t181 (l0.length : Int)).f1).toList) == (((⟨#[49, 46, 49, 32]⟩ : ByteArray) ++ a1).toList))) = true
                          · rw [if_pos c24] at H
                            have c24b0 : ((((rd_T28 t181 (l0.length : Int)).f0).toList) == ([86, 105, 97] : List UInt8) && ((((rd_T28 t181 (l0.length : Int)).f1).toList) == (((⟨#[49, 46, 49, 32]⟩ : ByteArray) ++ a1).toList))) = true := c24
                            (try (have c24b1 : decide ((((rd_T28 t181 (l0.length : Int)).f0).toList) = ([86, 105, 97] : List UInt8) && ((((rd_T28 t181 (l0.length : Int)).f1).toList) == (((⟨#[49, 46, 49, 32]⟩ : ByteArray) ++ a1).toList))) = true := by simpa using c24))
                            (try (have c24b2 : ((((rd_T28 t181 (l0.length : Int)).f0).toList) == ([86, 105, 97] : List UInt8) && ((((rd_T28 t181 (l0.length : Int)).f1).toList) == (((⟨#[49, 46, 49, 32]⟩ : ByteArray) ++ a1).toList))) = true := by simpa using c24))
                            clear c24
                            by_cases c25 : (l0.length : Int) < (t184.length : Int)
                            · rw [if_pos c25] at H
                              have c25b0 : decide ((l0.length : Int) < (t184.length : Int)) = true := decide_eq_true c25
                              have c25b1 : decide (l0.length < t184.length) = true := decide_eq_true (Int.ofNat_lt.mp c25)
                              clear c25
                              obtain rfl := Option.some.inj H
                              go_enter Tryd.func5, Tryd.ntmps5
                              go_wp2_with (first | ((with_reducible refine gate_callee (f := 6) rfl ?_); refine goesL_ (some 10) rfl rfl Tryd.func6 (by kernel_rfl) rfl #[] rfl (by (try simp only [List.map_toArray, List.map_cons, List.map_nil]); first | done | rfl | (simp only [List.length_drop, List.length_take]; rfl)) ?_; (with_reducible refine (parallaxlaw18_known.calls k  true _ rfl ?side1 A4.out).mono ?_); (case side1 => exact Laid.below HLX.out (by repeat (first | (with_reducible first | exact HB.out | apply below_alloc | apply pw_below_drewN | apply below_drew1) | exact HB.out))); rintro e w26 ⟨rfl, hb⟩; refine ⟨_, rfl, ?_⟩; have n0_ := Aside0.mk (below_step (by repeat (first | (with_reducible first | exact HB.out | apply below_alloc | apply pw_below_drewN | apply below_drew1) | exact HB.out)) hb); clear HB; have HB := n0_; clear n0_; (try clear hb); (try clear hb2); (try clear hk); (try clear hi)) | ((with_reducible refine gate_callee (f := 7) rfl ?_); refine goesL_ (some 13) rfl rfl Tryd.func7 (by kernel_rfl) rfl #[.slice A0 l0.length c0] rfl (by (try simp only [List.map_toArray, List.map_cons, List.map_nil]); first | done | rfl | (simp only [List.length_drop, List.length_take]; rfl)) ?_; (with_reducible refine (parallaxhelp_Fields.calls k _ _ l0 true _ ?side1 ?side2 A6.out).mono ?_); (case side1 => repeat (first | exact (Kd.C_below HR0.out HB.out) | (with_reducible refine Kd.C_alloc ?_ _) | (with_reducible refine Kd.C_drewN ?_ _) | (with_reducible refine Kd.C_drew ?_))); (case side2 => exact HC0.out); rintro e w' ⟨rfl, ⟨nd, rfl⟩⟩; refine ⟨_, rfl, ?_⟩) | ((with_reducible refine gate_callee (f := 11) rfl ?_); refine goesL_ (some 25) rfl rfl Tryd.func11 (by kernel_rfl) rfl #[.slice A0 l0.length c0, .string a1] rfl (by (try simp only [List.map_toArray, List.map_cons, List.map_nil]); first | done | rfl | (simp only [List.length_drop, List.length_take]; rfl)) ?_; (with_reducible refine (hop_Via.calls _ _ l0 a1 t181 _ ?side1 ?side2 A10.out).mono ?_); (case side1 => repeat (first | exact (Kd.C_below HR0.out (by repeat (first | (with_reducible first | exact HB.out | apply below_alloc | apply pw_below_drewN | apply below_drew1) | exact HB.out))) | (with_reducible refine Kd.C_alloc ?_ _) | (with_reducible refine Kd.C_drewN ?_ _) | (with_reducible refine Kd.C_drew ?_))); (case side2 => exact HC0.out); rintro e w27 ⟨v182, rfl, ho0, hb⟩; refine ⟨_, rfl, ?_⟩; have n0_ := Aside0.mk (Kd.R_lower ho0 (below_size (by repeat (first | (with_reducible first | exact HB.out | apply below_alloc | apply pw_below_drewN | apply below_drew1) | exact HB.out)))); have n1_ := Aside0.mk (below_step (by repeat (first | (with_reducible first | exact HB.out | apply below_alloc | apply pw_below_drewN | apply below_drew1) | exact HB.out)) hb); clear HB; have HO183 := n0_; have HB := n1_; clear n0_ n1_; (try clear hb); (try clear hb2); (try clear hk); (try clear hi); (try clear ho0)) | ((with_reducible refine gate_callee (f := 13) rfl ?_); refine goesL_ (some 28) rfl rfl Tryd.func13 (by kernel_rfl) rfl #[.slice A0 l0.length c0, .string a2] rfl (by (try simp only [List.map_toArray, List.map_cons, List.map_nil]); first | done | rfl | (simp only [List.length_drop, List.length_take]; rfl)) ?_; (with_reducible refine (hop_From.calls _ _ l0 a2 t184 _ ?side1 ?side2 A11.out).mono ?_); (case side1 => repeat (first | exact (Kd.C_below HR0.out HB.out) | (with_reducible refine Kd.C_alloc ?_ _) | (with_reducible refine Kd.C_drewN ?_ _) | (with_reducible refine Kd.C_drew ?_))); (case side2 => exact HC0.out); rintro e w28 ⟨v185, rfl, ho0, hb⟩; refine ⟨_, rfl, ?_⟩; have n0_ := Aside0.mk (Kd.R_elder' (by (with_reducible repeat (first | apply Kd.R_alloc | apply Kd.R_drewN | apply Kd.R_drew)); exact HO183.out) (Kd.R_base ho0) hb); have n1_ := Aside0.mk (Kd.R_lower (Kd.R_new' ho0 (Kd.R_lt (by (with_reducible repeat (first | apply Kd.R_alloc | apply Kd.R_drewN | apply Kd.R_drew)); exact HO183.out))) (below_size (by repeat (first | (with_reducible first | exact HB.out | apply below_alloc | apply pw_below_drewN | apply below_drew1) | exact HB.out)))); have n2_ := Aside0.mk (below_step (by repeat (first | (with_reducible first | exact HB.out | apply below_alloc | apply pw_below_drewN | apply below_drew1) | exact HB.out)) hb); clear HO183; clear HB; have HO183 := n0_; have HO186 := n1_; have HB := n2_; clear n0_ n1_ n2_; (try clear hb); (try clear hb2); (try clear hk); (try clear hi); (try clear ho0); obtain ⟨Ao29, co29, eo29⟩ := Kd.R_slice HO183.out; subst eo29; obtain ⟨Ao30, co30, eo30⟩ := Kd.R_slice HO186.out; subst eo30; have q31 : ((l0.length : Int) : Int) ≤ ((t181.length : Int) : Int) := of_decide_eq_true (by first | (with_reducible assumption) | assumption); obtain ⟨i031, hi031, _, hsz31, _⟩ := info_parts info28; have hroom31 : t181.length ≤ co29 := (Kd.R_reads' HO183.out).2.1; have hC31 : Kd.C k28 _ Ao29 t181.length t181 := (Kd.R_reads' HO183.out).2.2; have hcut31 := cut_to (P := Tryd.prog) 22 28 .i64 Tryd.underlying22 hi031 Ao29 t181.length co29 (l0.length : Int) (of_decide_eq_true (by first | (with_reducible assumption) | assumption)) q31 hroom31; have hr31 := Kd.C_take (m := ((l0.length : Int) : Int).toNat) hC31 (by omega); have hy31 : y187.length = ((l0.length : Int) : Int).toNat := (by rw [Ny187.out, List.length_take]; omega); rw [← Ny187.out] at hr31; rw [← hy31] at hcut31; have HR190 := Aside0.mk hr31; have HC190 := Aside0.mk (show y187.length ≤ co29 from by omega); clear hr31 hC31 hroom31 hi031 hsz31; have KY31 := Aside0.mk hy31; clear hy31; have KL31 := Aside0.mk (show ((l0.length : Int) : Int).toNat ≤ t181.length from by omega); replace q31 := eq_true q31) | (go_at_call 9; (with_reducible refine (parallaxref1_Fields.calls k _ _ y187 _ _ l0 true _ ?side1 ?side2 ?side3 ?side4 A16.out).mono ?_); (case side1 => repeat (first | exact (by repeat (first | (with_reducible exact HR190.out) | (with_reducible refine Kd.C_alloc ?_ _) | (with_reducible refine Kd.C_drewN ?_ _) | (with_reducible refine Kd.C_drew ?_) | exact HR190.out)) | (with_reducible refine Kd.C_alloc ?_ _) | (with_reducible refine Kd.C_drewN ?_ _) | (with_reducible refine Kd.C_drew ?_))); (case side2 => exact HC190.out); (case side3 => repeat (first | exact (Kd.C_below HR0.out HB.out) | (with_reducible refine Kd.C_alloc ?_ _) | (with_reducible refine Kd.C_drewN ?_ _) | (with_reducible refine Kd.C_drew ?_))); (case side4 => exact HC0.out); rintro e w' ⟨rfl, ⟨nd, rfl⟩⟩; have q32 : ((l0.length : Int) : Int) ≤ ((t184.length : Int) : Int) := of_decide_eq_true (by first | (with_reducible assumption) | assumption); obtain ⟨i032, hi032, _, hsz32, _⟩ := info_parts info28; have hroom32 : t184.length ≤ co30 := (Kd.R_reads' HO186.out).2.1; have hC32 : Kd.C k28 _ Ao30 t184.length t184 := (Kd.R_reads' HO186.out).2.2; have hcut32 := cut_to (P := Tryd.prog) 22 28 .i64 Tryd.underlying22 hi032 Ao30 t184.length co30 (l0.length : Int) (of_decide_eq_true (by first | (with_reducible assumption) | assumption)) q32 hroom32; have hr32 := Kd.C_take (m := ((l0.length : Int) : Int).toNat) hC32 (by omega); have hy32 : y192.length = ((l0.length : Int) : Int).toNat := (by rw [Ny192.out, List.length_take]; omega); rw [← Ny192.out] at hr32; rw [← hy32] at hcut32; have HR195 := Aside0.mk hr32; have HC195 := Aside0.mk (show y192.length ≤ co30 from by omega); clear hr32 hC32 hroom32 hi032 hsz32; have KY32 := Aside0.mk hy32; clear hy32; have KL32 := Aside0.mk (show ((l0.length : Int) : Int).toNat ≤ t184.length from by omega); replace q32 := eq_true q32) | (go_at_call 9; (with_reducible refine (parallaxref1_Fields.calls k _ _ y192 _ _ l0 true _ ?side1 ?side2 ?side3 ?side4 A20.out).mono ?_); (case side1 => repeat (first | exact (by repeat (first | (with_reducible exact HR195.out) | (with_reducible refine Kd.C_alloc ?_ _) | (with_reducible refine Kd.C_drewN ?_ _) | (with_reducible refine Kd.C_drew ?_) | exact HR195.out)) | (with_reducible refine Kd.C_alloc ?_ _) | (with_reducible refine Kd.C_drewN ?_ _) | (with_reducible refine Kd.C_drew ?_))); (case side2 => exact HC195.out); (case side3 => repeat (first | exact (Kd.C_below HR0.out (by repeat (first | (with_reducible first | exact HB.out | apply below_alloc | apply pw_below_drewN | apply below_drew1) | exact HB.out))) | (with_reducible refine Kd.C_alloc ?_ _) | (with_reducible refine Kd.C_drewN ?_ _) | (with_reducible refine Kd.C_drew ?_))); (case side4 => exact HC0.out); rintro e w' ⟨rfl, ⟨nd, rfl⟩⟩; have p197 : 0 ≤ ((l0.length : Int) : Int) := of_decide_eq_true (by first | (with_reducible assumption) | assumption); have q197 : (l0.length : Int) < (t181.length : Int) := of_decide_eq_true (by first | (with_reducible assumption) | assumption); obtain ⟨ad197, e197, hx197_0, hx197_1⟩ := at_T28 (Kd.R_reads' HO183.out).2.2 (l0.length : Int) p197 q197; cases e197; (try simp only [Go.IntWalk.toNatUp] at hx197_0); (try simp only [Go.IntWalk.toNatUp] at hx197_1); replace p197 := eq_true p197; replace q197 := eq_true q197; have p198 : 0 ≤ ((l0.length : Int) : Int) := of_decide_eq_true (by first | (with_reducible assumption) | assumption); have q198 : (l0.length : Int) < (t184.length : Int) := of_decide_eq_true (by first | (with_reducible assumption) | assumption); obtain ⟨ad198, e198, hx198_0, hx198_1⟩ := at_T28 (Kd.R_reads' HO186.out).2.2 (l0.length : Int) p198 q198; cases e198; (try simp only [Go.IntWalk.toNatUp] at hx198_0); (try simp only [Go.IntWalk.toNatUp] at hx198_1); replace p198 := eq_true p198; replace q198 := eq_true q198) | (go_at_call 6; (with_reducible refine (parallaxlaw18_known.calls k  true _ rfl ?side1 A4.out).mono ?_); (case side1 => exact Laid.below HLX.out (by repeat (first | (with_reducible first | exact HB.out | apply below_alloc | apply pw_below_drewN | apply below_drew1) | exact HB.out))); rintro e w26 ⟨rfl, hb⟩; have n0_ := Aside0.mk (below_step (by repeat (first | (with_reducible first | exact HB.out | apply below_alloc | apply pw_below_drewN | apply below_drew1) | exact HB.out)) hb); clear HB; have HB := n0_; clear n0_; (try clear hb); (try clear hb2); (try clear hk); (try clear hi)) | (go_at_call 7; (with_reducible refine (parallaxhelp_Fields.calls k _ _ l0 true _ ?side1 ?side2 A6.out).mono ?_); (case side1 => repeat (first | exact (Kd.C_below HR0.out HB.out) | (with_reducible refine Kd.C_alloc ?_ _) | (with_reducible refine Kd.C_drewN ?_ _) | (with_reducible refine Kd.C_drew ?_))); (case side2 => exact HC0.out); rintro e w' ⟨rfl, ⟨nd, rfl⟩⟩) | (go_at_call 11; (with_reducible refine (hop_Via.calls _ _ l0 a1 t181 _ ?side1 ?side2 A10.out).mono ?_); (case side1 => repeat (first | exact (Kd.C_below HR0.out (by repeat (first | (with_reducible first | exact HB.out | apply below_alloc | apply pw_below_drewN | apply below_drew1) | exact HB.out))) | (with_reducible refine Kd.C_alloc ?_ _) | (with_reducible refine Kd.C_drewN ?_ _) | (with_reducible refine Kd.C_drew ?_))); (case side2 => exact HC0.out); rintro e w27 ⟨v182, rfl, ho0, hb⟩; have n0_ := Aside0.mk (Kd.R_lower ho0 (below_size (by repeat (first | (with_reducible first | exact HB.out | apply below_alloc | apply pw_below_drewN | apply below_drew1) | exact HB.out)))); have n1_ := Aside0.mk (below_step (by repeat (first | (with_reducible first | exact HB.out | apply below_alloc | apply pw_below_drewN | apply below_drew1) | exact HB.out)) hb); clear HB; have HO183 := n0_; have HB := n1_; clear n0_ n1_; (try clear hb); (try clear hb2); (try clear hk); (try clear hi); (try clear ho0)) | (go_at_call 13; (with_reducible refine (hop_From.calls _ _ l0 a2 t184 _ ?side1 ?side2 A11.out).mono ?_); (case side1 => repeat (first | exact (Kd.C_below HR0.out HB.out) | (with_reducible refine Kd.C_alloc ?_ _) | (with_reducible refine Kd.C_drewN ?_ _) | (with_reducible refine Kd.C_drew ?_))); (case side2 => exact HC0.out); rintro e w28 ⟨v185, rfl, ho0, hb⟩; have n0_ := Aside0.mk (Kd.R_elder' (by (with_reducible repeat (first | apply Kd.R_alloc | apply Kd.R_drewN | apply Kd.R_drew)); exact HO183.out) (Kd.R_base ho0) hb); have n1_ := Aside0.mk (Kd.R_lower (Kd.R_new' ho0 (Kd.R_lt (by (with_reducible repeat (first | apply Kd.R_alloc | apply Kd.R_drewN | apply Kd.R_drew)); exact HO183.out))) (below_size (by repeat (first | (with_reducible first | exact HB.out | apply below_alloc | apply pw_below_drewN | apply below_drew1) | exact HB.out)))); have n2_ := Aside0.mk (below_step (by repeat (first | (with_reducible first | exact HB.out | apply below_alloc | apply pw_below_drewN | apply below_drew1) | exact HB.out)) hb); clear HO183; clear HB; have HO183 := n0_; have HO186 := n1_; have HB := n2_; clear n0_ n1_ n2_; (try clear hb); (try clear hb2); (try clear hk); (try clear hi); (try clear ho0); obtain ⟨Ao29, co29, eo29⟩ := Kd.R_slice HO183.out; subst eo29; obtain ⟨Ao30, co30, eo30⟩ := Kd.R_slice HO186.out; subst eo30; have q31 : ((l0.length : Int) : Int) ≤ ((t181.length : Int) : Int) := of_decide_eq_true (by first | (with_reducible assumption) | assumption); obtain ⟨i031, hi031, _, hsz31, _⟩ := info_parts info28; have hroom31 : t181.length ≤ co29 := (Kd.R_reads' HO183.out).2.1; have hC31 : Kd.C k28 _ Ao29 t181.length t181 := (Kd.R_reads' HO183.out).2.2; have hcut31 := cut_to (P := Tryd.prog) 22 28 .i64 Tryd.underlying22 hi031 Ao29 t181.length co29 (l0.length : Int) (of_decide_eq_true (by first | (with_reducible assumption) | assumption)) q31 hroom31; have hr31 := Kd.C_take (m := ((l0.length : Int) : Int).toNat) hC31 (by omega); have hy31 : y187.length = ((l0.length : Int) : Int).toNat := (by rw [Ny187.out, List.length_take]; omega); rw [← Ny187.out] at hr31; rw [← hy31] at hcut31; have HR190 := Aside0.mk hr31; have HC190 := Aside0.mk (show y187.length ≤ co29 from by omega); clear hr31 hC31 hroom31 hi031 hsz31; have KY31 := Aside0.mk hy31; clear hy31; have KL31 := Aside0.mk (show ((l0.length : Int) : Int).toNat ≤ t181.length from by omega); replace q31 := eq_true q31))
                              (try any_goals (exfalso; have h_ := ‹some undef = some (Value.bool _)›; revert h_; simp [undef]; done))
                              go_ret
                              exact ⟨by first | rfl | (simp [errW_none, errW_some] <;> rfl) | (simp [*, errW_none, errW_some] <;> rfl), by repeat (first | (with_reducible first | exact HB.out | apply below_alloc | apply pw_below_drewN | apply below_drew1) | exact HB.out)⟩
                            · rw [if_neg c25] at H
                              exact absurd H (by simp)
                          · rw [if_neg c24] at H
                            have c24b0 : ((((rd_T28 t181 (l0.length : Int)).f0).toList) == ([86, 105, 97] : List UInt8) && ((((rd_T28 t181 (l0.length : Int)).f1).toList) == (((⟨#[49, 46, 49, 32]⟩ : ByteArray) ++ a1).toList))) = false := by simpa using c24
                            (try (have c24b1 : decide ((((rd_T28 t181 (l0.length : Int)).f0).toList) = ([86, 105, 97] : List UInt8) && ((((rd_T28 t181 (l0.length : Int)).f1).toList) == (((⟨#[49, 46, 49, 32]⟩ : ByteArray) ++ a1).toList))) = false := by simpa using c24))
                            (try (have c24b2 : ((((rd_T28 t181 (l0.length : Int)).f0).toList) == ([86, 105, 97] : List UInt8) && ((((rd_T28 t181 (l0.length : Int)).f1).toList) == (((⟨#[49, 46, 49, 32]⟩ : ByteArray) ++ a1).toList))) = false := by simpa using c24))
                            (try (have c24b3 : ¬ ((((rd_T28 t181 (l0.length : Int)).f0).toList) = ([86, 105, 97] : List UInt8) && ((((rd_T28 t181 (l0.length : Int)).f1).toList) == (((⟨#[49, 46, 49, 32]⟩ : ByteArray) ++ a1).toList))) := by simpa using c24))
                            clear c24
                            exact absurd ((Option.some.inj H).trans HT.out) (by decide)
                        · rw [if_neg c23] at H
                          exact absurd H (by simp)
                      · rw [if_neg c22] at H
                        exact absurd H (by simp)
                    · replace c21 := Bool.eq_false_iff.mpr c21
                      subst c21
                      rw [if_neg (show ¬ (false = true) by decide)] at H
                      exact absurd ((Option.some.inj H).trans HT.out) (by decide)
                  · rw [if_neg c19] at H
                    exact absurd H (by simp)
                · replace c17 := Bool.eq_false_iff.mpr c17
                  subst c17
                  rw [if_neg (show ¬ (false = true) by decide)] at H
                  exact absurd ((Option.some.inj H).trans HT.out) (by decide)
              · rw [if_neg c15] at H
                exact absurd H (by simp)
            · rw [if_neg c14] at H
              exact absurd H (by simp)
          · rw [if_neg c13] at H
            have c13b0 : ((t184.length : Int) == (wrap64 ((l0.length : Int) + 1))) = false := beq_eq_false_iff_ne.mpr c13
            have c13b1 : ((t184.length : Int) != (wrap64 ((l0.length : Int) + 1))) = true := bne_iff_ne.mpr c13
            exact absurd ((Option.some.inj H).trans HT.out) (by decide)
        · rw [if_neg c12] at H
          have c12b0 : ((t181.length : Int) == (wrap64 ((l0.length : Int) + 1))) = false := beq_eq_false_iff_ne.mpr c12
          have c12b1 : ((t181.length : Int) != (wrap64 ((l0.length : Int) + 1))) = true := bne_iff_ne.mpr c12
          exact absurd ((Option.some.inj H).trans HT.out) (by decide)
    · replace c7 := Bool.eq_false_iff.mpr c7
      subst c7
      rw [if_neg (show ¬ (false = true) by decide)] at H
      obtain rfl := Option.some.inj H
      go_enter Tryd.func5, Tryd.ntmps5
      go_wp2_with (first | ((with_reducible refine gate_callee (f := 6) rfl ?_); refine goesL_ (some 10) rfl rfl Tryd.func6 (by kernel_rfl) rfl #[] rfl (by (try simp only [List.map_toArray, List.map_cons, List.map_nil]); first | done | rfl | (simp only [List.length_drop, List.length_take]; rfl)) ?_; (with_reducible refine (parallaxlaw18_known.calls k  true _ rfl ?side1 A4.out).mono ?_); (case side1 => exact Laid.below HLX.out (by repeat (first | (with_reducible first | exact HB.out | apply below_alloc | apply pw_below_drewN | apply below_drew1) | exact HB.out))); rintro e w33 ⟨rfl, hb⟩; refine ⟨_, rfl, ?_⟩; have n0_ := Aside0.mk (below_step (by repeat (first | (with_reducible first | exact HB.out | apply below_alloc | apply pw_below_drewN | apply below_drew1) | exact HB.out)) hb); clear HB; have HB := n0_; clear n0_; (try clear hb); (try clear hb2); (try clear hk); (try clear hi)) | ((with_reducible refine gate_callee (f := 7) rfl ?_); refine goesL_ (some 13) rfl rfl Tryd.func7 (by kernel_rfl) rfl #[.slice A0 l0.length c0] rfl (by (try simp only [List.map_toArray, List.map_cons, List.map_nil]); first | done | rfl | (simp only [List.length_drop, List.length_take]; rfl)) ?_; (with_reducible refine (parallaxhelp_Fields.calls k _ _ l0 false _ ?side1 ?side2 A6.out).mono ?_); (case side1 => repeat (first | exact (Kd.C_below HR0.out HB.out) | (with_reducible refine Kd.C_alloc ?_ _) | (with_reducible refine Kd.C_drewN ?_ _) | (with_reducible refine Kd.C_drew ?_))); (case side2 => exact HC0.out); rintro e w' ⟨rfl, ⟨nd, rfl⟩⟩; refine ⟨_, rfl, ?_⟩) | (go_at_call 6; (with_reducible refine (parallaxlaw18_known.calls k  true _ rfl ?side1 A4.out).mono ?_); (case side1 => exact Laid.below HLX.out (by repeat (first | (with_reducible first | exact HB.out | apply below_alloc | apply pw_below_drewN | apply below_drew1) | exact HB.out))); rintro e w33 ⟨rfl, hb⟩; have n0_ := Aside0.mk (below_step (by repeat (first | (with_reducible first | exact HB.out | apply below_alloc | apply pw_below_drewN | apply below_drew1) | exact HB.out)) hb); clear HB; have HB := n0_; clear n0_; (try clear hb); (try clear hb2); (try clear hk); (try clear hi)) | (go_at_call 7; (with_reducible refine (parallaxhelp_Fields.calls k _ _ l0 false _ ?side1 ?side2 A6.out).mono ?_); (case side1 => repeat (first | exact (Kd.C_below HR0.out HB.out) | (with_reducible refine Kd.C_alloc ?_ _) | (with_reducible refine Kd.C_drewN ?_ _) | (with_reducible refine Kd.C_drew ?_))); (case side2 => exact HC0.out); rintro e w' ⟨rfl, ⟨nd, rfl⟩⟩))
      (try any_goals (exfalso; have h_ := ‹some undef = some (Value.bool _)›; revert h_; simp [undef]; done))
      go_ret
      exact ⟨by first | rfl | (simp [errW_none, errW_some] <;> rfl) | (simp [*, errW_none, errW_some] <;> rfl), by repeat (first | (with_reducible first | exact HB.out | apply below_alloc | apply pw_below_drewN | apply below_drew1) | exact HB.out)⟩
  · replace c5 := Bool.eq_false_iff.mpr c5
    subst c5
    rw [if_neg (show ¬ (false = true) by decide)] at H
    exact absurd ((Option.some.inj H).trans HT.out) (by decide)

/-- THE ONE PURE STATEMENT of parallaxlaw18_HopAdds: yours. -/
def parallaxlaw18_HopAdds.Pure : Prop := ∀ (l0 : List (S28)) (a1 : ByteArray) (a2 : ByteArray), (l0.length ≤ 9223372036854775807 ∧ ∀ x0_ ∈ l0, (x0_.f0.size ≤ 140737488351232 ∧ x0_.f1.size ≤ 140737488351232)) → a1.size ≤ 140737488351232 → a2.size ≤ 140737488351232 → ∃ k, parallaxlaw18_HopAdds.f k l0 a1 a2 = some true

end Go.Proofs.YtfmpajagkjealaaDoor.PHopAdds
