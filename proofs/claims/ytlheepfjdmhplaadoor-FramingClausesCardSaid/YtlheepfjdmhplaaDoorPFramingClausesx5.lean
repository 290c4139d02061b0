-- Written by a program of this session (wip/tools/myprint.sh)
import Derived.Test.YtlheepfjdmhplaaDoorPFramingClausesx0
import Derived.Test.YtlheepfjdmhplaaDoorPFramingClausesx1
import Derived.Test.YtlheepfjdmhplaaDoorPFramingClausesx2
import Derived.Test.YtlheepfjdmhplaaDoorPFramingClausesx4
namespace Go.Proofs.YtlheepfjdmhplaaDoor.PFramingClauses
open Go.RowKit Go.Proofs.YtlheepfjdmhplaaDoorW.PrintWords Go.Proofs.YtlheepfjdmhplaaDoorW.PrintLast Go.Proofs.YtlheepfjdmhplaaDoorW.PrintMore
attribute [local go_sem] max2_int min2_int max_two min_two max_three min_three max_four min_four   -- for this text's walks alone
set_option linter.unusedVariables false
set_option linter.unusedSimpArgs false

/-! ### framing_Length: function 22 -/
mutual
def framing_Length.j0 : Nat → Int → Int → List ByteArray → Option (Int × Int)
  | 0, _, _, _ => none
  | k + 1, x0, x1, x2 => if (x2.length : Int) = 0 then (some (0, 0)) else (if 0 < (x2.length : Int) then (if 0 ≤ (wrap64 ((x2.length : Int) - 1)) then (if (wrap64 ((x2.length : Int) - 1)) < (x2.length : Int) then ((framing_Length_1_ContainsFunc.f x2 (rdOf ByteArray.empty x2 0)).bind fun t215 => (if (x2.length : Int) = 1 then (framing_Length.j1 k x0 x1 (rdOf ByteArray.empty x2 (wrap64 ((x2.length : Int) - 1))) true (rdOf ByteArray.empty x2 0)) else (if t215 = true then ((quirks_Has.f x0 25).bind fun t216 => (framing_Length.j1 k x0 x1 (rdOf ByteArray.empty x2 (wrap64 ((x2.length : Int) - 1))) t216 (rdOf ByteArray.empty x2 0))) else ((quirks_Has.f x0 24).bind fun t217 => (if t217 = true then (framing_Length.j1 k x0 x1 (rdOf ByteArray.empty x2 (wrap64 ((x2.length : Int) - 1))) true (rdOf ByteArray.empty x2 0)) else ((quirks_Has.f x0 25).bind fun t218 => (framing_Length.j1 k x0 x1 (rdOf ByteArray.empty x2 (wrap64 ((x2.length : Int) - 1))) t218 (rdOf ByteArray.empty x2 0)))))))) else (none)) else (none)) else (none))
def framing_Length.j2 : Nat → Int → Int → ByteArray → Option (Int × Int)
  | 0, _, _, _ => none
  | k + 1, x0, x1, x215000 => (quirks_Has.f x0 23).bind fun t220 => (if t220 = true then ((strings_TrimPrefix.f x215000 (⟨#[43]⟩ : ByteArray)).bind fun t221 => (framing_Length.j3 k x1 t221)) else (framing_Length.j3 k x1 x215000))
def framing_Length.j3 : Nat → Int → ByteArray → Option (Int × Int)
  | 0, _, _ => none
  | k + 1, x1, x215000 => (number_Dec.f k x215000 x1).bind fun bt222 => (if bt222.2 = 23 then (some (0, 413)) else (if bt222.2 = 22 then (some (0, 400)) else (some (bt222.1, 0))))
def framing_Length.j1 : Nat → Int → Int → ByteArray → Bool → ByteArray → Option (Int × Int)
  | 0, _, _, _, _, _ => none
  | k + 1, x0, x1, x9, x33, x215000 => if x33 = true then (framing_Length.j2 k x0 x1 x215000) else ((quirks_Has.f x0 26).bind fun t219 => (if t219 = true then (framing_Length.j2 k x0 x1 x9) else (some (0, 400))))
end
def framing_Length.f (k : Nat) (a0 : Int) (a1 : Int) (l2 : List ByteArray) : Option (Int × Int) := (quirks_Has.f a0 24).bind fun t208 => (if t208 = true then ((text_List.f k l2).bind fun t209 => (framing_Length.j0 k a0 a1 t209)) else (framing_Length.j0 k a0 a1 l2))
theorem framing_Length.mono_l : ∀ k, (∀ y0 y1 y2, LeO (framing_Length.j0 k y0 y1 y2) (framing_Length.j0 (k + 1) y0 y1 y2)) ∧ (∀ y0 y1 y2, LeO (framing_Length.j2 k y0 y1 y2) (framing_Length.j2 (k + 1) y0 y1 y2)) ∧ (∀ y0 y1, LeO (framing_Length.j3 k y0 y1) (framing_Length.j3 (k + 1) y0 y1)) ∧ (∀ y0 y1 y2 y3 y4, LeO (framing_Length.j1 k y0 y1 y2 y3 y4) (framing_Length.j1 (k + 1) y0 y1 y2 y3 y4))
  | 0 => ⟨fun _ _ _ r h => by simp [framing_Length.j0] at h, fun _ _ _ r h => by simp [framing_Length.j2] at h, fun _ _ r h => by simp [framing_Length.j3] at h, fun _ _ _ _ _ r h => by simp [framing_Length.j1] at h⟩
  | k + 1 => by
    obtain ⟨ih0, ih1, ih2, ih3⟩ := framing_Length.mono_l k
    refine ⟨?_, ?_, ?_, ?_⟩
    · intro y0 y1 y2
      unfold framing_Length.j0
      repeat' first
      | (with_reducible exact ih0 _ _ _)
      | (with_reducible exact ih1 _ _ _)
      | (with_reducible exact ih2 _ _)
      | (with_reducible exact ih3 _ _ _ _ _)
      | (with_reducible exact number_Dec.mono _ _ _)
      | (with_reducible exact text_List.mono _ _)
      | (with_reducible exact LeO.refl _)
      | (with_reducible exact LeO.none _)
      | (with_reducible refine LeO.ite ?_ ?_)
      | (with_reducible refine LeO.bind ?_ (fun _ => ?_))
      | exact ih0 _ _ _
      | exact ih1 _ _ _
      | exact ih2 _ _
      | exact ih3 _ _ _ _ _
      | exact number_Dec.mono _ _ _
      | exact text_List.mono _ _
      | exact LeO.none _
      | refine LeO.ite ?_ ?_
      | refine LeO.bind ?_ (fun _ => ?_)
    · intro y0 y1 y2
      unfold framing_Length.j2
      repeat' first
      | (with_reducible exact ih0 _ _ _)
      | (with_reducible exact ih1 _ _ _)
      | (with_reducible exact ih2 _ _)
      | (with_reducible exact ih3 _ _ _ _ _)
      | (with_reducible exact number_Dec.mono _ _ _)
      | (with_reducible exact text_List.mono _ _)
      | (with_reducible exact LeO.refl _)
      | (with_reducible exact LeO.none _)
      | (with_reducible refine LeO.ite ?_ ?_)
      | (with_reducible refine LeO.bind ?_ (fun _ => ?_))
      | exact ih0 _ _ _
      | exact ih1 _ _ _
      | exact ih2 _ _
      | exact ih3 _ _ _ _ _
      | exact number_Dec.mono _ _ _
      | exact text_List.mono _ _
      | exact LeO.none _
      | refine LeO.ite ?_ ?_
      | refine LeO.bind ?_ (fun _ => ?_)
    · intro y0 y1
      unfold framing_Length.j3
      repeat' first
      | (with_reducible exact ih0 _ _ _)
      | (with_reducible exact ih1 _ _ _)
      | (with_reducible exact ih2 _ _)
      | (with_reducible exact ih3 _ _ _ _ _)
      | (with_reducible exact number_Dec.mono _ _ _)
      | (with_reducible exact text_List.mono _ _)
      | (with_reducible exact LeO.refl _)
      | (with_reducible exact LeO.none _)
      | (with_reducible refine LeO.ite ?_ ?_)
      | (with_reducible refine LeO.bind ?_ (fun _ => ?_))
      | exact ih0 _ _ _
      | exact ih1 _ _ _
      | exact ih2 _ _
      | exact ih3 _ _ _ _ _
      | exact number_Dec.mono _ _ _
      | exact text_List.mono _ _
      | exact LeO.none _
      | refine LeO.ite ?_ ?_
      | refine LeO.bind ?_ (fun _ => ?_)
    · intro y0 y1 y2 y3 y4
      unfold framing_Length.j1
      repeat' first
      | (with_reducible exact ih0 _ _ _)
      | (with_reducible exact ih1 _ _ _)
      | (with_reducible exact ih2 _ _)
      | (with_reducible exact ih3 _ _ _ _ _)
      | (with_reducible exact number_Dec.mono _ _ _)
      | (with_reducible exact text_List.mono _ _)
      | (with_reducible exact LeO.refl _)
      | (with_reducible exact LeO.none _)
      | (with_reducible refine LeO.ite ?_ ?_)
      | (with_reducible refine LeO.bind ?_ (fun _ => ?_))
      | exact ih0 _ _ _
      | exact ih1 _ _ _
      | exact ih2 _ _
      | exact ih3 _ _ _ _ _
      | exact number_Dec.mono _ _ _
      | exact text_List.mono _ _
      | exact LeO.none _
      | refine LeO.ite ?_ ?_
      | refine LeO.bind ?_ (fun _ => ?_)
theorem framing_Length.mono : ∀ a0 a1 a2 k, LeO (framing_Length.f k a0 a1 a2) (framing_Length.f (k + 1) a0 a1 a2) := by
  intro a0 a1 a2 k
  obtain ⟨ih0, ih1, ih2, ih3⟩ := framing_Length.mono_l k
  unfold framing_Length.f
  repeat' first
      | (with_reducible exact ih0 _ _ _)
      | (with_reducible exact ih1 _ _ _)
      | (with_reducible exact ih2 _ _)
      | (with_reducible exact ih3 _ _ _ _ _)
      | (with_reducible exact number_Dec.mono _ _ _)
      | (with_reducible exact text_List.mono _ _)
      | (with_reducible exact LeO.refl _)
      | (with_reducible exact LeO.none _)
      | (with_reducible refine LeO.ite ?_ ?_)
      | (with_reducible refine LeO.bind ?_ (fun _ => ?_))
      | exact ih0 _ _ _
      | exact ih1 _ _ _
      | exact ih2 _ _
      | exact ih3 _ _ _ _ _
      | exact number_Dec.mono _ _ _
      | exact text_List.mono _ _
      | exact LeO.none _
      | refine LeO.ite ?_ ?_
      | refine LeO.bind ?_ (fun _ => ?_)
def framing_Length.T5 : Bool × List (List Nat × List Nat) := (true, [([], []), ([0], [0]), ([1], [1]), ([], []), ([], []), ([4], [4]), ([5], [5]), ([3, 6], [3, 6]), ([7], [7]), ([], []), ([9, 2, 0, 1, 2, 9], [2, 9]), ([8, 10, 0, 1, 2, 3, 4, 5, 6, 7, 8, 9, 10], [8])])
def framing_Length.B5 : List Nat := [0, 1, 3, 0, 0, 16, 48, 120, 248, 0, 519, 2047]
theorem framing_Length.tab5 : rtab .any (opsOf Tryd.f22 5) = framing_Length.T5 := by kernel_rfl
theorem framing_Length.bits5 : waitsOk framing_Length.T5.2 framing_Length.B5 = true := by kernel_rfl
set_option maxHeartbeats 8000000 in
set_option maxRecDepth 100000 in
theorem framing_Length.calls (k : Nat) (a0 : Int) (a1 : Int) (P2_ : Nat → Prop) (u9000_ : Value) (l2 : List ByteArray) (r1 : Int) (r2 : Int) (w0 w : World) (hB : Below w0.heap.size w0 w) (ho2 : Kd.R Kd.string 9 w w0.heap.size P2_ u9000_ l2) (h : framing_Length.f k a0 a1 l2 = some (r1, r2)) :
    Calls Tryd.prog 22 #[.int .u32 a0, .int .i64 a1, u9000_] w fun e w' => e = .returned (.tuple #[.int .i64 r1, .int .i64 r2]) ∧ Below w0.heap.size w0 w' ∧ Kept w w' (fun k_ => P2_ k_) := by
  have HO2 := Aside0.mk (show Kd.R Kd.string 9 w w0.heap.size (fun k_ => (P2_ k_ ∨ w.heap.size ≤ k_)) u9000_ l2 from Kd.R_mono ho2 (fun k_ hk => (.inl hk)))
  have HK := Aside0.mk (Kept.refl w (fun k_ => P2_ k_))
  have HW0 := Aside0.mk hB.size
  have HB := Aside0.mk hB
  clear hB
  have H : ((quirks_Has.f a0 24).bind fun t208 => (if t208 = true then ((text_List.f k l2).bind fun t209 => (framing_Length.j0 k a0 a1 t209)) else (framing_Length.j0 k a0 a1 l2))) = some (r1, r2) := h
  clear h
  replace H := Option.bind_eq_some_iff.mp H
  obtain ⟨t208, A40, H⟩ := H
  replace H : (if t208 = true then ((text_List.f k l2).bind fun t209 => (framing_Length.j0 k a0 a1 t209)) else (framing_Length.j0 k a0 a1 l2)) = some (r1, r2) := H
  have A4 := Aside0.mk A40
  clear A40
  have HC5 := Aside0.mk H
  clear H
  go_enter Tryd.func22, Tryd.ntmps22
  go_upto_if 14 with (first | ((with_reducible refine gate_callee (f := 26) rfl ?_); refine goesL_ (some 14) rfl rfl Tryd.func26 (by kernel_rfl) rfl #[.int .u32 a0, .int .i64 24] rfl (by (try simp only [List.map_toArray, List.map_cons, List.map_nil]); first | done | rfl | (simp only [List.length_drop, List.length_take]; rfl)) ?_; (with_reducible refine (quirks_Has.calls a0 24 t208 _ A4.out).mono ?_); rintro e w' ⟨rfl, ⟨nd, rfl⟩⟩; refine ⟨_, rfl, ?_⟩))
  (try simp only [Act.put, List.setIfInBounds_toArray, List.set_cons_zero, List.set_cons_succ])
  go_cut [2] (fun v2 wc => ∃ (kq : Nat) (x2_4 : List ByteArray), Aside0 (framing_Length.j0 kq a0 a1 x2_4 = some (r1, r2)) ∧ Aside0 (kq ≤ k) ∧ Aside0 (Kd.R Kd.string 9 wc w0.heap.size (fun k_ => (P2_ k_ ∨ w.heap.size ≤ k_)) v2 x2_4) ∧ Aside0 (Kept w wc (fun k_ => P2_ k_)) ∧ Aside0 (Below w0.heap.size w0 wc))
  case first =>
    have H := HC5.out
    clear HC5
    by_cases c6 : t208 = true
    · subst c6
      have H1 : ((text_List.f k l2).bind fun t209 => (framing_Length.j0 k a0 a1 t209)) = some (r1, r2) := by rw [if_pos rfl] at H; exact H
      clear H
      have H := H1
      clear H1
      replace H := Option.bind_eq_some_iff.mp H
      obtain ⟨t209, A70, H⟩ := H
      replace H : (framing_Length.j0 k a0 a1 t209) = some (r1, r2) := H
      have A7 := Aside0.mk A70
      clear A70
      have H' := Aside0.mk H
      clear H
      obtain ⟨Ao8, co8, eo8⟩ := Kd.R_slice HO2.out
      subst eo8
      go_wp2_with (first | ((with_reducible refine gate_callee (f := 33) rfl ?_); refine goesL_ (some 16) rfl rfl Tryd.func33 (by kernel_rfl) rfl #[.slice Ao8 l2.length co8] rfl (by (try simp only [List.map_toArray, List.map_cons, List.map_nil]); first | done | rfl | (simp only [List.length_drop, List.length_take]; rfl)) ?_; (with_reducible refine (text_List.calls k _ _ l2 t209 _ ?side1 ?side2 A7.out).mono ?_); (case side1 => repeat (first | exact (Kd.R_reads' HO2.out).2.2 | (with_reducible refine Kd.C_alloc ?_ _) | (with_reducible refine Kd.C_drewN ?_ _) | (with_reducible refine Kd.C_drew ?_))); (case side2 => exact (Kd.R_reads' HO2.out).2.1); rintro e w9 ⟨v210, rfl, ho0, hb⟩; refine ⟨_, rfl, ?_⟩; have n0_ := Aside0.mk (Kd.R_elder' (by (with_reducible repeat (first | apply Kd.R_alloc | apply Kd.R_drewN | apply Kd.R_drew)); exact HO2.out) (Kd.R_base ho0) hb); have n1_ := Aside0.mk (Kd.R_lower (Kd.R_new' (Kd.R_newM (M := fun k_ => (P2_ k_ ∨ w.heap.size ≤ k_)) ho0 (by first | exact HK.out.1 | exact (show Kept w _ (fun k_ => P2_ k_) from by repeat (first | (with_reducible first | exact HK.out | apply Kept.alloc | apply Kept.drewN | apply Kept.drew) | exact HK.out)).1) (fun k_ h_ => .inr h_)) (Kd.R_lt (by (with_reducible repeat (first | apply Kd.R_alloc | apply Kd.R_drewN | apply Kd.R_drew)); exact HO2.out))) (below_size (by repeat (first | (with_reducible first | exact HB.out | apply below_alloc | apply pw_below_drewN | apply below_drew1) | exact HB.out)))); have n2_ := Aside0.mk (Kept.below (S := (fun k_ => P2_ k_)) (by repeat (first | (with_reducible first | exact HK.out | apply Kept.alloc | apply Kept.drewN | apply Kept.drew) | exact HK.out)) hb); have n3_ := Aside0.mk (below_step (by repeat (first | (with_reducible first | exact HB.out | apply below_alloc | apply pw_below_drewN | apply below_drew1) | exact HB.out)) hb); clear HO2; clear HK; clear HB; have HO2 := n0_; have HO211 := n1_; have HK := n2_; have HB := n3_; clear n0_ n1_ n2_ n3_; (try clear hb); (try clear hb2); (try clear hk); (try clear hi); (try clear ho0)))
      go_meet
      case rel => exact ⟨_, (t209), H', ⟨by first | omega | exact Nat.le_refl _⟩, ⟨by (with_reducible repeat (first | apply Kd.R_alloc | apply Kd.R_drewN | apply Kd.R_drew)); exact Kd.R_mono HO211.out (fun _ hk => hk.1.1)⟩, ⟨by repeat (first | (with_reducible first | exact HK.out | apply Kept.alloc | apply Kept.drewN | apply Kept.drew) | exact HK.out)⟩, ⟨by repeat (first | (with_reducible first | exact HB.out | apply below_alloc | apply pw_below_drewN | apply below_drew1) | exact HB.out)⟩⟩
    · replace c6 := Bool.eq_false_iff.mpr c6
      subst c6
      have H1 : (framing_Length.j0 k a0 a1 l2) = some (r1, r2) := by rw [if_neg (show ¬ (false = true) by decide)] at H; exact H
      clear H
      have H := H1
      clear H1
      have H' := Aside0.mk H
      clear H
      go_wp2
      go_meet
      case rel => exact ⟨_, (l2), H', ⟨by first | omega | exact Nat.le_refl _⟩, ⟨by (with_reducible repeat (first | apply Kd.R_alloc | apply Kd.R_drewN | apply Kd.R_drew)); exact HO2.out⟩, ⟨by repeat (first | (with_reducible first | exact HK.out | apply Kept.alloc | apply Kept.drewN | apply Kept.drew) | exact HK.out)⟩, ⟨by repeat (first | (with_reducible first | exact HB.out | apply below_alloc | apply pw_below_drewN | apply below_drew1) | exact HB.out)⟩⟩
  case rest =>
    clear HC5
    try clear c2
    try clear p2
    try clear c3
    try clear c6
    obtain ⟨kq, x2_4, HA, HJ4, HO_2, HK, HB⟩ := hcut
    cases kq with
    | zero => exact absurd HA.out (by simp [framing_Length.j0])
    | succ kj4 =>
      have H := HA.out
      clear HA
      simp only [framing_Length.j0] at H
      by_cases c10 : (x2_4.length : Int) = 0
      · rw [if_pos c10] at H
        have c10b0 : ((x2_4.length : Int) == 0) = true := beq_iff_eq.mpr c10
        have c10b1 : ((x2_4.length : Int) != 0) = false := bne_eq_false_iff_eq.mpr c10
        clear c10
        simp only [Option.some.injEq, Prod.mk.injEq] at H
        obtain ⟨rfl, rfl⟩ := H
        obtain ⟨Ao11, co11, eo11⟩ := Kd.R_slice HO_2.out
        subst eo11
        go_wp2
        go_ret2
        exact ⟨by first | rfl | (simp [errW_none, errW_some] <;> rfl) | (simp [*, errW_none, errW_some] <;> rfl), by repeat (first | (with_reducible first | exact HB.out | apply below_alloc | apply pw_below_drewN | apply below_drew1) | exact HB.out), by repeat (first | (with_reducible first | exact HK.out | apply Kept.alloc | apply Kept.drewN | apply Kept.drew) | exact HK.out)⟩
      · rw [if_neg c10] at H
        have c10b0 : ((x2_4.length : Int) == 0) = false := beq_eq_false_iff_ne.mpr c10
        have c10b1 : ((x2_4.length : Int) != 0) = true := bne_iff_ne.mpr c10
        have c10b2 : ¬ (x2_4 = []) := fun h_ => c10 (by rw [h_]; rfl)
        by_cases c12 : 0 < (x2_4.length : Int)
        · rw [if_pos c12] at H
          have c12b0 : decide (0 < (x2_4.length : Int)) = true := decide_eq_true c12
          have c12b1 : decide (0 < x2_4.length) = true := decide_eq_true (by omega)
          clear c12
          obtain ⟨ji13, hji13⟩ : ∃ j_ : Int, (wrap64 ((x2_4.length : Int) - 1)) = j_ := ⟨_, rfl⟩
          replace H : (if 0 ≤ (ji13) then (if (ji13) < (x2_4.length : Int) then ((framing_Length_1_ContainsFunc.f x2_4 (rdOf ByteArray.empty x2_4 0)).bind fun t215 => (if (x2_4.length : Int) = 1 then (framing_Length.j1 kj4 a0 a1 (rdOf ByteArray.empty x2_4 (ji13)) true (rdOf ByteArray.empty x2_4 0)) else (if t215 = true then ((quirks_Has.f a0 25).bind fun t216 => (framing_Length.j1 kj4 a0 a1 (rdOf ByteArray.empty x2_4 (ji13)) t216 (rdOf ByteArray.empty x2_4 0))) else ((quirks_Has.f a0 24).bind fun t217 => (if t217 = true then (framing_Length.j1 kj4 a0 a1 (rdOf ByteArray.empty x2_4 (ji13)) true (rdOf ByteArray.empty x2_4 0)) else ((quirks_Has.f a0 25).bind fun t218 => (framing_Length.j1 kj4 a0 a1 (rdOf ByteArray.empty x2_4 (ji13)) t218 (rdOf ByteArray.empty x2_4 0)))))))) else (none)) else (none)) = some (r1, r2) := by first | (rw [hji13] at H; exact H) | (simp only [hji13] at H ⊢; exact H)
          have hji13w : (IntKind.i64.wrap ((x2_4.length : Int) - 1)) = ji13 := (i64_w _).trans hji13
          by_cases c14 : 0 ≤ (ji13)
          · rw [if_pos c14] at H
            have c14b0 : decide (0 ≤ (ji13)) = true := decide_eq_true c14
            clear c14
            by_cases c15 : (ji13) < (x2_4.length : Int)
            · rw [if_pos c15] at H
              have c15b0 : decide ((ji13) < (x2_4.length : Int)) = true := decide_eq_true c15
              clear c15
              replace H := Option.bind_eq_some_iff.mp H
              obtain ⟨t215, A160, H⟩ := H
              replace H : (if (x2_4.length : Int) = 1 then (framing_Length.j1 kj4 a0 a1 (rdOf ByteArray.empty x2_4 (ji13)) true (rdOf ByteArray.empty x2_4 0)) else (if t215 = true then ((quirks_Has.f a0 25).bind fun t216 => (framing_Length.j1 kj4 a0 a1 (rdOf ByteArray.empty x2_4 (ji13)) t216 (rdOf ByteArray.empty x2_4 0))) else ((quirks_Has.f a0 24).bind fun t217 => (if t217 = true then (framing_Length.j1 kj4 a0 a1 (rdOf ByteArray.empty x2_4 (ji13)) true (rdOf ByteArray.empty x2_4 0)) else ((quirks_Has.f a0 25).bind fun t218 => (framing_Length.j1 kj4 a0 a1 (rdOf ByteArray.empty x2_4 (ji13)) t218 (rdOf ByteArray.empty x2_4 0))))))) = some (r1, r2) := H
              have A16 := Aside0.mk A160
              clear A160
              have HC17 := Aside0.mk H
              clear H
              obtain ⟨Ao18, co18, eo18⟩ := Kd.R_slice HO_2.out
              subst eo18
              try go_wp2
              have n0_ := Aside0.mk (Kd.R_drew HO_2.out)
              have n1_ := Aside0.mk (Kept.drew HK.out)
              have n2_ := Aside0.mk (below_drew1 HB.out)
              clear HO_2
              clear HK
              clear HB
              have HO_2 := n0_
              have HK := n1_
              have HB := n2_
              clear n0_ n1_ n2_
              have p212 : 0 ≤ (0 : Int) := (by omega)
              have q212 : 0 < (x2_4.length : Int) := of_decide_eq_true (by first | (with_reducible assumption) | assumption)
              obtain ⟨ad212, e212, hx212_0⟩ := Kd.at_string (Kd.R_reads' HO_2.out).2.2 0 p212 q212
              cases e212
              have qi212 : (0 < x2_4.length) = True := eq_true (by omega)
              (try rw [show ((0 : Int)).toNat = 0 from rfl] at hx212_0)
              (try rw [Addr.add_zero'] at hx212_0)
              replace p212 := eq_true p212
              replace q212 := eq_true q212
              have p213 : 0 ≤ ((ji13) : Int) := of_decide_eq_true (by first | (with_reducible assumption) | assumption)
              have q213 : (ji13) < (x2_4.length : Int) := of_decide_eq_true (by first | (with_reducible assumption) | assumption)
              obtain ⟨ad213, e213, hx213_0⟩ := Kd.at_string (Kd.R_reads' HO_2.out).2.2 (ji13) p213 q213
              obtain rfl : ad212 = ad213 := (by injection e213)
              replace p213 := eq_true p213
              replace q213 := eq_true q213
              refine start_ (n := 12) (S := fun w' => w'.cell? ad212 = some (.string (rdOf ByteArray.empty x2_4 0)) ∧ w'.cell? (ad212.add ((ji13)).toNat) = some (.string (rdOf ByteArray.empty x2_4 (ji13)))) (ds := []) #[false, false, false, false, false, false, false, false, false, false, false, false] (by kernel_rfl) rfl rfl ⟨hx212_0, hx213_0⟩ (fun hHeld => ?_); refine with_tabW framing_Length.tab5 framing_Length.bits5 (fun HT_ HW_ => ?_)
              generalize wc.drew = w19 at HO_2 HK HB hx212_0 hx213_0 hHeld ⊢
              refine pure_ (i := 0) (N := some 20) (v := ?_) (a' := ?_) #[true, false, false, false, false, false, false, false, false, false, false, false] rfl rfl (any_of HT_.out (by kernel_rfl)) (fun _ _ _ h => h) (Or.inl ⟨by rfl, ?_⟩) ?_ ?_
              rotate_left
              · intro w'
                go_simp
                with_reducible rfl
              rotate_left
              · simp only [Act.put, List.setIfInBounds_toArray, List.set_cons_zero, List.set_cons_succ, i64_w, i32_w]
                rfl
              refine pure_ (i := 1) (N := some 21) (v := ?_) (a' := ?_) #[true, true, false, false, false, false, false, false, false, false, false, false] rfl rfl (any_of HT_.out (by kernel_rfl)) (fun _ _ _ h => h) (Or.inl ⟨by rfl, ?_⟩) ?_ ?_
              rotate_left
              · intro w'
                go_simp
                with_reducible rfl
              rotate_left
              · simp only [Act.put, List.setIfInBounds_toArray, List.set_cons_zero, List.set_cons_succ, i64_w, i32_w]
                rfl
              refine pure_ (i := 3) (N := some 23) (v := ?_) (a' := ?_) #[true, true, false, true, false, false, false, false, false, false, false, false] rfl rfl (any_of HT_.out (by kernel_rfl)) (fun _ _ _ h => h) (Or.inl ⟨by rfl, ?_⟩) ?_ ?_
              rotate_left
              · intro w'
                go_simp
                with_reducible rfl
              rotate_left
              · simp only [Act.put, List.setIfInBounds_toArray, List.set_cons_zero, List.set_cons_succ, i64_w, i32_w]
                rfl
              refine pure_ (i := 4) (N := some 24) (v := ?_) (a' := ?_) #[true, true, false, true, true, false, false, false, false, false, false, false] rfl rfl (any_of HT_.out (by kernel_rfl)) (fun _ _ _ h => h) (Or.inl ⟨by rfl, ?_⟩) ?_ ?_
              rotate_left
              · intro w'
                go_simp
                with_reducible rfl
              rotate_left
              · simp only [Act.put, List.setIfInBounds_toArray, List.set_cons_zero, List.set_cons_succ, i64_w, i32_w]
                rfl
              refine pure_ (i := 5) (N := some 25) (v := ?_) (a' := ?_) #[true, true, false, true, true, true, false, false, false, false, false, false] rfl rfl (any_of HT_.out (by kernel_rfl)) (fun _ _ _ h => h) (Or.inl ⟨by rfl, ?_⟩) ?_ ?_
              rotate_left
              · intro w'
                go_simp
                with_reducible rfl
              rotate_left
              · simp only [Act.put, List.setIfInBounds_toArray, List.set_cons_zero, List.set_cons_succ, i64_w, i32_w]
                rfl
              refine pure_ (i := 6) (N := some 26) (v := ?_) (a' := ?_) #[true, true, false, true, true, true, true, false, false, false, false, false] rfl rfl (any_of HT_.out (by kernel_rfl)) (fun _ _ _ h => h) (Or.inl ⟨by rfl, ?_⟩) ?_ ?_
              rotate_left
              · intro w'
                go_simp
                with_reducible rfl
              rotate_left
              · simp only [Act.put, List.setIfInBounds_toArray, List.set_cons_zero, List.set_cons_succ, i64_w, i32_w]
                rfl
              refine pure_ (i := 7) (N := some 27) (v := ?_) (a' := ?_) #[true, true, false, true, true, true, true, true, false, false, false, false] rfl rfl (any_of HT_.out (by kernel_rfl)) (fun _ _ _ h => h) (Or.inl ⟨by rfl, ?_⟩) ?_ ?_
              rotate_left
              · intro w'
                go_simp
                with_reducible rfl
              rotate_left
              · simp only [Act.put, List.setIfInBounds_toArray, List.set_cons_zero, List.set_cons_succ, i64_w, i32_w]
                rfl
              refine take_ (i := 2) (N := some 22) (v := ?_) (a' := ?_) #[true, true, true, true, true, true, true, true, false, false, false, false] rfl rfl (take_ofW HT_.out HW_.out (by kernel_rfl)) (fun _ _ _ h => h) (Or.inl ⟨by rfl, ?_⟩) hHeld ?_ ?_
              rotate_left
              · rintro w' ⟨s0, s1⟩
                go_simp
                with_reducible rfl
              rotate_left
              · simp only [Act.put, List.setIfInBounds_toArray, List.set_cons_zero, List.set_cons_succ, i64_w, i32_w]
                rfl
              refine take_ (i := 8) (N := some 28) (v := ?_) (a' := ?_) #[true, true, true, true, true, true, true, true, true, false, false, false] rfl rfl (take_ofW HT_.out HW_.out (by kernel_rfl)) (fun _ _ _ h => h) (Or.inl ⟨by rfl, ?_⟩) hHeld ?_ ?_
              rotate_left
              · rintro w' ⟨s0, s1⟩
                go_simp
                with_reducible rfl
              rotate_left
              · simp only [Act.put, List.setIfInBounds_toArray, List.set_cons_zero, List.set_cons_succ, i64_w, i32_w]
                rfl
              refine one_ (i := 9) (N := some 8) #[true, true, true, true, true, true, true, true, true, true, false, false] rfl rfl (one_of HT_.out (by kernel_rfl)) (by decide) (fun K hK => ?_)
              refine box_step ?hg (N := 8) ?hd (cs := #[.string (⟨#[]⟩ : ByteArray)]) (t := 9) ?hr ?_; (case hd => rfl); (case hg => rfl); (case hr => first | (go_simp; done) | (go_simp; rfl))
              intro gb214 hg w20 hbox hb
              have HS0_ := (hb.cell (World.block_lt_of_cell? _ _ (hHeld.1))).trans (hHeld.1)
              have HS1_ := (hb.cell (World.block_lt_of_cell? _ _ (hHeld.2))).trans (hHeld.2)
              have n0_ := Aside0.mk (Kd.R_below (Kd.R_elderB (by (with_reducible repeat (first | apply Kd.R_alloc | apply Kd.R_drewN | apply Kd.R_drew)); exact HO_2.out) gb214 (Nat.le_of_eq hg.symm)) hb)
              have n1_ := Aside0.mk (Kept.below (S := (fun k_ => P2_ k_)) (by repeat (first | (with_reducible first | exact HK.out | apply Kept.alloc | apply Kept.drewN | apply Kept.drew) | exact HK.out)) hb)
              have n2_ := Aside0.mk (below_step (by repeat (first | (with_reducible first | exact HB.out | apply below_alloc | apply pw_below_drewN | apply below_drew1) | exact HB.out)) hb)
              have n3_ := Aside0.mk (hbox)
              have n4_ := Aside0.mk ((by rw [hg]; exact (by first | exact HK.out.1 | exact (show Kept w _ (fun k_ => P2_ k_) from by repeat (first | (with_reducible first | exact HK.out | apply Kept.alloc | apply Kept.drewN | apply Kept.drew) | exact HK.out)).1) : w.heap.size ≤ gb214))
              have n5_ := Aside0.mk ((by rw [hg]; exact (below_size (by repeat (first | (with_reducible first | exact HB.out | apply below_alloc | apply pw_below_drewN | apply below_drew1) | exact HB.out))) : w0.heap.size ≤ gb214))
              clear HO_2
              clear HK
              clear HB
              have HO_2 := n0_
              have HK := n1_
              have HB := n2_
              have BK214 := n3_
              have GW214 := n4_
              have GE214 := n5_
              clear n0_ n1_ n2_ n3_ n4_ n5_
              clear hb hbox hg
              refine hK.out _ _ ⟨HS0_, HS1_⟩ (fun hHeld => ?_)
              clear hK K
              refine norm_ (a' := ?_) ?_ ?_
              rotate_left
              · show Act.put _ (some 8) _ = _
                simp only [Act.put, List.setIfInBounds_toArray, List.set_cons_zero, List.set_cons_succ, i64_w, i32_w]
                rfl
              refine one_ (i := 10) (N := none) #[true, true, true, true, true, true, true, true, true, true, true, false] rfl rfl (one_of HT_.out (by kernel_rfl)) (by decide) (fun K hK => ?_)
              have hs21 : w20.cell? ⟨gb214, 0, none⟩ = some (.string (⟨#[]⟩ : ByteArray)) := (blk_cell BK214.out 0).trans rfl
              have hfs21 := blk_frozen BK214.out 0
              refine skip_ (w1 := ?_) (by rfl) rfl ?_ ?_
              rotate_left
              · go_simp
                rfl
              refine hK.out _ _ ⟨((cell_far (p := ⟨gb214, _, none⟩) (by first | exact Kd.own_blk (Kd.R_away HO_2.out (fun _ hk => (by first | exact hk.2 | exact True.intro))) | (rw [add_block]; exact Kd.own_blk (Kd.R_away HO_2.out (fun _ hk => (by first | exact hk.2 | exact True.intro)))) | (show (Addr.add _ _).block ≠ _; rw [add_block]; exact Kd.own_blk (Kd.R_away HO_2.out (fun _ hk => (by first | exact hk.2 | exact True.intro)))) | (dsimp only; exact Kd.own_blk (Kd.R_away HO_2.out (fun _ hk => (by first | exact hk.2 | exact True.intro))))) _).trans (hHeld.1)), ((cell_far (p := ⟨gb214, _, none⟩) (by first | exact Kd.own_blk (Kd.R_away HO_2.out (fun _ hk => (by first | exact hk.2 | exact True.intro))) | (rw [add_block]; exact Kd.own_blk (Kd.R_away HO_2.out (fun _ hk => (by first | exact hk.2 | exact True.intro)))) | (show (Addr.add _ _).block ≠ _; rw [add_block]; exact Kd.own_blk (Kd.R_away HO_2.out (fun _ hk => (by first | exact hk.2 | exact True.intro)))) | (dsimp only; exact Kd.own_blk (Kd.R_away HO_2.out (fun _ hk => (by first | exact hk.2 | exact True.intro))))) _).trans (hHeld.2))⟩ (fun hHeld => ?_)
              clear hK K
              refine pure_ (i := 11) (N := some 9) (v := ?_) (a' := ?_) #[true, true, true, true, true, true, true, true, true, true, true, true] rfl rfl (any_of HT_.out (by kernel_rfl)) (fun _ _ _ h => h) (Or.inl ⟨by rfl, ?_⟩) ?_ ?_
              rotate_left
              · intro w'
                go_simp
                with_reducible rfl
              rotate_left
              · simp only [Act.put, List.setIfInBounds_toArray, List.set_cons_zero, List.set_cons_succ, i64_w, i32_w]
                rfl
              refine done_ (done_of HT_.out (by kernel_rfl)) ?_
              go_upto_block 0 with (first | (go_at_call 29; (with_reducible refine (framing_Length_1_ContainsFunc.calls _ _ x2_4 gb214 (rdOf ByteArray.empty x2_4 0) t215 _ ?side1 ?side2 ?side3 A16.out).mono ?_); (case side1 => refine (Kd.R_reads' (e := 9) (base := w0.heap.size) (ok := fun k_ => ((P2_ k_ ∨ w.heap.size ≤ k_) ∧ k_ ≠ gb214)) (n := x2_4.length) (c := co18) ?_).2.2; exact (by (with_reducible repeat (first | apply Kd.R_alloc | apply Kd.R_drewN | apply Kd.R_drew)); exact (Kd.R_mono (Kd.R_far (p := ⟨gb214, 0, none⟩) (Kd.R_mono HO_2.out (fun k_ hk => (⟨hk, hk.2⟩ : _ ∧ k_ ≠ gb214))) (fun _ hk => (by first | exact hk.2 | exact True.intro)) (.string (rdOf ByteArray.empty x2_4 0))) (fun _ h_ => h_.1)))); (case side2 => exact (Kd.R_reads' HO_2.out).2.1); (case side3 => exact by (with_reducible repeat (first | refine blk_drewN ?_ _ | refine blk_drew ?_ | refine blk_alloc ?_ _)); refine blk_put (cs := #[.string (⟨#[]⟩ : ByteArray)]) ?_ 0 _ rfl; (with_reducible repeat (first | refine blk_drewN ?_ _ | refine blk_drew ?_ | refine blk_alloc ?_ _)); exact BK214.out); rintro e w22 ⟨rfl, hb⟩; have n0_ := Aside0.mk (Kd.R_below (by (with_reducible repeat (first | apply Kd.R_alloc | apply Kd.R_drewN | apply Kd.R_drew)); exact (Kd.R_mono (Kd.R_far (p := ⟨gb214, 0, none⟩) (Kd.R_mono HO_2.out (fun k_ hk => (⟨hk, hk.2⟩ : _ ∧ k_ ≠ gb214))) (fun _ hk => (by first | exact hk.2 | exact True.intro)) (.string (rdOf ByteArray.empty x2_4 0))) (fun _ h_ => h_.1))) hb); have n1_ := Aside0.mk (blk_below (g := gb214) (o := .cells #[.string (rdOf ByteArray.empty x2_4 0)] 9 (0, 0)) (by (with_reducible repeat (first | refine blk_drewN ?_ _ | refine blk_drew ?_ | refine blk_alloc ?_ _)); refine blk_put (cs := #[.string (⟨#[]⟩ : ByteArray)]) ?_ 0 _ rfl; (with_reducible repeat (first | refine blk_drewN ?_ _ | refine blk_drew ?_ | refine blk_alloc ?_ _)); exact BK214.out) hb); have n2_ := Aside0.mk (Kept.below (S := (fun k_ => P2_ k_)) (by repeat (first | (with_reducible first | exact HK.out | apply Kept.alloc | apply Kept.drewN | apply Kept.drew | refine Kept.setCell ?_ (.inr GW214.out) _) | exact HK.out)) hb); have n3_ := Aside0.mk (below_step (by repeat (first | (with_reducible first | exact HB.out | apply below_alloc | apply pw_below_drewN | apply below_drew1 | refine below_set ?_ GE214.out) | exact HB.out)) hb); clear HO_2; clear BK214; clear HK; clear HB; have HO_2 := n0_; have BK214 := n1_; have HK := n2_; have HB := n3_; clear n0_ n1_ n2_ n3_; (try clear hb); (try clear hb2); (try clear hk); (try clear hi)))
              (try simp only [Act.put, List.setIfInBounds_toArray, List.set_cons_zero, List.set_cons_succ])
              go_cut [] (fun wc => ∃ (kq : Nat) (x215000_16 : ByteArray), Aside0 (framing_Length.j2 kq a0 a1 x215000_16 = some (r1, r2)) ∧ Aside0 (kq ≤ kj4) ∧ Aside0 (wc.heap[gb214]? = some (.cells #[.string x215000_16] 9 (0, 0))) ∧ Aside0 (Kept w wc (fun k_ => P2_ k_)) ∧ Aside0 (Below w0.heap.size w0 wc))
              case first =>
                have H := HC17.out
                clear HC17
                have HC23 := Aside0.mk H
                clear H
                go_upto_region 8 with (fail)
                go_cut [33] (fun v33 wc => ∃ (kq : Nat) (x33_22 : Bool), v33 = .bool x33_22 ∧ Aside0 (framing_Length.j1 kq a0 a1 (rdOf ByteArray.empty x2_4 (ji13)) x33_22 (rdOf ByteArray.empty x2_4 0) = some (r1, r2)) ∧ Aside0 (kq ≤ kj4) ∧ Aside0 (wc.heap[gb214]? = some (.cells #[.string (rdOf ByteArray.empty x2_4 0)] 9 (0, 0))) ∧ Aside0 (Kept w wc (fun k_ => P2_ k_)) ∧ Aside0 (Below w0.heap.size w0 wc))
                case first =>
                  have H := HC23.out
                  clear HC23
                  by_cases c24 : (x2_4.length : Int) = 1
                  · rw [if_pos c24] at H
                    have c24b0 : ((x2_4.length : Int) == 1) = true := beq_iff_eq.mpr c24
                    have c24b1 : ((x2_4.length : Int) != 1) = false := bne_eq_false_iff_eq.mpr c24
                    clear c24
                    (first | rw [c24b0] | (simp only [i64_w, i32_w]; rw [c24b0]) | skip)
                    have H' := Aside0.mk H
                    clear H
                    go_wp2
                    go_meet
                    case rel => exact ⟨_, (true), (by first | rfl | (simp; done) | (simp [*]; done)), H', ⟨by have := HJ4.out; first | omega | exact Nat.le_refl _⟩, ⟨by (with_reducible repeat (first | refine blk_drewN ?_ _ | refine blk_drew ?_ | refine blk_alloc ?_ _)); exact BK214.out⟩, ⟨by repeat (first | (with_reducible first | exact HK.out | apply Kept.alloc | apply Kept.drewN | apply Kept.drew | refine Kept.setCell ?_ (.inr GW214.out) _) | exact HK.out)⟩, ⟨by repeat (first | (with_reducible first | exact HB.out | apply below_alloc | apply pw_below_drewN | apply below_drew1 | refine below_set ?_ GE214.out) | exact HB.out)⟩⟩
                  · rw [if_neg c24] at H
                    have c24b0 : ((x2_4.length : Int) == 1) = false := beq_eq_false_iff_ne.mpr c24
                    have c24b1 : ((x2_4.length : Int) != 1) = true := bne_iff_ne.mpr c24
                    (first | rw [c24b0] | (simp only [i64_w, i32_w]; rw [c24b0]) | skip)
                    by_cases c25 : t215 = true
                    · subst c25
                      have H1 : ((quirks_Has.f a0 25).bind fun t216 => (framing_Length.j1 kj4 a0 a1 (rdOf ByteArray.empty x2_4 (ji13)) t216 (rdOf ByteArray.empty x2_4 0))) = some (r1, r2) := by rw [if_pos rfl] at H; exact H
                      clear H
                      have H := H1
                      clear H1
                      replace H := Option.bind_eq_some_iff.mp H
                      obtain ⟨t216, A260, H⟩ := H
                      replace H : (framing_Length.j1 kj4 a0 a1 (rdOf ByteArray.empty x2_4 (ji13)) t216 (rdOf ByteArray.empty x2_4 0)) = some (r1, r2) := H
                      have A26 := Aside0.mk A260
                      clear A260
                      have H' := Aside0.mk H
                      clear H
                      go_wp2_with (first | (go_at_call 26; (with_reducible refine (quirks_Has.calls a0 25 t216 _ A26.out).mono ?_); rintro e w' ⟨rfl, ⟨nd, rfl⟩⟩))
                      go_meet
                      case rel => exact ⟨_, (t216), (by first | rfl | (simp; done) | (simp [*]; done)), H', ⟨by have := HJ4.out; first | omega | exact Nat.le_refl _⟩, ⟨by (with_reducible repeat (first | refine blk_drewN ?_ _ | refine blk_drew ?_ | refine blk_alloc ?_ _)); exact BK214.out⟩, ⟨by repeat (first | (with_reducible first | exact HK.out | apply Kept.alloc | apply Kept.drewN | apply Kept.drew | refine Kept.setCell ?_ (.inr GW214.out) _) | exact HK.out)⟩, ⟨by repeat (first | (with_reducible first | exact HB.out | apply below_alloc | apply pw_below_drewN | apply below_drew1 | refine below_set ?_ GE214.out) | exact HB.out)⟩⟩
                    · replace c25 := Bool.eq_false_iff.mpr c25
                      subst c25
                      have H1 : ((quirks_Has.f a0 24).bind fun t217 => (if t217 = true then (framing_Length.j1 kj4 a0 a1 (rdOf ByteArray.empty x2_4 (ji13)) true (rdOf ByteArray.empty x2_4 0)) else ((quirks_Has.f a0 25).bind fun t218 => (framing_Length.j1 kj4 a0 a1 (rdOf ByteArray.empty x2_4 (ji13)) t218 (rdOf ByteArray.empty x2_4 0))))) = some (r1, r2) := by rw [if_neg (show ¬ (false = true) by decide)] at H; exact H
                      clear H
                      have H := H1
                      clear H1
                      replace H := Option.bind_eq_some_iff.mp H
                      obtain ⟨t217, A270, H⟩ := H
                      replace H : (if t217 = true then (framing_Length.j1 kj4 a0 a1 (rdOf ByteArray.empty x2_4 (ji13)) true (rdOf ByteArray.empty x2_4 0)) else ((quirks_Has.f a0 25).bind fun t218 => (framing_Length.j1 kj4 a0 a1 (rdOf ByteArray.empty x2_4 (ji13)) t218 (rdOf ByteArray.empty x2_4 0)))) = some (r1, r2) := H
                      have A27 := Aside0.mk A270
                      clear A270
                      by_cases c28 : t217 = true
                      · subst c28
                        have H1 : (framing_Length.j1 kj4 a0 a1 (rdOf ByteArray.empty x2_4 (ji13)) true (rdOf ByteArray.empty x2_4 0)) = some (r1, r2) := by rw [if_pos rfl] at H; exact H
                        clear H
                        have H := H1
                        clear H1
                        have H' := Aside0.mk H
                        clear H
                        go_wp2_with (first | (go_at_call 26; (with_reducible refine (quirks_Has.calls a0 24 true _ A27.out).mono ?_); rintro e w' ⟨rfl, ⟨nd, rfl⟩⟩))
                        go_meet
                        case rel => exact ⟨_, (true), (by first | rfl | (simp; done) | (simp [*]; done)), H', ⟨by have := HJ4.out; first | omega | exact Nat.le_refl _⟩, ⟨by (with_reducible repeat (first | refine blk_drewN ?_ _ | refine blk_drew ?_ | refine blk_alloc ?_ _)); exact BK214.out⟩, ⟨by repeat (first | (with_reducible first | exact HK.out | apply Kept.alloc | apply Kept.drewN | apply Kept.drew | refine Kept.setCell ?_ (.inr GW214.out) _) | exact HK.out)⟩, ⟨by repeat (first | (with_reducible first | exact HB.out | apply below_alloc | apply pw_below_drewN | apply below_drew1 | refine below_set ?_ GE214.out) | exact HB.out)⟩⟩
                      · replace c28 := Bool.eq_false_iff.mpr c28
                        subst c28
                        have H1 : ((quirks_Has.f a0 25).bind fun t218 => (framing_Length.j1 kj4 a0 a1 (rdOf ByteArray.empty x2_4 (ji13)) t218 (rdOf ByteArray.empty x2_4 0))) = some (r1, r2) := by rw [if_neg (show ¬ (false = true) by decide)] at H; exact H
                        clear H
                        have H := H1
                        clear H1
                        replace H := Option.bind_eq_some_iff.mp H
                        obtain ⟨t218, A290, H⟩ := H
                        replace H : (framing_Length.j1 kj4 a0 a1 (rdOf ByteArray.empty x2_4 (ji13)) t218 (rdOf ByteArray.empty x2_4 0)) = some (r1, r2) := H
                        have A29 := Aside0.mk A290
                        clear A290
                        have H' := Aside0.mk H
                        clear H
                        go_wp2_with (first | (go_at_call 26; (with_reducible refine (quirks_Has.calls a0 24 false _ A27.out).mono ?_); rintro e w' ⟨rfl, ⟨nd, rfl⟩⟩) | (go_at_call 26; (with_reducible refine (quirks_Has.calls a0 25 t218 _ A29.out).mono ?_); rintro e w' ⟨rfl, ⟨nd, rfl⟩⟩))
                        go_meet
                        case rel => exact ⟨_, (t218), (by first | rfl | (simp; done) | (simp [*]; done)), H', ⟨by have := HJ4.out; first | omega | exact Nat.le_refl _⟩, ⟨by (with_reducible repeat (first | refine blk_drewN ?_ _ | refine blk_drew ?_ | refine blk_alloc ?_ _)); exact BK214.out⟩, ⟨by repeat (first | (with_reducible first | exact HK.out | apply Kept.alloc | apply Kept.drewN | apply Kept.drew | refine Kept.setCell ?_ (.inr GW214.out) _) | exact HK.out)⟩, ⟨by repeat (first | (with_reducible first | exact HB.out | apply below_alloc | apply pw_below_drewN | apply below_drew1 | refine below_set ?_ GE214.out) | exact HB.out)⟩⟩
                case rest =>
                  clear HC23
                  try clear c1
                  try clear c2
                  try clear p2
                  try clear q2
                  try clear hx2
                  try clear qi2
                  try clear c3
                  try clear c6
                  try clear p6
                  try clear c10
                  try clear c10b0
                  try clear c10b1
                  try clear c10b2
                  try clear c12
                  try clear c12b0
                  try clear c12b1
                  try clear c14
                  try clear c14b0
                  try clear c15
                  try clear c15b0
                  try clear p21
                  try clear q21
                  try clear hx21
                  try clear qi21
                  try clear c22
                  try clear c24
                  try clear c24b0
                  try clear c24b1
                  try clear c25
                  try clear c26
                  try clear c28
                  try clear hx212_0
                  try clear hx213_0
                  try clear p2
                  try clear p212
                  try clear p213
                  try clear q212
                  try clear q213
                  obtain ⟨kq, x33_22, rfl, HA, HJ22, BK214, HK, HB⟩ := hcut
                  cases kq with
                  | zero => exact absurd HA.out (by simp [framing_Length.j1])
                  | succ kj22 =>
                    have H := HA.out
                    clear HA
                    simp only [framing_Length.j1] at H
                    by_cases c30 : x33_22 = true
                    · subst c30
                      have H1 : (framing_Length.j2 kj22 a0 a1 (rdOf ByteArray.empty x2_4 0)) = some (r1, r2) := by rw [if_pos rfl] at H; exact H
                      clear H
                      have H := H1
                      clear H1
                      have H' := Aside0.mk H
                      clear H
                      go_wp2
                      go_meet
                      case rel => exact ⟨_, ((rdOf ByteArray.empty x2_4 0)), H', ⟨by have := HJ4.out; have := HJ22.out; first | omega | exact Nat.le_refl _⟩, ⟨by (with_reducible repeat (first | refine blk_drewN ?_ _ | refine blk_drew ?_ | refine blk_alloc ?_ _)); exact BK214.out⟩, ⟨by repeat (first | (with_reducible first | exact HK.out | apply Kept.alloc | apply Kept.drewN | apply Kept.drew | refine Kept.setCell ?_ (.inr GW214.out) _) | exact HK.out)⟩, ⟨by repeat (first | (with_reducible first | exact HB.out | apply below_alloc | apply pw_below_drewN | apply below_drew1 | refine below_set ?_ GE214.out) | exact HB.out)⟩⟩
                    · replace c30 := Bool.eq_false_iff.mpr c30
                      subst c30
                      have H1 : ((quirks_Has.f a0 26).bind fun t219 => (if t219 = true then (framing_Length.j2 kj22 a0 a1 (rdOf ByteArray.empty x2_4 (ji13))) else (some (0, 400)))) = some (r1, r2) := by rw [if_neg (show ¬ (false = true) by decide)] at H; exact H
                      clear H
                      have H := H1
                      clear H1
                      replace H := Option.bind_eq_some_iff.mp H
                      obtain ⟨t219, A310, H⟩ := H
                      replace H : (if t219 = true then (framing_Length.j2 kj22 a0 a1 (rdOf ByteArray.empty x2_4 (ji13))) else (some (0, 400))) = some (r1, r2) := H
                      have A31 := Aside0.mk A310
                      clear A310
                      by_cases c32 : t219 = true
                      · subst c32
                        have H1 : (framing_Length.j2 kj22 a0 a1 (rdOf ByteArray.empty x2_4 (ji13))) = some (r1, r2) := by rw [if_pos rfl] at H; exact H
                        clear H
                        have H := H1
                        clear H1
                        have H' := Aside0.mk H
                        clear H
                        go_wp2_with (first | ((with_reducible refine gate_callee (f := 26) rfl ?_); refine goesL_ (some 50) rfl rfl Tryd.func26 (by kernel_rfl) rfl #[.int .u32 a0, .int .i64 26] rfl (by (try simp only [List.map_toArray, List.map_cons, List.map_nil]); first | done | rfl | (simp only [List.length_drop, List.length_take]; rfl)) ?_; (with_reducible refine (quirks_Has.calls a0 26 true _ A31.out).mono ?_); rintro e w' ⟨rfl, ⟨nd, rfl⟩⟩; refine ⟨_, rfl, ?_⟩; (try (rw [drewN_self wc]; generalize hq_ : World.drewN wc _ = wc; have n0_ : Aside0 (wc.heap[gb214]? = some (.cells #[.string (rdOf ByteArray.empty x2_4 0)] 9 (0, 0))) := ⟨by rw [← hq_]; exact (by (with_reducible repeat (first | refine blk_drewN ?_ _ | refine blk_drew ?_ | refine blk_alloc ?_ _)); exact BK214.out)⟩; have n1_ : Aside0 (Kept w wc (fun k_ => P2_ k_)) := ⟨by rw [← hq_]; exact (by repeat (first | (with_reducible first | exact HK.out | apply Kept.alloc | apply Kept.drewN | apply Kept.drew | refine Kept.setCell ?_ (.inr GW214.out) _) | exact HK.out))⟩; have n2_ : Aside0 (Below w0.heap.size w0 wc) := ⟨by rw [← hq_]; exact (by repeat (first | (with_reducible first | exact HB.out | apply below_alloc | apply pw_below_drewN | apply below_drew1 | refine below_set ?_ GE214.out) | exact HB.out))⟩; clear BK214 HK HB hq_; have BK214 := n0_; have HK := n1_; have HB := n2_; clear n0_ n1_ n2_)); have hcz33_0 : wc.cell? ⟨gb214, 0, none⟩ = some (.string (rdOf ByteArray.empty x2_4 0)) := (blk_cell BK214.out 0).trans rfl; have hfz33_0 := blk_frozen BK214.out 0))
                        go_meet
                        case rel => exact ⟨_, ((rdOf ByteArray.empty x2_4 (ji13))), H', ⟨by have := HJ4.out; have := HJ22.out; first | omega | exact Nat.le_refl _⟩, ⟨by (with_reducible repeat (first | refine blk_drewN ?_ _ | refine blk_drew ?_ | refine blk_alloc ?_ _)); refine blk_put (cs := #[.string (rdOf ByteArray.empty x2_4 0)]) ?_ 0 _ rfl; (with_reducible repeat (first | refine blk_drewN ?_ _ | refine blk_drew ?_ | refine blk_alloc ?_ _)); exact BK214.out⟩, ⟨by repeat (first | (with_reducible first | exact HK.out | apply Kept.alloc | apply Kept.drewN | apply Kept.drew | refine Kept.setCell ?_ (.inr GW214.out) _) | exact HK.out)⟩, ⟨by repeat (first | (with_reducible first | exact HB.out | apply below_alloc | apply pw_below_drewN | apply below_drew1 | refine below_set ?_ GE214.out) | exact HB.out)⟩⟩
                      · replace c32 := Bool.eq_false_iff.mpr c32
                        subst c32
                        have H1 : (some (0, 400)) = some (r1, r2) := by rw [if_neg (show ¬ (false = true) by decide)] at H; exact H
                        clear H
                        have H := H1
                        clear H1
                        simp only [Option.some.injEq, Prod.mk.injEq] at H
                        obtain ⟨rfl, rfl⟩ := H
                        go_wp2_with (first | ((with_reducible refine gate_callee (f := 26) rfl ?_); refine goesL_ (some 50) rfl rfl Tryd.func26 (by kernel_rfl) rfl #[.int .u32 a0, .int .i64 26] rfl (by (try simp only [List.map_toArray, List.map_cons, List.map_nil]); first | done | rfl | (simp only [List.length_drop, List.length_take]; rfl)) ?_; (with_reducible refine (quirks_Has.calls a0 26 false _ A31.out).mono ?_); rintro e w' ⟨rfl, ⟨nd, rfl⟩⟩; refine ⟨_, rfl, ?_⟩))
                        go_ret2
                        exact ⟨by first | rfl | (simp [errW_none, errW_some] <;> rfl) | (simp only [← hji13]; first | rfl | (simp [errW_none, errW_some] <;> rfl)) | (simp [*, errW_none, errW_some] <;> rfl), by repeat (first | (with_reducible first | exact HB.out | apply below_alloc | apply pw_below_drewN | apply below_drew1 | refine below_set ?_ GE214.out) | exact HB.out), by repeat (first | (with_reducible first | exact HK.out | apply Kept.alloc | apply Kept.drewN | apply Kept.drew | refine Kept.setCell ?_ (.inr GW214.out) _) | exact HK.out)⟩
              case rest =>
                clear HC17
                try clear c1
                try clear c2
                try clear p2
                try clear q2
                try clear hx2
                try clear qi2
                try clear c3
                try clear c6
                try clear p6
                try clear c10
                try clear c10b0
                try clear c10b1
                try clear c10b2
                try clear c12
                try clear c12b0
                try clear c12b1
                try clear c14
                try clear c14b0
                try clear c15
                try clear c15b0
                try clear p21
                try clear q21
                try clear hx21
                try clear qi21
                try clear c22
                try clear c24
                try clear c24b0
                try clear c24b1
                try clear c25
                try clear c26
                try clear c28
                try clear c30
                try clear c32
                try clear c33
                try clear hcz33_0
                try clear hfz33_0
                try clear hx212_0
                try clear hx213_0
                try clear p2
                try clear p21
                try clear p212
                try clear p213
                try clear p6
                try clear q2
                try clear q21
                try clear q212
                try clear q213
                obtain ⟨kq, x215000_16, HA, HJ16, BK214, HK, HB⟩ := hcut
                cases kq with
                | zero => exact absurd HA.out (by simp [framing_Length.j2])
                | succ kj16 =>
                  have H := HA.out
                  clear HA
                  simp only [framing_Length.j2] at H
                  replace H := Option.bind_eq_some_iff.mp H
                  obtain ⟨t220, A340, H⟩ := H
                  replace H : (if t220 = true then ((strings_TrimPrefix.f x215000_16 (⟨#[43]⟩ : ByteArray)).bind fun t221 => (framing_Length.j3 kj16 a1 t221)) else (framing_Length.j3 kj16 a1 x215000_16)) = some (r1, r2) := H
                  have A34 := Aside0.mk A340
                  clear A340
                  have HC35 := Aside0.mk H
                  clear H
                  go_upto_if 53 with (first | ((with_reducible refine gate_callee (f := 26) rfl ?_); refine goesL_ (some 53) rfl rfl Tryd.func26 (by kernel_rfl) rfl #[.int .u32 a0, .int .i64 23] rfl (by (try simp only [List.map_toArray, List.map_cons, List.map_nil]); first | done | rfl | (simp only [List.length_drop, List.length_take]; rfl)) ?_; (with_reducible refine (quirks_Has.calls a0 23 t220 _ A34.out).mono ?_); rintro e w' ⟨rfl, ⟨nd, rfl⟩⟩; refine ⟨_, rfl, ?_⟩))
                  (try simp only [Act.put, List.setIfInBounds_toArray, List.set_cons_zero, List.set_cons_succ])
                  go_cut [] (fun wc => ∃ (kq : Nat) (x215000_34 : ByteArray), Aside0 (framing_Length.j3 kq a1 x215000_34 = some (r1, r2)) ∧ Aside0 (kq ≤ kj16) ∧ Aside0 (wc.heap[gb214]? = some (.cells #[.string x215000_34] 9 (0, 0))) ∧ Aside0 (Kept w wc (fun k_ => P2_ k_)) ∧ Aside0 (Below w0.heap.size w0 wc))
                  case first =>
                    have H := HC35.out
                    clear HC35
                    by_cases c36 : t220 = true
                    · subst c36
                      have H1 : ((strings_TrimPrefix.f x215000_16 (⟨#[43]⟩ : ByteArray)).bind fun t221 => (framing_Length.j3 kj16 a1 t221)) = some (r1, r2) := by rw [if_pos rfl] at H; exact H
                      clear H
                      have H := H1
                      clear H1
                      replace H := Option.bind_eq_some_iff.mp H
                      obtain ⟨t221, A370, H⟩ := H
                      replace H : (framing_Length.j3 kj16 a1 t221) = some (r1, r2) := H
                      have A37 := Aside0.mk A370
                      clear A370
                      have H' := Aside0.mk H
                      clear H
                      have hcz38_0 : wc.cell? ⟨gb214, 0, none⟩ = some (.string x215000_16) := (blk_cell BK214.out 0).trans rfl
                      have hfz38_0 := blk_frozen BK214.out 0
                      go_wp2_with (first | ((with_reducible refine gate_callee (f := 41) rfl ?_); refine goesL_ (some 55) rfl rfl Tryd.func41 (by kernel_rfl) rfl #[.string x215000_16, .string (⟨#[43]⟩ : ByteArray)] rfl (by (try simp only [List.map_toArray, List.map_cons, List.map_nil]); first | done | rfl | (simp only [List.length_drop, List.length_take]; rfl)) ?_; (with_reducible refine (strings_TrimPrefix.calls x215000_16 (⟨#[43]⟩ : ByteArray) t221 _ A37.out).mono ?_); rintro e w' ⟨rfl, ⟨nd, rfl⟩⟩; refine ⟨_, rfl, ?_⟩; (try (rw [drewN_self wc]; generalize hq_ : World.drewN wc _ = wc; have n0_ : Aside0 (wc.heap[gb214]? = some (.cells #[.string x215000_16] 9 (0, 0))) := ⟨by rw [← hq_]; exact (by (with_reducible repeat (first | refine blk_drewN ?_ _ | refine blk_drew ?_ | refine blk_alloc ?_ _)); exact BK214.out)⟩; have n1_ : Aside0 (Kept w wc (fun k_ => P2_ k_)) := ⟨by rw [← hq_]; exact (by repeat (first | (with_reducible first | exact HK.out | apply Kept.alloc | apply Kept.drewN | apply Kept.drew | refine Kept.setCell ?_ (.inr GW214.out) _) | exact HK.out))⟩; have n2_ : Aside0 (Below w0.heap.size w0 wc) := ⟨by rw [← hq_]; exact (by repeat (first | (with_reducible first | exact HB.out | apply below_alloc | apply pw_below_drewN | apply below_drew1 | refine below_set ?_ GE214.out) | exact HB.out))⟩; clear BK214 HK HB hq_; have BK214 := n0_; have HK := n1_; have HB := n2_; clear n0_ n1_ n2_)); have hcz_1_gb214_0 : wc.cell? ⟨gb214, 0, none⟩ = some (.string x215000_16) := (blk_cell BK214.out 0).trans rfl; have hfz_1_gb214_0 := blk_frozen BK214.out 0))
                      go_meet
                      case rel => exact ⟨_, (t221), H', ⟨by have := HJ4.out; have := HJ16.out; first | omega | exact Nat.le_refl _⟩, ⟨by (with_reducible repeat (first | refine blk_drewN ?_ _ | refine blk_drew ?_ | refine blk_alloc ?_ _)); refine blk_put (cs := #[.string x215000_16]) ?_ 0 _ rfl; (with_reducible repeat (first | refine blk_drewN ?_ _ | refine blk_drew ?_ | refine blk_alloc ?_ _)); exact BK214.out⟩, ⟨by repeat (first | (with_reducible first | exact HK.out | apply Kept.alloc | apply Kept.drewN | apply Kept.drew | refine Kept.setCell ?_ (.inr GW214.out) _) | exact HK.out)⟩, ⟨by repeat (first | (with_reducible first | exact HB.out | apply below_alloc | apply pw_below_drewN | apply below_drew1 | refine below_set ?_ GE214.out) | exact HB.out)⟩⟩
                    · replace c36 := Bool.eq_false_iff.mpr c36
                      subst c36
                      have H1 : (framing_Length.j3 kj16 a1 x215000_16) = some (r1, r2) := by rw [if_neg (show ¬ (false = true) by decide)] at H; exact H
                      clear H
                      have H := H1
                      clear H1
                      have H' := Aside0.mk H
                      clear H
                      go_wp2
                      go_meet
                      case rel => exact ⟨_, (x215000_16), H', ⟨by have := HJ4.out; have := HJ16.out; first | omega | exact Nat.le_refl _⟩, ⟨by (with_reducible repeat (first | refine blk_drewN ?_ _ | refine blk_drew ?_ | refine blk_alloc ?_ _)); exact BK214.out⟩, ⟨by repeat (first | (with_reducible first | exact HK.out | apply Kept.alloc | apply Kept.drewN | apply Kept.drew | refine Kept.setCell ?_ (.inr GW214.out) _) | exact HK.out)⟩, ⟨by repeat (first | (with_reducible first | exact HB.out | apply below_alloc | apply pw_below_drewN | apply below_drew1 | refine below_set ?_ GE214.out) | exact HB.out)⟩⟩
                  case rest =>
                    clear HC35
                    try clear c1
                    try clear c2
                    try clear p2
                    try clear q2
                    try clear hx2
                    try clear qi2
                    try clear c3
                    try clear c4
                    try clear c6
                    try clear p6
                    try clear c10
                    try clear c10b0
                    try clear c10b1
                    try clear c10b2
                    try clear c12
                    try clear c12b0
                    try clear c12b1
                    try clear c14
                    try clear c14b0
                    try clear c15
                    try clear c15b0
                    try clear p21
                    try clear q21
                    try clear hx21
                    try clear qi21
                    try clear c22
                    try clear c24
                    try clear c24b0
                    try clear c24b1
                    try clear c25
                    try clear c26
                    try clear c28
                    try clear c30
                    try clear c32
                    try clear c33
                    try clear c36
                    try clear hcz33_0
                    try clear hcz38_0
                    try clear hfz33_0
                    try clear hfz38_0
                    try clear hx212_0
                    try clear hx213_0
                    try clear p2
                    try clear p21
                    try clear p212
                    try clear p213
                    try clear p6
                    try clear q2
                    try clear q21
                    try clear q212
                    try clear q213
                    obtain ⟨kq, x215000_34, HA, HJ34, BK214, HK, HB⟩ := hcut
                    cases kq with
                    | zero => exact absurd HA.out (by simp [framing_Length.j3])
                    | succ kj34 =>
                      have H := HA.out
                      clear HA
                      simp only [framing_Length.j3] at H
                      replace H := Option.bind_eq_some_iff.mp H
                      obtain ⟨⟨t222, t223⟩, A390, H⟩ := H
                      replace H : (if t223 = 23 then (some (0, 413)) else (if t223 = 22 then (some (0, 400)) else (some (t222, 0)))) = some (r1, r2) := H
                      have A39 := Aside0.mk A390
                      clear A390
                      by_cases c40 : t223 = 23
                      · rw [if_pos c40] at H
                        have c40b0 : (t223 == 23) = true := beq_iff_eq.mpr c40
                        have c40b1 : (t223 != 23) = false := bne_eq_false_iff_eq.mpr c40
                        clear c40
                        simp only [Option.some.injEq, Prod.mk.injEq] at H
                        obtain ⟨rfl, rfl⟩ := H
                        have hcz41_0 : wc.cell? ⟨gb214, 0, none⟩ = some (.string x215000_34) := (blk_cell BK214.out 0).trans rfl
                        have hfz41_0 := blk_frozen BK214.out 0
                        go_wp2_with (first | ((with_reducible refine gate_callee (f := 42) rfl ?_); refine goesL_ (some 59) rfl rfl Tryd.func42 (by kernel_rfl) rfl #[.string x215000_34, .int .i64 a1] rfl (by (try simp only [List.map_toArray, List.map_cons, List.map_nil]); first | done | rfl | (simp only [List.length_drop, List.length_take]; rfl)) ?_; (with_reducible refine (number_Dec.calls kj34 x215000_34 a1 t222 t223 _ A39.out).mono ?_); rintro e w42 ⟨rfl, hb⟩; refine ⟨_, rfl, ?_⟩; have n0_ := Aside0.mk (blk_below (g := gb214) (o := .cells #[.string x215000_34] 9 (0, 0)) (by (with_reducible repeat (first | refine blk_drewN ?_ _ | refine blk_drew ?_ | refine blk_alloc ?_ _)); exact BK214.out) hb); have n1_ := Aside0.mk (Kept.below (S := (fun k_ => P2_ k_)) (by repeat (first | (with_reducible first | exact HK.out | apply Kept.alloc | apply Kept.drewN | apply Kept.drew | refine Kept.setCell ?_ (.inr GW214.out) _) | exact HK.out)) hb); have n2_ := Aside0.mk (below_step (by repeat (first | (with_reducible first | exact HB.out | apply below_alloc | apply pw_below_drewN | apply below_drew1 | refine below_set ?_ GE214.out) | exact HB.out)) hb); clear BK214; clear HK; clear HB; have BK214 := n0_; have HK := n1_; have HB := n2_; clear n0_ n1_ n2_; (try clear hb); (try clear hb2); (try clear hk); (try clear hi)))
                        go_ret2
                        exact ⟨by first | rfl | (simp [errW_none, errW_some] <;> rfl) | (simp only [← hji13]; first | rfl | (simp [errW_none, errW_some] <;> rfl)) | (simp [*, errW_none, errW_some] <;> rfl), by repeat (first | (with_reducible first | exact HB.out | apply below_alloc | apply pw_below_drewN | apply below_drew1 | refine below_set ?_ GE214.out) | exact HB.out), by repeat (first | (with_reducible first | exact HK.out | apply Kept.alloc | apply Kept.drewN | apply Kept.drew | refine Kept.setCell ?_ (.inr GW214.out) _) | exact HK.out)⟩
                      · rw [if_neg c40] at H
                        have c40b0 : (t223 == 23) = false := beq_eq_false_iff_ne.mpr c40
                        have c40b1 : (t223 != 23) = true := bne_iff_ne.mpr c40
                        by_cases c43 : t223 = 22
                        · rw [if_pos c43] at H
                          have c43b0 : (t223 == 22) = true := beq_iff_eq.mpr c43
                          have c43b1 : (t223 != 22) = false := bne_eq_false_iff_eq.mpr c43
                          clear c43
                          simp only [Option.some.injEq, Prod.mk.injEq] at H
                          obtain ⟨rfl, rfl⟩ := H
                          have hcz44_0 : wc.cell? ⟨gb214, 0, none⟩ = some (.string x215000_34) := (blk_cell BK214.out 0).trans rfl
                          have hfz44_0 := blk_frozen BK214.out 0
                          go_wp2_with (first | ((with_reducible refine gate_callee (f := 42) rfl ?_); refine goesL_ (some 59) rfl rfl Tryd.func42 (by kernel_rfl) rfl #[.string x215000_34, .int .i64 a1] rfl (by (try simp only [List.map_toArray, List.map_cons, List.map_nil]); first | done | rfl | (simp only [List.length_drop, List.length_take]; rfl)) ?_; (with_reducible refine (number_Dec.calls kj34 x215000_34 a1 t222 t223 _ A39.out).mono ?_); rintro e w45 ⟨rfl, hb⟩; refine ⟨_, rfl, ?_⟩; have n0_ := Aside0.mk (blk_below (g := gb214) (o := .cells #[.string x215000_34] 9 (0, 0)) (by (with_reducible repeat (first | refine blk_drewN ?_ _ | refine blk_drew ?_ | refine blk_alloc ?_ _)); exact BK214.out) hb); have n1_ := Aside0.mk (Kept.below (S := (fun k_ => P2_ k_)) (by repeat (first | (with_reducible first | exact HK.out | apply Kept.alloc | apply Kept.drewN | apply Kept.drew | refine Kept.setCell ?_ (.inr GW214.out) _) | exact HK.out)) hb); have n2_ := Aside0.mk (below_step (by repeat (first | (with_reducible first | exact HB.out | apply below_alloc | apply pw_below_drewN | apply below_drew1 | refine below_set ?_ GE214.out) | exact HB.out)) hb); clear BK214; clear HK; clear HB; have BK214 := n0_; have HK := n1_; have HB := n2_; clear n0_ n1_ n2_; (try clear hb); (try clear hb2); (try clear hk); (try clear hi)))
                          go_ret2
                          exact ⟨by first | rfl | (simp [errW_none, errW_some] <;> rfl) | (simp only [← hji13]; first | rfl | (simp [errW_none, errW_some] <;> rfl)) | (simp [*, errW_none, errW_some] <;> rfl), by repeat (first | (with_reducible first | exact HB.out | apply below_alloc | apply pw_below_drewN | apply below_drew1 | refine below_set ?_ GE214.out) | exact HB.out), by repeat (first | (with_reducible first | exact HK.out | apply Kept.alloc | apply Kept.drewN | apply Kept.drew | refine Kept.setCell ?_ (.inr GW214.out) _) | exact HK.out)⟩
                        · rw [if_neg c43] at H
                          have c43b0 : (t223 == 22) = false := beq_eq_false_iff_ne.mpr c43
                          have c43b1 : (t223 != 22) = true := bne_iff_ne.mpr c43
                          simp only [Option.some.injEq, Prod.mk.injEq] at H
                          obtain ⟨rfl, rfl⟩ := H
                          have hcz46_0 : wc.cell? ⟨gb214, 0, none⟩ = some (.string x215000_34) := (blk_cell BK214.out 0).trans rfl
                          have hfz46_0 := blk_frozen BK214.out 0
                          go_wp2_with (first | ((with_reducible refine gate_callee (f := 42) rfl ?_); refine goesL_ (some 59) rfl rfl Tryd.func42 (by kernel_rfl) rfl #[.string x215000_34, .int .i64 a1] rfl (by (try simp only [List.map_toArray, List.map_cons, List.map_nil]); first | done | rfl | (simp only [List.length_drop, List.length_take]; rfl)) ?_; (with_reducible refine (number_Dec.calls kj34 x215000_34 a1 t222 t223 _ A39.out).mono ?_); rintro e w47 ⟨rfl, hb⟩; refine ⟨_, rfl, ?_⟩; have n0_ := Aside0.mk (blk_below (g := gb214) (o := .cells #[.string x215000_34] 9 (0, 0)) (by (with_reducible repeat (first | refine blk_drewN ?_ _ | refine blk_drew ?_ | refine blk_alloc ?_ _)); exact BK214.out) hb); have n1_ := Aside0.mk (Kept.below (S := (fun k_ => P2_ k_)) (by repeat (first | (with_reducible first | exact HK.out | apply Kept.alloc | apply Kept.drewN | apply Kept.drew | refine Kept.setCell ?_ (.inr GW214.out) _) | exact HK.out)) hb); have n2_ := Aside0.mk (below_step (by repeat (first | (with_reducible first | exact HB.out | apply below_alloc | apply pw_below_drewN | apply below_drew1 | refine below_set ?_ GE214.out) | exact HB.out)) hb); clear BK214; clear HK; clear HB; have BK214 := n0_; have HK := n1_; have HB := n2_; clear n0_ n1_ n2_; (try clear hb); (try clear hb2); (try clear hk); (try clear hi)))
                          go_ret2
                          exact ⟨by first | rfl | (simp [errW_none, errW_some] <;> rfl) | (simp only [← hji13]; first | rfl | (simp [errW_none, errW_some] <;> rfl)) | (simp [*, errW_none, errW_some] <;> rfl), by repeat (first | (with_reducible first | exact HB.out | apply below_alloc | apply pw_below_drewN | apply below_drew1 | refine below_set ?_ GE214.out) | exact HB.out), by repeat (first | (with_reducible first | exact HK.out | apply Kept.alloc | apply Kept.drewN | apply Kept.drew | refine Kept.setCell ?_ (.inr GW214.out) _) | exact HK.out)⟩
            · rw [if_neg c15] at H
              exact absurd H (by simp)
          · rw [if_neg c14] at H
            exact absurd H (by simp)
        · rw [if_neg c12] at H
          exact absurd H (by simp)

end Go.Proofs.YtlheepfjdmhplaaDoor.PFramingClauses
