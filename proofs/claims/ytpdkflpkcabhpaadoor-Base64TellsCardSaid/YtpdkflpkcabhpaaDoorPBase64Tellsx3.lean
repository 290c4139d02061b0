-- Written by a program of this session (wip/tools/myprint.sh)
import Derived.Test.YtpdkflpkcabhpaaDoorPBase64Tellsx0
import Derived.Test.YtpdkflpkcabhpaaDoorPBase64Tellsx1
import Derived.Test.YtpdkflpkcabhpaaDoorPBase64Tellsx2
namespace Go.Proofs.YtpdkflpkcabhpaaDoor.PBase64Tells
open Go.RowKit Go.Proofs.YtpdkflpkcabhpaaDoorW.PrintWords Go.Proofs.YtpdkflpkcabhpaaDoorW.PrintLast Go.Proofs.YtpdkflpkcabhpaaDoorW.PrintMore
attribute [local go_sem] max2_int min2_int max_two min_two max_three min_three max_four min_four   -- for this text's walks alone
set_option linter.unusedVariables false
set_option linter.unusedSimpArgs false

/-! ### parallaxlaw22_Base64Tells: function 3 -/
mutual
def parallaxlaw22_Base64Tells.j0 : Nat → List Int → ByteArray → Int → Int → Bool → Option (Bool)
  | 0, _, _, _, _, _ => none
  | k + 1, x0, x1, x2, x3, x28 => if x28 = true then (some true) else ((base64_Put.f x0).bind fun t145 => (if t145.size ≤ 9223372036854775807 then ((some (bytesOf t145 : List Int)).bind fun y146 => (if (y146.length : Int) > 0 then (if (y146.length : Int) = 0 then (none) else (if 0 ≤ (Int.tmod (wrap64 (x2)) (y146.length : Int)) then (if (Int.tmod (wrap64 (x2)) (y146.length : Int)) < (y146.length : Int) then (parallaxlaw22_Base64Tells.j1 k x0 x1 t145 (y146.set ((Int.tmod (wrap64 (x2)) (y146.length : Int)) : Int).toNat x3)) else (none)) else (none))) else (parallaxlaw22_Base64Tells.j1 k x0 x1 t145 y146))) else (none)))
def parallaxlaw22_Base64Tells.j1 : Nat → List Int → ByteArray → ByteArray → List Int → Option (Bool)
  | 0, _, _, _, _ => none
  | k + 1, x0, x1, x9, x10 => if x9.size + 1 ≤ 9223372036854775807 then (if x9.size + 4 ≤ 9223372036854775807 then ((some (([x1, strOfNums x10, x9 ++ (⟨#[61]⟩ : ByteArray), x9 ++ (⟨#[65, 65, 65, 65]⟩ : ByteArray)] : List ByteArray) : List ByteArray)).bind fun y150 => (parallaxlaw22_Base64Tells.l0 k x0 x9 y150 (y150.length : Int) 0)) else (none)) else (none)
def parallaxlaw22_Base64Tells.l0 : Nat → List Int → ByteArray → List ByteArray → Int → Int → Option (Bool)
  | 0, _, _, _, _, _ => none
  | k + 1, x0, x9, x51, x52, x53 => if x53 < x52 then (if 0 ≤ x53 then (if x53 < (x51.length : Int) then ((base64_Read.f k (rdOf ByteArray.empty x51 x53)).bind fun bt154 => ((parallaxref22_Read.f k (rdOf ByteArray.empty x51 x53)).bind fun bt158 => (if (bt154.2 != bt158.2) = true then (some false) else (if (strOfNums bt154.1).toList = (strOfNums bt158.1).toList then (parallaxlaw22_Base64Tells.l0 k x0 x9 x51 x52 (wrap64 (x53 + 1))) else (some false))))) else (none)) else (none)) else ((base64_Read.f k x9).bind fun bt162 => ((parallaxref22_Put.f k x0).bind fun t166 => (if x9.toList = t166.toList then (if bt162.2 = true then (if (strOfNums bt162.1).toList = (strOfNums x0).toList then (parallaxlaw22_Base64Tells.j3 k ((x9.size : Int) == (wrap64 ((wrap64 (Int.tdiv (wrap64 ((x0.length : Int) + 2)) 3)) * 4)))) else (parallaxlaw22_Base64Tells.j3 k false)) else (parallaxlaw22_Base64Tells.j3 k false)) else (parallaxlaw22_Base64Tells.j3 k false))))
def parallaxlaw22_Base64Tells.j3 : Nat → Bool → Option (Bool)
  | 0, _ => none
  | k + 1, x8 => some x8
end
def parallaxlaw22_Base64Tells.f (k : Nat) (l0 : List Int) (a1 : ByteArray) (a2 : Int) (a3 : Int) : Option (Bool) := (parallaxlaw22_known.f k).bind fun t144 => (if t144 = true then (if (l0.length : Int) > 100 then (parallaxlaw22_Base64Tells.j0 k l0 a1 a2 a3 true) else (parallaxlaw22_Base64Tells.j0 k l0 a1 a2 a3 (decide ((a1.size : Int) > 100)))) else (some false))
theorem parallaxlaw22_Base64Tells.mono_l : ∀ k, (∀ y0 y1 y2 y3 y4, LeO (parallaxlaw22_Base64Tells.j0 k y0 y1 y2 y3 y4) (parallaxlaw22_Base64Tells.j0 (k + 1) y0 y1 y2 y3 y4)) ∧ (∀ y0 y1 y2 y3, LeO (parallaxlaw22_Base64Tells.j1 k y0 y1 y2 y3) (parallaxlaw22_Base64Tells.j1 (k + 1) y0 y1 y2 y3)) ∧ (∀ y0 y1 y2 y3 y4, LeO (parallaxlaw22_Base64Tells.l0 k y0 y1 y2 y3 y4) (parallaxlaw22_Base64Tells.l0 (k + 1) y0 y1 y2 y3 y4)) ∧ (∀ y0, LeO (parallaxlaw22_Base64Tells.j3 k y0) (parallaxlaw22_Base64Tells.j3 (k + 1) y0))
  | 0 => ⟨fun _ _ _ _ _ r h => by simp [parallaxlaw22_Base64Tells.j0] at h, fun _ _ _ _ r h => by simp [parallaxlaw22_Base64Tells.j1] at h, fun _ _ _ _ _ r h => by simp [parallaxlaw22_Base64Tells.l0] at h, fun _ r h => by simp [parallaxlaw22_Base64Tells.j3] at h⟩
  | k + 1 => by
    obtain ⟨ih0, ih1, ih2, ih3⟩ := parallaxlaw22_Base64Tells.mono_l k
    refine ⟨?_, ?_, ?_, ?_⟩
    · intro y0 y1 y2 y3 y4
      unfold parallaxlaw22_Base64Tells.j0
      repeat' first
      | (with_reducible exact ih0 _ _ _ _ _)
      | (with_reducible exact ih1 _ _ _ _)
      | (with_reducible exact ih2 _ _ _ _ _)
      | (with_reducible exact ih3 _)
      | (with_reducible exact base64_Read.mono _ _)
      | (with_reducible exact parallaxlaw22_known.mono _)
      | (with_reducible exact parallaxref22_Put.mono _ _)
      | (with_reducible exact parallaxref22_Read.mono _ _)
      | (with_reducible exact LeO.refl _)
      | (with_reducible exact LeO.none _)
      | (with_reducible refine LeO.ite ?_ ?_)
      | (with_reducible refine LeO.bind ?_ (fun _ => ?_))
      | exact ih0 _ _ _ _ _
      | exact ih1 _ _ _ _
      | exact ih2 _ _ _ _ _
      | exact ih3 _
      | exact base64_Read.mono _ _
      | exact parallaxlaw22_known.mono _
      | exact parallaxref22_Put.mono _ _
      | exact parallaxref22_Read.mono _ _
      | exact LeO.none _
      | refine LeO.ite ?_ ?_
      | refine LeO.bind ?_ (fun _ => ?_)
    · intro y0 y1 y2 y3
      unfold parallaxlaw22_Base64Tells.j1
      repeat' first
      | (with_reducible exact ih0 _ _ _ _ _)
      | (with_reducible exact ih1 _ _ _ _)
      | (with_reducible exact ih2 _ _ _ _ _)
      | (with_reducible exact ih3 _)
      | (with_reducible exact base64_Read.mono _ _)
      | (with_reducible exact parallaxlaw22_known.mono _)
      | (with_reducible exact parallaxref22_Put.mono _ _)
      | (with_reducible exact parallaxref22_Read.mono _ _)
      | (with_reducible exact LeO.refl _)
      | (with_reducible exact LeO.none _)
      | (with_reducible refine LeO.ite ?_ ?_)
      | (with_reducible refine LeO.bind ?_ (fun _ => ?_))
      | exact ih0 _ _ _ _ _
      | exact ih1 _ _ _ _
      | exact ih2 _ _ _ _ _
      | exact ih3 _
      | exact base64_Read.mono _ _
      | exact parallaxlaw22_known.mono _
      | exact parallaxref22_Put.mono _ _
      | exact parallaxref22_Read.mono _ _
      | exact LeO.none _
      | refine LeO.ite ?_ ?_
      | refine LeO.bind ?_ (fun _ => ?_)
    · intro y0 y1 y2 y3 y4
      unfold parallaxlaw22_Base64Tells.l0
      repeat' first
      | (with_reducible exact ih0 _ _ _ _ _)
      | (with_reducible exact ih1 _ _ _ _)
      | (with_reducible exact ih2 _ _ _ _ _)
      | (with_reducible exact ih3 _)
      | (with_reducible exact base64_Read.mono _ _)
      | (with_reducible exact parallaxlaw22_known.mono _)
      | (with_reducible exact parallaxref22_Put.mono _ _)
      | (with_reducible exact parallaxref22_Read.mono _ _)
      | (with_reducible exact LeO.refl _)
      | (with_reducible exact LeO.none _)
      | (with_reducible refine LeO.ite ?_ ?_)
      | (with_reducible refine LeO.bind ?_ (fun _ => ?_))
      | exact ih0 _ _ _ _ _
      | exact ih1 _ _ _ _
      | exact ih2 _ _ _ _ _
      | exact ih3 _
      | exact base64_Read.mono _ _
      | exact parallaxlaw22_known.mono _
      | exact parallaxref22_Put.mono _ _
      | exact parallaxref22_Read.mono _ _
      | exact LeO.none _
      | refine LeO.ite ?_ ?_
      | refine LeO.bind ?_ (fun _ => ?_)
    · intro y0
      unfold parallaxlaw22_Base64Tells.j3
      repeat' first
      | (with_reducible exact ih0 _ _ _ _ _)
      | (with_reducible exact ih1 _ _ _ _)
      | (with_reducible exact ih2 _ _ _ _ _)
      | (with_reducible exact ih3 _)
      | (with_reducible exact base64_Read.mono _ _)
      | (with_reducible exact parallaxlaw22_known.mono _)
      | (with_reducible exact parallaxref22_Put.mono _ _)
      | (with_reducible exact parallaxref22_Read.mono _ _)
      | (with_reducible exact LeO.refl _)
      | (with_reducible exact LeO.none _)
      | (with_reducible refine LeO.ite ?_ ?_)
      | (with_reducible refine LeO.bind ?_ (fun _ => ?_))
      | exact ih0 _ _ _ _ _
      | exact ih1 _ _ _ _
      | exact ih2 _ _ _ _ _
      | exact ih3 _
      | exact base64_Read.mono _ _
      | exact parallaxlaw22_known.mono _
      | exact parallaxref22_Put.mono _ _
      | exact parallaxref22_Read.mono _ _
      | exact LeO.none _
      | refine LeO.ite ?_ ?_
      | refine LeO.bind ?_ (fun _ => ?_)
theorem parallaxlaw22_Base64Tells.mono : ∀ a0 a1 a2 a3 k, LeO (parallaxlaw22_Base64Tells.f k a0 a1 a2 a3) (parallaxlaw22_Base64Tells.f (k + 1) a0 a1 a2 a3) := by
  intro a0 a1 a2 a3 k
  obtain ⟨ih0, ih1, ih2, ih3⟩ := parallaxlaw22_Base64Tells.mono_l k
  unfold parallaxlaw22_Base64Tells.f
  repeat' first
      | (with_reducible exact ih0 _ _ _ _ _)
      | (with_reducible exact ih1 _ _ _ _)
      | (with_reducible exact ih2 _ _ _ _ _)
      | (with_reducible exact ih3 _)
      | (with_reducible exact base64_Read.mono _ _)
      | (with_reducible exact parallaxlaw22_known.mono _)
      | (with_reducible exact parallaxref22_Put.mono _ _)
      | (with_reducible exact parallaxref22_Read.mono _ _)
      | (with_reducible exact LeO.refl _)
      | (with_reducible exact LeO.none _)
      | (with_reducible refine LeO.ite ?_ ?_)
      | (with_reducible refine LeO.bind ?_ (fun _ => ?_))
      | exact ih0 _ _ _ _ _
      | exact ih1 _ _ _ _
      | exact ih2 _ _ _ _ _
      | exact ih3 _
      | exact base64_Read.mono _ _
      | exact parallaxlaw22_known.mono _
      | exact parallaxref22_Put.mono _ _
      | exact parallaxref22_Read.mono _ _
      | exact LeO.none _
      | refine LeO.ite ?_ ?_
      | refine LeO.bind ?_ (fun _ => ?_)
set_option maxHeartbeats 8000000 in
set_option maxRecDepth 100000 in
theorem parallaxlaw22_Base64Tells.calls (k : Nat) (A0 : Option Addr) (c0 : Nat) (l0 : List Int) (a1 : ByteArray) (a2 : Int) (a3 : Int) (r : Bool) (w : World) (hr0 : Kd.C (Kd.int .u8) w A0 l0.length l0) (hc0 : l0.length ≤ c0) (hq2 : (Lit.int .u8 a2).wf = true) (hq3 : (Lit.int .u8 a3).wf = true) (hT : r = true) (h : parallaxlaw22_Base64Tells.f k l0 a1 a2 a3 = some r) :
    Calls Tryd.prog 3 #[.slice A0 l0.length c0, .string a1, .int .u8 a2, .int .u8 a3] w fun e w' => e = .returned (.bool r) ∧ Below w.heap.size w w' := by
  have HQ2 := Aside0.mk hq2
  clear hq2
  have HQ3 := Aside0.mk hq3
  clear hq3
  have HT := Aside0.mk hT
  clear hT
  have HR0 := Aside0.mk hr0
  have HC0 := Aside0.mk hc0
  clear hr0 hc0
  have HB := Aside0.mk (Below.refl w.heap.size w)
  have H : ((parallaxlaw22_known.f k).bind fun t144 => (if t144 = true then (if (l0.length : Int) > 100 then (parallaxlaw22_Base64Tells.j0 k l0 a1 a2 a3 true) else (parallaxlaw22_Base64Tells.j0 k l0 a1 a2 a3 (decide ((a1.size : Int) > 100)))) else (some false))) = some r := h
  clear h
  replace H := Option.bind_eq_some_iff.mp H
  obtain ⟨t144, A50, H⟩ := H
  (try dsimp only at H)
  have A5 := Aside0.mk A50
  clear A50
  by_cases c6 : t144 = true
  · subst c6
    rw [if_pos rfl] at H
    have HC7 := Aside0.mk H
    clear H
    go_enter Tryd.func3, Tryd.ntmps3
    go_upto_region 3 with (first | ((with_reducible refine gate_callee (f := 5) rfl ?_); refine goesL_ (some 19) rfl rfl Tryd.func5 (by kernel_rfl) rfl #[] rfl (by (try simp only [List.map_toArray, List.map_cons, List.map_nil]); first | done | rfl | (simp only [List.length_drop, List.length_take]; rfl)) ?_; (with_reducible refine (parallaxlaw22_known.calls k  true _ rfl A5.out).mono ?_); rintro e w8 ⟨rfl, hb⟩; refine ⟨_, rfl, ?_⟩; have n0_ := Aside0.mk (below_step (by repeat (first | (with_reducible first | exact HB.out | apply below_alloc | apply pw_below_drewN | apply below_drew1) | exact HB.out)) hb); clear HB; have HB := n0_; clear n0_; (try clear hb); (try clear hb2); (try clear hk); (try clear hi)))
    (try simp only [Act.put, List.setIfInBounds_toArray, List.set_cons_zero, List.set_cons_succ])
    go_cut [28] (fun v28 wc => ∃ (kq : Nat) (x28_6 : Bool), v28 = .bool x28_6 ∧ Aside0 (parallaxlaw22_Base64Tells.j0 kq l0 a1 a2 a3 x28_6 = some r) ∧ Aside0 (kq ≤ k) ∧ Aside0 (Below w.heap.size w wc))
    case first =>
      have H := HC7.out
      clear HC7
      by_cases c9 : (l0.length : Int) > 100
      · rw [if_pos c9] at H
        have c9b0 : decide (100 < (l0.length : Int)) = true := decide_eq_true c9
        have c9b1 : decide (100 < l0.length) = true := decide_eq_true (by omega)
        clear c9
        (first | rw [c9b0] | (simp only [i64_w, i32_w]; rw [c9b0]) | rw [c9b1] | skip)
        have H' := Aside0.mk H
        clear H
        go_wp2
        (try any_goals (exfalso; have h_ := ‹some undef = some (Value.bool _)›; revert h_; simp [undef]; done))
        go_meet
        case rel => exact ⟨_, (true), (by first | rfl | (simp; done) | (simp [*]; done)), H', ⟨by first | omega | exact Nat.le_refl _⟩, ⟨by repeat (first | (with_reducible first | exact HB.out | apply below_alloc | apply pw_below_drewN | apply below_drew1) | exact HB.out)⟩⟩
      · rw [if_neg c9] at H
        have c9b0 : decide (100 < (l0.length : Int)) = false := decide_eq_false c9
        have c9b1 : decide (100 < l0.length) = false := decide_eq_false (by omega)
        clear c9
        (first | rw [c9b0] | (simp only [i64_w, i32_w]; rw [c9b0]) | rw [c9b1] | skip)
        have H' := Aside0.mk H
        clear H
        go_wp2
        (try any_goals (exfalso; have h_ := ‹some undef = some (Value.bool _)›; revert h_; simp [undef]; done))
        go_meet
        case rel => exact ⟨_, (decide ((a1.size : Int) > 100)), (by first | rfl | (simp; done) | (simp [*]; done)), H', ⟨by first | omega | exact Nat.le_refl _⟩, ⟨by repeat (first | (with_reducible first | exact HB.out | apply below_alloc | apply pw_below_drewN | apply below_drew1) | exact HB.out)⟩⟩
    case rest =>
      clear HC7
      try clear p2
      try clear q2
      try clear c3
      try clear q3
      try clear c5
      try clear c6
      try clear c9
      try clear c9b0
      try clear c9b1
      obtain ⟨kq, x28_6, rfl, HA, HJ6, HB⟩ := hcut
      cases kq with
      | zero => exact absurd HA.out (by simp [parallaxlaw22_Base64Tells.j0])
      | succ kj6 =>
        have H := HA.out
        clear HA
        simp only [parallaxlaw22_Base64Tells.j0] at H
        by_cases c10 : x28_6 = true
        · subst c10
          rw [if_pos rfl] at H
          obtain rfl := Option.some.inj H
          go_wp2
          (try any_goals (exfalso; have h_ := ‹some undef = some (Value.bool _)›; revert h_; simp [undef]; done))
          go_ret
          exact ⟨by first | rfl | (simp [errW_none, errW_some] <;> rfl) | (simp [*, errW_none, errW_some] <;> rfl), by repeat (first | (with_reducible first | exact HB.out | apply below_alloc | apply pw_below_drewN | apply below_drew1) | exact HB.out)⟩
        · replace c10 := Bool.eq_false_iff.mpr c10
          subst c10
          rw [if_neg (show ¬ (false = true) by decide)] at H
          replace H := Option.bind_eq_some_iff.mp H
          obtain ⟨t145, A110, H⟩ := H
          (try dsimp only at H)
          have A11 := Aside0.mk A110
          clear A110
          by_cases c12 : t145.size ≤ 9223372036854775807
          · rw [if_pos c12] at H
            have c12b0 := eq_true c12
            have c12b1 : decide (t145.size ≤ 9223372036854775807) = true := decide_eq_true c12
            try have c12b2 : (9223372036854775807 < t145.size) = False := eq_false (Nat.not_lt.2 c12)
            clear c12
            obtain ⟨y146, hy146⟩ : ∃ y_ : List Int, y_ = (bytesOf t145) := ⟨_, rfl⟩
            replace H : (if (y146.length : Int) > 0 then (if (y146.length : Int) = 0 then (none) else (if 0 ≤ (Int.tmod (wrap64 (a2)) (y146.length : Int)) then (if (Int.tmod (wrap64 (a2)) (y146.length : Int)) < (y146.length : Int) then (parallaxlaw22_Base64Tells.j1 kj6 l0 a1 t145 (y146.set ((Int.tmod (wrap64 (a2)) (y146.length : Int)) : Int).toNat a3)) else (none)) else (none))) else (parallaxlaw22_Base64Tells.j1 kj6 l0 a1 t145 y146)) = some r := by first | (rw [hy146]; with_reducible exact H) | (have H2_ := (Option.bind_some _ _).symm.trans H; rw [hy146]; with_reducible exact H2_) | (have H2_ := (Option.bind_some _ _).symm.trans H; with_reducible exact H2_) | with_reducible exact H | (rw [hy146]; exact H) | exact H
            have Ny146 := Aside0.mk hy146
            clear hy146
            have HC13 := Aside0.mk H
            clear H
            go_upto_if 35 with (first | ((with_reducible refine gate_callee (f := 6) rfl ?_); refine goesL_ (some 30) rfl rfl Tryd.func6 (by kernel_rfl) rfl #[.slice A0 l0.length c0] rfl (by (try simp only [List.map_toArray, List.map_cons, List.map_nil]); first | done | rfl | (simp only [List.length_drop, List.length_take]; rfl)) ?_; (with_reducible refine (base64_Put.calls _ _ l0 t145 _ ?side1 ?side2 A11.out).mono ?_); (case side1 => repeat (first | exact (Kd.C_below HR0.out HB.out) | (with_reducible refine Kd.C_alloc ?_ _) | (with_reducible refine Kd.C_drewN ?_ _) | (with_reducible refine Kd.C_drew ?_))); (case side2 => exact HC0.out); rintro e w14 ⟨rfl, hb⟩; refine ⟨_, rfl, ?_⟩; have n0_ := Aside0.mk (below_step (by repeat (first | (with_reducible first | exact HB.out | apply below_alloc | apply pw_below_drewN | apply below_drew1) | exact HB.out)) hb); clear HB; have HB := n0_; clear n0_; (try clear hb); (try clear hb2); (try clear hk); (try clear hi)) | ((with_reducible refine gate_dst (N := 32) rfl ?_); (try (refine gate_guard (by rfl) ?_; dsimp only)); refine Mark.T_bytes w.heap.size 5 rfl (N := 32) rfl 9 22 _ rfl t145 rfl Tryd.underlying9 Tryd.underlying22 Tryd.underlying5 (by repeat (first | (with_reducible first | exact HB.out | apply below_alloc | apply pw_below_drewN | apply below_drew1) | exact HB.out)) (below_size (by repeat (first | (with_reducible first | exact HB.out | apply below_alloc | apply pw_below_drewN | apply below_drew1) | exact HB.out))) y146 Ny146.out ?_; intro go17 co17 w15 ho16 hb; clear HB; have HO148 := Aside0.mk ho16; have HB := Aside0.mk hb; clear hb ho16))
            (try simp only [Act.put, List.setIfInBounds_toArray, List.set_cons_zero, List.set_cons_succ])
            go_cut [] (fun wc => ∃ (kq : Nat) (x10_12 : List Int), Aside0 (parallaxlaw22_Base64Tells.j1 kq l0 a1 t145 x10_12 = some r) ∧ Aside0 (kq ≤ kj6) ∧ Aside0 (Mark.T 5 wc w.heap.size (.slice (some ⟨go17, 0, none⟩) y146.length co17) x10_12) ∧ Aside0 (Below w.heap.size w wc))
            case first =>
              have H := HC13.out
              clear HC13
              by_cases c18 : (y146.length : Int) > 0
              · rw [if_pos c18] at H
                have c18b0 : decide (0 < (y146.length : Int)) = true := decide_eq_true c18
                have c18b1 : decide (0 < y146.length) = true := decide_eq_true (by omega)
                clear c18
                (first | rw [c18b0] | (simp only [i64_w, i32_w]; rw [c18b0]) | rw [c18b1] | skip)
                by_cases c19 : (y146.length : Int) = 0
                · rw [if_pos c19] at H
                  exact absurd H (by simp)
                · rw [if_neg c19] at H
                  have c19b0 : ((y146.length : Int) == 0) = false := beq_eq_false_iff_ne.mpr c19
                  have c19b1 : ((y146.length : Int) != 0) = true := bne_iff_ne.mpr c19
                  have c19b2 : ¬ (y146 = []) := fun h_ => c19 (by rw [h_]; rfl)
                  obtain ⟨ji20, hji20⟩ : ∃ j_ : Int, (Int.tmod (wrap64 (a2)) (y146.length : Int)) = j_ := ⟨_, rfl⟩
                  replace H : (if 0 ≤ (ji20) then (if (ji20) < (y146.length : Int) then (parallaxlaw22_Base64Tells.j1 kj6 l0 a1 t145 (y146.set ((ji20) : Int).toNat a3)) else (none)) else (none)) = some r := by first | (rw [hji20] at H; exact H) | (simp only [hji20] at H ⊢; exact H)
                  by_cases c21 : 0 ≤ (ji20)
                  · rw [if_pos c21] at H
                    have c21b0 : decide (0 ≤ (ji20)) = true := decide_eq_true c21
                    clear c21
                    by_cases c22 : (ji20) < (y146.length : Int)
                    · rw [if_pos c22] at H
                      have c22b0 : decide ((ji20) < (y146.length : Int)) = true := decide_eq_true c22
                      clear c22
                      obtain ⟨y149, hy149⟩ : ∃ y_ : List Int, y_ = (y146.set ((ji20) : Int).toNat a3) := ⟨_, rfl⟩
                      replace H : (parallaxlaw22_Base64Tells.j1 kj6 l0 a1 t145 y149) = some r := by first | (rw [hy149]; with_reducible exact H) | (have H2_ := (Option.bind_some _ _).symm.trans H; rw [hy149]; with_reducible exact H2_) | (have H2_ := (Option.bind_some _ _).symm.trans H; with_reducible exact H2_) | with_reducible exact H | (rw [hy149]; exact H) | exact H
                      have Ny149 := Aside0.mk hy149
                      clear hy149
                      have H' := Aside0.mk H
                      clear H
                      have p23 : 0 ≤ ((ji20) : Int) := of_decide_eq_true (by first | (with_reducible assumption) | assumption)
                      have q23 : ((ji20) : Int) < ((y146.length : Int) : Int) := of_decide_eq_true (by first | (with_reducible assumption) | assumption)
                      have GB23 := Aside0.mk (Mark.T_at HO148.out).2.1
                      obtain ⟨hx23_0, hf23_0⟩ := Mark.T_cell HO148.out ((ji20) : Int) p23 q23
                      replace p23 := eq_true p23
                      replace q23 := eq_true q23
                      have HP24 := Mark.T_put HO148.out ((ji20) : Int) a3
                      go_wp2_with (first | ((with_reducible refine gate_store (t := 5) (p := 43) rfl ?_); refine store_event (t := 5) (p := 43) (v := ?vo_w25) (w1 := (w15.setCell ⟨go17, ((ji20) : Int).toNat, none⟩ (.int .u8 a3))) ?hg ?ho ?hn ?hr ?_; (case ho => rfl); (case hg => rfl); (case hn => rfl); (case hr => first | (go_simp; done) | (go_simp; rfl)); intro w25 hw; have hg : w15.grownBy w25 (some go17) := (by rw [hw]; exact HP24.2); have hp_ : Mark.T 5 w25 w.heap.size (.slice (some ⟨go17, 0, none⟩) y146.length co17) y149 := (by rw [hw, Ny149.out]; exact HP24.1); clear HP24; have n0_ := Aside0.mk (hp_); have n1_ := Aside0.mk ((by rw [hw]; exact below_set (HB.out) GB23.out : Below w.heap.size w w25)); clear HO148; clear HB; have HO148 := n0_; have HB := n1_; clear n0_ n1_; clear hg hw hp_))
                      (try any_goals (exfalso; have h_ := ‹some undef = some (Value.bool _)›; revert h_; simp [undef]; done))
                      go_meet
                      case rel => exact ⟨_, (y149), H', ⟨by have := HJ6.out; first | omega | exact Nat.le_refl _⟩, ⟨by (with_reducible repeat (first | refine Mark.T_drewN ?_ _ | refine Mark.T_drew ?_)); exact HO148.out⟩, ⟨by repeat (first | (with_reducible first | exact HB.out | apply below_alloc | apply pw_below_drewN | apply below_drew1) | exact HB.out)⟩⟩
                    · rw [if_neg c22] at H
                      exact absurd H (by simp)
                  · rw [if_neg c21] at H
                    exact absurd H (by simp)
              · rw [if_neg c18] at H
                have c18b0 : decide (0 < (y146.length : Int)) = false := decide_eq_false c18
                have c18b1 : decide (0 < y146.length) = false := decide_eq_false (by omega)
                clear c18
                (first | rw [c18b0] | (simp only [i64_w, i32_w]; rw [c18b0]) | rw [c18b1] | skip)
                have H' := Aside0.mk H
                clear H
                go_wp2
                (try any_goals (exfalso; have h_ := ‹some undef = some (Value.bool _)›; revert h_; simp [undef]; done))
                go_meet
                case rel => exact ⟨_, (y146), H', ⟨by have := HJ6.out; first | omega | exact Nat.le_refl _⟩, ⟨by (with_reducible repeat (first | refine Mark.T_drewN ?_ _ | refine Mark.T_drew ?_)); exact HO148.out⟩, ⟨by repeat (first | (with_reducible first | exact HB.out | apply below_alloc | apply pw_below_drewN | apply below_drew1) | exact HB.out)⟩⟩
            case rest =>
              clear HC13
              try clear c1
              try clear c2
              try clear p2
              try clear q2
              try clear hx2
              try clear c3
              try clear q3
              try clear c5
              try clear c6
              try clear p6
              try clear c9
              try clear c9b0
              try clear c9b1
              try clear c10
              try clear c12
              try clear c12b0
              try clear c12b1
              try clear c12b2
              try clear c18
              try clear c18b0
              try clear c18b1
              try clear c19
              try clear c19b0
              try clear c19b1
              try clear c19b2
              try clear c21
              try clear c21b0
              try clear c22
              try clear c22b0
              try clear p23
              try clear q23
              try clear hx23
              try clear hf23
              try clear hx23_0
              try clear p2
              try clear p23
              try clear q2
              try clear q23
              try clear q3
              obtain ⟨kq, x10_12, HA, HJ12, HO_10, HB⟩ := hcut
              have hl10_12 := (Mark.T_at HO_10.out).1
              rw [hl10_12] at HO_10
              (try simp only [hl10_12])
              cases kq with
              | zero => exact absurd HA.out (by simp [parallaxlaw22_Base64Tells.j1])
              | succ kj12 =>
                have H := HA.out
                clear HA
                simp only [parallaxlaw22_Base64Tells.j1] at H
                by_cases c26 : t145.size + 1 ≤ 9223372036854775807
                · rw [if_pos c26] at H
                  have c26b0 := eq_true c26
                  have c26b1 : decide (t145.size + 1 ≤ 9223372036854775807) = true := decide_eq_true c26
                  try have c26b2 : (9223372036854775807 < t145.size + 1) = False := eq_false (Nat.not_lt.2 c26)
                  by_cases c27 : t145.size + 4 ≤ 9223372036854775807
                  · rw [if_pos c27] at H
                    have c27b0 := eq_true c27
                    have c27b1 : decide (t145.size + 4 ≤ 9223372036854775807) = true := decide_eq_true c27
                    try have c27b2 : (9223372036854775807 < t145.size + 4) = False := eq_false (Nat.not_lt.2 c27)
                    obtain ⟨y150, hy150⟩ : ∃ y_ : List ByteArray, y_ = (([a1, strOfNums x10_12, t145 ++ (⟨#[61]⟩ : ByteArray), t145 ++ (⟨#[65, 65, 65, 65]⟩ : ByteArray)] : List ByteArray)) := ⟨_, rfl⟩
                    replace H : (parallaxlaw22_Base64Tells.l0 kj12 l0 t145 y150 (y150.length : Int) 0) = some r := by first | (rw [hy150]; with_reducible exact H) | (have H2_ := (Option.bind_some _ _).symm.trans H; rw [hy150]; with_reducible exact H2_) | (have H2_ := (Option.bind_some _ _).symm.trans H; with_reducible exact H2_) | with_reducible exact H | (rw [hy150]; exact H) | exact H
                    have Ny150 := Aside0.mk hy150
                    clear hy150
                    have H' := Aside0.mk H
                    clear H
                    have hcv28 := Mark.T_string (P := Tryd.prog) Tryd.underlying22 Tryd.underlying5 Tryd.underlying9 HO_10.out
                    go_wp2_with (first | ((with_reducible refine gate_dst (N := 51) rfl ?_); (try (refine gate_guard (by rfl) ?_; dsimp only)); refine Kd.R_lit Kd.string _ 9 ?hg (N := 51) ?hd (xs := ([a1, strOfNums x10_12, t145 ++ (⟨#[61]⟩ : ByteArray), t145 ++ (⟨#[65, 65, 65, 65]⟩ : ByteArray)] : List ByteArray)) (inner := [.string a1, .string (strOfNums x10_12), .string (t145 ++ (⟨#[61]⟩ : ByteArray)), .string (t145 ++ (⟨#[65, 65, 65, 65]⟩ : ByteArray))]) (ok := fun _ => True) (okp := fun _ => True) ?hr ?hp (fun _ hk => hk) trivial (Below.refl _ _) (Nat.le_refl _) (by simp) ?_; (case hd => rfl); (case hg => rfl); (case hr => first | (go_simp; done) | (go_simp; rfl)); (case hp => exact (Reps.one (show Kd.M Kd.string _ _ _ a1 [.string a1] from rfl) (Reps.one (show Kd.M Kd.string _ _ _ (strOfNums x10_12) [.string (strOfNums x10_12)] from rfl) (Reps.one (show Kd.M Kd.string _ _ _ (t145 ++ (⟨#[61]⟩ : ByteArray)) [.string (t145 ++ (⟨#[61]⟩ : ByteArray))] from rfl) (Reps.one (show Kd.M Kd.string _ _ _ (t145 ++ (⟨#[65, 65, 65, 65]⟩ : ByteArray)) [.string (t145 ++ (⟨#[65, 65, 65, 65]⟩ : ByteArray))] from rfl) (Reps.none _ _)))))); intro v151 w29 ho30 hb hg_ hnew_; clear hg_ hnew_; (first | rw [← Ny150.out] at ho30 | (simp only [Int.reduceToNat] at ho30; rw [← Ny150.out] at ho30)); have n0_ := Aside0.mk (Mark.T_below (by (with_reducible repeat (first | refine Mark.T_drewN ?_ _ | refine Mark.T_drew ?_)); exact HO_10.out) hb); have n1_ := Aside0.mk (Kd.R_lower ho30 (below_size (by repeat (first | (with_reducible first | exact HB.out | apply below_alloc | apply pw_below_drewN | apply below_drew1) | exact HB.out)))); have n2_ := Aside0.mk (below_step (by repeat (first | (with_reducible first | exact HB.out | apply below_alloc | apply pw_below_drewN | apply below_drew1) | exact HB.out)) hb); clear HO_10; clear HB; have HO_10 := n0_; have HO152 := n1_; have HB := n2_; clear n0_ n1_ n2_; clear hb ho30; obtain ⟨Ao31, co31, eo31⟩ := Kd.R_slice HO152.out; subst eo31))
                    (try any_goals (exfalso; have h_ := ‹some undef = some (Value.bool _)›; revert h_; simp [undef]; done))
                    go_loopg [53] kj12 (fun kq v53 w' => ∃ (x53_3 : Int), v53 = .int .i64 x53_3 ∧ Aside0 (parallaxlaw22_Base64Tells.l0 kq l0 t145 y150 (y150.length : Int) x53_3 = some r) ∧ Aside0 (kq ≤ kj12) ∧ Aside0 (Kd.R Kd.string 9 w' w.heap.size (fun _ => True) (.slice Ao31 y150.length co31) y150) ∧ Aside0 (Below w.heap.size w w'))
                    case atStart => exact ⟨(0), (by first | rfl | (simp; done) | (simp [*]; done)), H', ⟨Nat.le_refl _⟩, ⟨by (try simp only [hl10_12]); (with_reducible repeat (first | apply Kd.R_alloc | apply Kd.R_drewN | apply Kd.R_drew)); exact HO152.out⟩, ⟨by repeat (first | (with_reducible first | exact HB.out | apply below_alloc | apply pw_below_drewN | apply below_drew1) | exact HB.out)⟩⟩
                    case round =>
                      clear H'
                      try clear c1
                      try clear c2
                      try clear p2
                      try clear q2
                      try clear hx2
                      try clear hcv2
                      try clear c3
                      try clear q3
                      try clear c5
                      try clear c6
                      try clear p6
                      try clear c9
                      try clear c9b0
                      try clear c9b1
                      try clear c10
                      try clear c12
                      try clear c12b0
                      try clear c12b1
                      try clear c12b2
                      try clear c18
                      try clear c18b0
                      try clear c18b1
                      try clear c19
                      try clear c19b0
                      try clear c19b1
                      try clear c19b2
                      try clear c21
                      try clear c21b0
                      try clear c22
                      try clear c22b0
                      try clear p23
                      try clear q23
                      try clear hx23
                      try clear hf23
                      try clear c26
                      try clear c26b0
                      try clear c26b1
                      try clear c26b2
                      try clear c27
                      try clear c27b0
                      try clear c27b1
                      try clear c27b2
                      try clear hcv28
                      try clear hx23_0
                      try clear p2
                      try clear p23
                      try clear p6
                      try clear q2
                      try clear q23
                      try clear q3
                      obtain ⟨x53_3, rfl, HA, HK3, HO_51, HB⟩ := hrel
                      cases gk with
                      | zero => exact absurd HA.out (by simp [parallaxlaw22_Base64Tells.l0])
                      | succ k3 =>
                        have H := HA.out
                        clear HA
                        simp only [parallaxlaw22_Base64Tells.l0] at H
                        by_cases c32 : x53_3 < (y150.length : Int)
                        · rw [if_pos c32] at H
                          have c32b0 : decide (x53_3 < (y150.length : Int)) = true := decide_eq_true c32
                          (try (have c32b0z := c32b0; rw [hl10_12] at c32b0z))
                          clear c32
                          by_cases c33 : 0 ≤ x53_3
                          · rw [if_pos c33] at H
                            have c33b0 : decide (0 ≤ x53_3) = true := decide_eq_true c33
                            clear c33
                            by_cases c34 : x53_3 < (y150.length : Int)
                            · rw [if_pos c34] at H
                              have c34b0 : decide (x53_3 < (y150.length : Int)) = true := decide_eq_true c34
                              (try (have c34b0z := c34b0; rw [hl10_12] at c34b0z))
                              clear c34
                              replace H := Option.bind_eq_some_iff.mp H
                              obtain ⟨⟨t154, t155⟩, A350, H⟩ := H
                              (try dsimp only at H)
                              have A35 := Aside0.mk A350
                              clear A350
                              replace H := Option.bind_eq_some_iff.mp H
                              obtain ⟨⟨t158, t159⟩, A360, H⟩ := H
                              (try dsimp only at H)
                              have A36 := Aside0.mk A360
                              clear A360
                              by_cases c37 : (t155 != t159) = true
                              · rw [if_pos c37] at H
                                have c37b0 : (t155 != t159) = true := c37
                                (try (have c37b1 : decide (t155 = t159) = false := by simpa using c37))
                                (try (have c37b2 : (t155 == t159) = false := by simpa using c37))
                                (try (have c37b3 : ¬ (t155 = t159) := by simpa using c37))
                                clear c37
                                exact absurd ((Option.some.inj H).trans HT.out) (by decide)
                              · rw [if_neg c37] at H
                                have c37b0 : (t155 != t159) = false := by simpa using c37
                                (try (have c37b1 : decide (t155 = t159) = true := by simpa using c37))
                                (try (have c37b2 : (t155 == t159) = true := by simpa using c37))
                                clear c37
                                by_cases c38 : (strOfNums t154).toList = (strOfNums t158).toList
                                · rw [if_pos c38] at H
                                  have c38b0 : ((strOfNums t154).toList == (strOfNums t158).toList) = true := beq_iff_eq.mpr c38
                                  have c38b1 : ((strOfNums t154).toList != (strOfNums t158).toList) = false := bne_eq_false_iff_eq.mpr c38
                                  clear c38
                                  have H' := Aside0.mk H
                                  clear H
                                  have p153 : 0 ≤ (x53_3 : Int) := of_decide_eq_true (by first | (with_reducible assumption) | assumption)
                                  have q153 : x53_3 < (y150.length : Int) := of_decide_eq_true (by first | (with_reducible assumption) | assumption)
                                  obtain ⟨ad153, e153, hx153_0⟩ := Kd.at_string (Kd.R_reads' HO_51.out).2.2 x53_3 p153 q153
                                  cases e153
                                  replace p153 := eq_true p153
                                  replace q153 := eq_true q153
                                  go_wp2_with (first | ((with_reducible refine gate_callee (f := 7) rfl ?_); refine goesL_ (some 59) rfl rfl Tryd.func7 (by kernel_rfl) rfl #[.string (rdOf ByteArray.empty y150 x53_3)] rfl (by (try simp only [List.map_toArray, List.map_cons, List.map_nil]); first | done | rfl | (simp only [List.length_drop, List.length_take]; rfl)) ?_; (with_reducible refine (base64_Read.calls k3 (rdOf ByteArray.empty y150 x53_3) t154 t155 _ A35.out).mono ?_); rintro e w39 ⟨v156, rfl, ho0, hb⟩; refine ⟨_, rfl, ?_⟩; have n0_ := Aside0.mk (Kd.R_below (by (with_reducible repeat (first | apply Kd.R_alloc | apply Kd.R_drewN | apply Kd.R_drew)); exact HO_51.out) hb); have n1_ := Aside0.mk (Kd.R_lower ho0 (below_size (by repeat (first | (with_reducible first | exact HB.out | apply below_alloc | apply pw_below_drewN | apply below_drew1) | exact HB.out)))); have n2_ := Aside0.mk (below_step (by repeat (first | (with_reducible first | exact HB.out | apply below_alloc | apply pw_below_drewN | apply below_drew1) | exact HB.out)) hb); clear HO_51; clear HB; have HO_51 := n0_; have HO157 := n1_; have HB := n2_; clear n0_ n1_ n2_; (try clear hb); (try clear hb2); (try clear hk); (try clear hi); (try clear ho0)) | ((with_reducible refine gate_callee (f := 8) rfl ?_); refine goesL_ (some 64) rfl rfl Tryd.func8 (by kernel_rfl) rfl #[.string (rdOf ByteArray.empty y150 x53_3)] rfl (by (try simp only [List.map_toArray, List.map_cons, List.map_nil]); first | done | rfl | (simp only [List.length_drop, List.length_take]; rfl)) ?_; (with_reducible refine (parallaxref22_Read.calls k3 (rdOf ByteArray.empty y150 x53_3) t158 t159 _ A36.out).mono ?_); rintro e w40 ⟨v160, rfl, ho0, hb⟩; refine ⟨_, rfl, ?_⟩; have n0_ := Aside0.mk (Kd.R_below (by (with_reducible repeat (first | apply Kd.R_alloc | apply Kd.R_drewN | apply Kd.R_drew)); exact HO_51.out) hb); have n1_ := Aside0.mk (Kd.R_elder' (by (with_reducible repeat (first | apply Kd.R_alloc | apply Kd.R_drewN | apply Kd.R_drew)); exact HO157.out) (Kd.R_base ho0) hb); have n2_ := Aside0.mk (Kd.R_lower (Kd.R_new' ho0 (Kd.R_lt (by (with_reducible repeat (first | apply Kd.R_alloc | apply Kd.R_drewN | apply Kd.R_drew)); exact HO157.out))) (below_size (by repeat (first | (with_reducible first | exact HB.out | apply below_alloc | apply pw_below_drewN | apply below_drew1) | exact HB.out)))); have n3_ := Aside0.mk (below_step (by repeat (first | (with_reducible first | exact HB.out | apply below_alloc | apply pw_below_drewN | apply below_drew1) | exact HB.out)) hb); clear HO_51; clear HO157; clear HB; have HO_51 := n0_; have HO157 := n1_; have HO161 := n2_; have HB := n3_; clear n0_ n1_ n2_ n3_; (try clear hb); (try clear hb2); (try clear hk); (try clear hi); (try clear ho0); have hcv41 := own_string (P := Tryd.prog) Tryd.underlying22 Tryd.underlying5 Tryd.underlying9 (Kd.own_of_R HO157.out); have hcv42 := own_string (P := Tryd.prog) Tryd.underlying22 Tryd.underlying5 Tryd.underlying9 (Kd.own_of_R HO161.out)) | (go_at_call 7; (with_reducible refine (base64_Read.calls k3 (rdOf ByteArray.empty y150 x53_3) t154 t155 _ A35.out).mono ?_); rintro e w39 ⟨v156, rfl, ho0, hb⟩; have n0_ := Aside0.mk (Kd.R_below (by (with_reducible repeat (first | apply Kd.R_alloc | apply Kd.R_drewN | apply Kd.R_drew)); exact HO_51.out) hb); have n1_ := Aside0.mk (Kd.R_lower ho0 (below_size (by repeat (first | (with_reducible first | exact HB.out | apply below_alloc | apply pw_below_drewN | apply below_drew1) | exact HB.out)))); have n2_ := Aside0.mk (below_step (by repeat (first | (with_reducible first | exact HB.out | apply below_alloc | apply pw_below_drewN | apply below_drew1) | exact HB.out)) hb); clear HO_51; clear HB; have HO_51 := n0_; have HO157 := n1_; have HB := n2_; clear n0_ n1_ n2_; (try clear hb); (try clear hb2); (try clear hk); (try clear hi); (try clear ho0)) | (go_at_call 8; (with_reducible refine (parallaxref22_Read.calls k3 (rdOf ByteArray.empty y150 x53_3) t158 t159 _ A36.out).mono ?_); rintro e w40 ⟨v160, rfl, ho0, hb⟩; have n0_ := Aside0.mk (Kd.R_below (by (with_reducible repeat (first | apply Kd.R_alloc | apply Kd.R_drewN | apply Kd.R_drew)); exact HO_51.out) hb); have n1_ := Aside0.mk (Kd.R_elder' (by (with_reducible repeat (first | apply Kd.R_alloc | apply Kd.R_drewN | apply Kd.R_drew)); exact HO157.out) (Kd.R_base ho0) hb); have n2_ := Aside0.mk (Kd.R_lower (Kd.R_new' ho0 (Kd.R_lt (by (with_reducible repeat (first | apply Kd.R_alloc | apply Kd.R_drewN | apply Kd.R_drew)); exact HO157.out))) (below_size (by repeat (first | (with_reducible first | exact HB.out | apply below_alloc | apply pw_below_drewN | apply below_drew1) | exact HB.out)))); have n3_ := Aside0.mk (below_step (by repeat (first | (with_reducible first | exact HB.out | apply below_alloc | apply pw_below_drewN | apply below_drew1) | exact HB.out)) hb); clear HO_51; clear HO157; clear HB; have HO_51 := n0_; have HO157 := n1_; have HO161 := n2_; have HB := n3_; clear n0_ n1_ n2_ n3_; (try clear hb); (try clear hb2); (try clear hk); (try clear hi); (try clear ho0); have hcv41 := own_string (P := Tryd.prog) Tryd.underlying22 Tryd.underlying5 Tryd.underlying9 (Kd.own_of_R HO157.out); have hcv42 := own_string (P := Tryd.prog) Tryd.underlying22 Tryd.underlying5 Tryd.underlying9 (Kd.own_of_R HO161.out)))
                                  (try any_goals (exfalso; have h_ := ‹some undef = some (Value.bool _)›; revert h_; simp [undef]; done))
                                  go_roundg k3
                                  case measure => have := HJ6.out; have := HJ12.out; have := HK3.out; omega
                                  case rel => exact ⟨(wrap64 (x53_3 + 1)), (by first | rfl | (simp; done) | (simp [*]; done)), H', ⟨by have := HJ6.out; have := HJ12.out; have := HK3.out; omega⟩, ⟨by (try simp only [hl10_12]); (with_reducible repeat (first | apply Kd.R_alloc | apply Kd.R_drewN | apply Kd.R_drew)); exact HO_51.out⟩, ⟨by repeat (first | (with_reducible first | exact HB.out | apply below_alloc | apply pw_below_drewN | apply below_drew1) | exact HB.out)⟩⟩
                                · rw [if_neg c38] at H
                                  have c38b0 : ((strOfNums t154).toList == (strOfNums t158).toList) = false := beq_eq_false_iff_ne.mpr c38
                                  have c38b1 : ((strOfNums t154).toList != (strOfNums t158).toList) = true := bne_iff_ne.mpr c38
                                  exact absurd ((Option.some.inj H).trans HT.out) (by decide)
                            · rw [if_neg c34] at H
                              exact absurd H (by simp)
                          · rw [if_neg c33] at H
                            exact absurd H (by simp)
                        · rw [if_neg c32] at H
                          have c32b0 : decide (x53_3 < (y150.length : Int)) = false := decide_eq_false c32
                          (try (have c32b0z := c32b0; rw [hl10_12] at c32b0z))
                          clear c32
                          replace H := Option.bind_eq_some_iff.mp H
                          obtain ⟨⟨t162, t163⟩, A430, H⟩ := H
                          (try dsimp only at H)
                          have A43 := Aside0.mk A430
                          clear A430
                          have HC44 := Aside0.mk H
                          clear H
                          go_upto_region 18 with (first | ((with_reducible refine gate_callee (f := 7) rfl ?_); refine goesL_ (some 80) rfl rfl Tryd.func7 (by kernel_rfl) rfl #[.string t145] rfl (by (try simp only [List.map_toArray, List.map_cons, List.map_nil]); first | done | rfl | (simp only [List.length_drop, List.length_take]; rfl)) ?_; (with_reducible refine (base64_Read.calls k3 t145 t162 t163 _ A43.out).mono ?_); rintro e w45 ⟨v164, rfl, ho0, hb⟩; refine ⟨_, rfl, ?_⟩; have n0_ := Aside0.mk (Kd.R_below (by (with_reducible repeat (first | apply Kd.R_alloc | apply Kd.R_drewN | apply Kd.R_drew)); exact HO_51.out) hb); have n1_ := Aside0.mk (Kd.R_lower ho0 (below_size (by repeat (first | (with_reducible first | exact HB.out | apply below_alloc | apply pw_below_drewN | apply below_drew1) | exact HB.out)))); have n2_ := Aside0.mk (below_step (by repeat (first | (with_reducible first | exact HB.out | apply below_alloc | apply pw_below_drewN | apply below_drew1) | exact HB.out)) hb); clear HO_51; clear HB; have HO_51 := n0_; have HO165 := n1_; have HB := n2_; clear n0_ n1_ n2_; (try clear hb); (try clear hb2); (try clear hk); (try clear hi); (try clear ho0)))
                          (try simp only [Act.put, List.setIfInBounds_toArray, List.set_cons_zero, List.set_cons_succ])
                          go_cut [8] (fun v8 wc => ∃ (kq : Nat) (x8_43 : Bool), v8 = .bool x8_43 ∧ Aside0 (parallaxlaw22_Base64Tells.j3 kq x8_43 = some r) ∧ Aside0 (kq ≤ k3) ∧ Aside0 (Below w.heap.size w wc))
                          case first =>
                            have H := HC44.out
                            clear HC44
                            replace H := Option.bind_eq_some_iff.mp H
                            obtain ⟨t166, A460, H⟩ := H
                            (try dsimp only at H)
                            have A46 := Aside0.mk A460
                            clear A460
                            by_cases c47 : t145.toList = t166.toList
                            · rw [if_pos c47] at H
                              have c47b0 : (t145.toList == t166.toList) = true := beq_iff_eq.mpr c47
                              have c47b1 : (t145.toList != t166.toList) = false := bne_eq_false_iff_eq.mpr c47
                              clear c47
                              (first | rw [c47b0] | (simp only [i64_w, i32_w]; rw [c47b0]) | skip)
                              by_cases c48 : t163 = true
                              · subst c48
                                rw [if_pos rfl] at H
                                by_cases c49 : (strOfNums t162).toList = (strOfNums l0).toList
                                · rw [if_pos c49] at H
                                  have c49b0 : ((strOfNums t162).toList == (strOfNums l0).toList) = true := beq_iff_eq.mpr c49
                                  have c49b1 : ((strOfNums t162).toList != (strOfNums l0).toList) = false := bne_eq_false_iff_eq.mpr c49
                                  clear c49
                                  have H' := Aside0.mk H
                                  clear H
                                  go_wp2_with (first | ((with_reducible refine gate_callee (f := 9) rfl ?_); refine goesL_ (some 85) rfl rfl Tryd.func9 (by kernel_rfl) rfl #[.slice A0 l0.length c0] rfl (by (try simp only [List.map_toArray, List.map_cons, List.map_nil]); first | done | rfl | (simp only [List.length_drop, List.length_take]; rfl)) ?_; (with_reducible refine (parallaxref22_Put.calls k3 _ _ l0 t166 _ ?side1 ?side2 A46.out).mono ?_); (case side1 => repeat (first | exact (Kd.C_below HR0.out HB.out) | (with_reducible refine Kd.C_alloc ?_ _) | (with_reducible refine Kd.C_drewN ?_ _) | (with_reducible refine Kd.C_drew ?_))); (case side2 => exact HC0.out); rintro e w50 ⟨rfl, hb⟩; refine ⟨_, rfl, ?_⟩; have n0_ := Aside0.mk (Kd.R_below (by (with_reducible repeat (first | apply Kd.R_alloc | apply Kd.R_drewN | apply Kd.R_drew)); exact HO_51.out) hb); have n1_ := Aside0.mk (Kd.R_below (by (with_reducible repeat (first | apply Kd.R_alloc | apply Kd.R_drewN | apply Kd.R_drew)); exact HO165.out) hb); have n2_ := Aside0.mk (below_step (by repeat (first | (with_reducible first | exact HB.out | apply below_alloc | apply pw_below_drewN | apply below_drew1) | exact HB.out)) hb); clear HO_51; clear HO165; clear HB; have HO_51 := n0_; have HO165 := n1_; have HB := n2_; clear n0_ n1_ n2_; (try clear hb); (try clear hb2); (try clear hk); (try clear hi); have hcv51 := own_string (P := Tryd.prog) Tryd.underlying22 Tryd.underlying5 Tryd.underlying9 (Kd.own_of_R HO165.out); have hcv52 := Kd.C_string (P := Tryd.prog) (A := A0) (c := c0) Tryd.underlying22 Tryd.underlying5 Tryd.underlying9 (Kd.C_below HR0.out HB.out)) | (go_at_call 9; (with_reducible refine (parallaxref22_Put.calls k3 _ _ l0 t166 _ ?side1 ?side2 A46.out).mono ?_); (case side1 => repeat (first | exact (Kd.C_below HR0.out HB.out) | (with_reducible refine Kd.C_alloc ?_ _) | (with_reducible refine Kd.C_drewN ?_ _) | (with_reducible refine Kd.C_drew ?_))); (case side2 => exact HC0.out); rintro e w50 ⟨rfl, hb⟩; have n0_ := Aside0.mk (Kd.R_below (by (with_reducible repeat (first | apply Kd.R_alloc | apply Kd.R_drewN | apply Kd.R_drew)); exact HO_51.out) hb); have n1_ := Aside0.mk (Kd.R_below (by (with_reducible repeat (first | apply Kd.R_alloc | apply Kd.R_drewN | apply Kd.R_drew)); exact HO165.out) hb); have n2_ := Aside0.mk (below_step (by repeat (first | (with_reducible first | exact HB.out | apply below_alloc | apply pw_below_drewN | apply below_drew1) | exact HB.out)) hb); clear HO_51; clear HO165; clear HB; have HO_51 := n0_; have HO165 := n1_; have HB := n2_; clear n0_ n1_ n2_; (try clear hb); (try clear hb2); (try clear hk); (try clear hi); have hcv51 := own_string (P := Tryd.prog) Tryd.underlying22 Tryd.underlying5 Tryd.underlying9 (Kd.own_of_R HO165.out); have hcv52 := Kd.C_string (P := Tryd.prog) (A := A0) (c := c0) Tryd.underlying22 Tryd.underlying5 Tryd.underlying9 (Kd.C_below HR0.out HB.out)))
                                  (try any_goals (exfalso; have h_ := ‹some undef = some (Value.bool _)›; revert h_; simp [undef]; done))
                                  go_meet
                                  case rel => exact ⟨_, (((t145.size : Int) == (wrap64 ((wrap64 (Int.tdiv (wrap64 ((l0.length : Int) + 2)) 3)) * 4)))), (by first | rfl | (simp; done) | (simp [*]; done)), H', ⟨by have := HJ6.out; have := HJ12.out; have := HK3.out; first | omega | exact Nat.le_refl _⟩, ⟨by repeat (first | (with_reducible first | exact HB.out | apply below_alloc | apply pw_below_drewN | apply below_drew1) | exact HB.out)⟩⟩
                                · rw [if_neg c49] at H
                                  have c49b0 : ((strOfNums t162).toList == (strOfNums l0).toList) = false := beq_eq_false_iff_ne.mpr c49
                                  have c49b1 : ((strOfNums t162).toList != (strOfNums l0).toList) = true := bne_iff_ne.mpr c49
                                  have H' := Aside0.mk H
                                  clear H
                                  go_wp2_with (first | ((with_reducible refine gate_callee (f := 9) rfl ?_); refine goesL_ (some 85) rfl rfl Tryd.func9 (by kernel_rfl) rfl #[.slice A0 l0.length c0] rfl (by (try simp only [List.map_toArray, List.map_cons, List.map_nil]); first | done | rfl | (simp only [List.length_drop, List.length_take]; rfl)) ?_; (with_reducible refine (parallaxref22_Put.calls k3 _ _ l0 t166 _ ?side1 ?side2 A46.out).mono ?_); (case side1 => repeat (first | exact (Kd.C_below HR0.out HB.out) | (with_reducible refine Kd.C_alloc ?_ _) | (with_reducible refine Kd.C_drewN ?_ _) | (with_reducible refine Kd.C_drew ?_))); (case side2 => exact HC0.out); rintro e w53 ⟨rfl, hb⟩; refine ⟨_, rfl, ?_⟩; have n0_ := Aside0.mk (Kd.R_below (by (with_reducible repeat (first | apply Kd.R_alloc | apply Kd.R_drewN | apply Kd.R_drew)); exact HO_51.out) hb); have n1_ := Aside0.mk (Kd.R_below (by (with_reducible repeat (first | apply Kd.R_alloc | apply Kd.R_drewN | apply Kd.R_drew)); exact HO165.out) hb); have n2_ := Aside0.mk (below_step (by repeat (first | (with_reducible first | exact HB.out | apply below_alloc | apply pw_below_drewN | apply below_drew1) | exact HB.out)) hb); clear HO_51; clear HO165; clear HB; have HO_51 := n0_; have HO165 := n1_; have HB := n2_; clear n0_ n1_ n2_; (try clear hb); (try clear hb2); (try clear hk); (try clear hi); have hcv54 := own_string (P := Tryd.prog) Tryd.underlying22 Tryd.underlying5 Tryd.underlying9 (Kd.own_of_R HO165.out); have hcv55 := Kd.C_string (P := Tryd.prog) (A := A0) (c := c0) Tryd.underlying22 Tryd.underlying5 Tryd.underlying9 (Kd.C_below HR0.out HB.out)) | (go_at_call 9; (with_reducible refine (parallaxref22_Put.calls k3 _ _ l0 t166 _ ?side1 ?side2 A46.out).mono ?_); (case side1 => repeat (first | exact (Kd.C_below HR0.out HB.out) | (with_reducible refine Kd.C_alloc ?_ _) | (with_reducible refine Kd.C_drewN ?_ _) | (with_reducible refine Kd.C_drew ?_))); (case side2 => exact HC0.out); rintro e w53 ⟨rfl, hb⟩; have n0_ := Aside0.mk (Kd.R_below (by (with_reducible repeat (first | apply Kd.R_alloc | apply Kd.R_drewN | apply Kd.R_drew)); exact HO_51.out) hb); have n1_ := Aside0.mk (Kd.R_below (by (with_reducible repeat (first | apply Kd.R_alloc | apply Kd.R_drewN | apply Kd.R_drew)); exact HO165.out) hb); have n2_ := Aside0.mk (below_step (by repeat (first | (with_reducible first | exact HB.out | apply below_alloc | apply pw_below_drewN | apply below_drew1) | exact HB.out)) hb); clear HO_51; clear HO165; clear HB; have HO_51 := n0_; have HO165 := n1_; have HB := n2_; clear n0_ n1_ n2_; (try clear hb); (try clear hb2); (try clear hk); (try clear hi); have hcv54 := own_string (P := Tryd.prog) Tryd.underlying22 Tryd.underlying5 Tryd.underlying9 (Kd.own_of_R HO165.out); have hcv55 := Kd.C_string (P := Tryd.prog) (A := A0) (c := c0) Tryd.underlying22 Tryd.underlying5 Tryd.underlying9 (Kd.C_below HR0.out HB.out)))
                                  (try any_goals (exfalso; have h_ := ‹some undef = some (Value.bool _)›; revert h_; simp [undef]; done))
                                  go_meet
                                  case rel => exact ⟨_, (false), (by first | rfl | (simp; done) | (simp [*]; done)), H', ⟨by have := HJ6.out; have := HJ12.out; have := HK3.out; first | omega | exact Nat.le_refl _⟩, ⟨by repeat (first | (with_reducible first | exact HB.out | apply below_alloc | apply pw_below_drewN | apply below_drew1) | exact HB.out)⟩⟩
                              · replace c48 := Bool.eq_false_iff.mpr c48
                                subst c48
                                rw [if_neg (show ¬ (false = true) by decide)] at H
                                have H' := Aside0.mk H
                                clear H
                                go_wp2_with (first | ((with_reducible refine gate_callee (f := 9) rfl ?_); refine goesL_ (some 85) rfl rfl Tryd.func9 (by kernel_rfl) rfl #[.slice A0 l0.length c0] rfl (by (try simp only [List.map_toArray, List.map_cons, List.map_nil]); first | done | rfl | (simp only [List.length_drop, List.length_take]; rfl)) ?_; (with_reducible refine (parallaxref22_Put.calls k3 _ _ l0 t166 _ ?side1 ?side2 A46.out).mono ?_); (case side1 => repeat (first | exact (Kd.C_below HR0.out HB.out) | (with_reducible refine Kd.C_alloc ?_ _) | (with_reducible refine Kd.C_drewN ?_ _) | (with_reducible refine Kd.C_drew ?_))); (case side2 => exact HC0.out); rintro e w56 ⟨rfl, hb⟩; refine ⟨_, rfl, ?_⟩; have n0_ := Aside0.mk (Kd.R_below (by (with_reducible repeat (first | apply Kd.R_alloc | apply Kd.R_drewN | apply Kd.R_drew)); exact HO_51.out) hb); have n1_ := Aside0.mk (Kd.R_below (by (with_reducible repeat (first | apply Kd.R_alloc | apply Kd.R_drewN | apply Kd.R_drew)); exact HO165.out) hb); have n2_ := Aside0.mk (below_step (by repeat (first | (with_reducible first | exact HB.out | apply below_alloc | apply pw_below_drewN | apply below_drew1) | exact HB.out)) hb); clear HO_51; clear HO165; clear HB; have HO_51 := n0_; have HO165 := n1_; have HB := n2_; clear n0_ n1_ n2_; (try clear hb); (try clear hb2); (try clear hk); (try clear hi)) | (go_at_call 9; (with_reducible refine (parallaxref22_Put.calls k3 _ _ l0 t166 _ ?side1 ?side2 A46.out).mono ?_); (case side1 => repeat (first | exact (Kd.C_below HR0.out HB.out) | (with_reducible refine Kd.C_alloc ?_ _) | (with_reducible refine Kd.C_drewN ?_ _) | (with_reducible refine Kd.C_drew ?_))); (case side2 => exact HC0.out); rintro e w56 ⟨rfl, hb⟩; have n0_ := Aside0.mk (Kd.R_below (by (with_reducible repeat (first | apply Kd.R_alloc | apply Kd.R_drewN | apply Kd.R_drew)); exact HO_51.out) hb); have n1_ := Aside0.mk (Kd.R_below (by (with_reducible repeat (first | apply Kd.R_alloc | apply Kd.R_drewN | apply Kd.R_drew)); exact HO165.out) hb); have n2_ := Aside0.mk (below_step (by repeat (first | (with_reducible first | exact HB.out | apply below_alloc | apply pw_below_drewN | apply below_drew1) | exact HB.out)) hb); clear HO_51; clear HO165; clear HB; have HO_51 := n0_; have HO165 := n1_; have HB := n2_; clear n0_ n1_ n2_; (try clear hb); (try clear hb2); (try clear hk); (try clear hi)))
                                (try any_goals (exfalso; have h_ := ‹some undef = some (Value.bool _)›; revert h_; simp [undef]; done))
                                go_meet
                                case rel => exact ⟨_, (false), (by first | rfl | (simp; done) | (simp [*]; done)), H', ⟨by have := HJ6.out; have := HJ12.out; have := HK3.out; first | omega | exact Nat.le_refl _⟩, ⟨by repeat (first | (with_reducible first | exact HB.out | apply below_alloc | apply pw_below_drewN | apply below_drew1) | exact HB.out)⟩⟩
                            · rw [if_neg c47] at H
                              have c47b0 : (t145.toList == t166.toList) = false := beq_eq_false_iff_ne.mpr c47
                              have c47b1 : (t145.toList != t166.toList) = true := bne_iff_ne.mpr c47
                              (first | rw [c47b0] | (simp only [i64_w, i32_w]; rw [c47b0]) | skip)
                              have H' := Aside0.mk H
                              clear H
                              go_wp2_with (first | ((with_reducible refine gate_callee (f := 9) rfl ?_); refine goesL_ (some 85) rfl rfl Tryd.func9 (by kernel_rfl) rfl #[.slice A0 l0.length c0] rfl (by (try simp only [List.map_toArray, List.map_cons, List.map_nil]); first | done | rfl | (simp only [List.length_drop, List.length_take]; rfl)) ?_; (with_reducible refine (parallaxref22_Put.calls k3 _ _ l0 t166 _ ?side1 ?side2 A46.out).mono ?_); (case side1 => repeat (first | exact (Kd.C_below HR0.out HB.out) | (with_reducible refine Kd.C_alloc ?_ _) | (with_reducible refine Kd.C_drewN ?_ _) | (with_reducible refine Kd.C_drew ?_))); (case side2 => exact HC0.out); rintro e w57 ⟨rfl, hb⟩; refine ⟨_, rfl, ?_⟩; have n0_ := Aside0.mk (Kd.R_below (by (with_reducible repeat (first | apply Kd.R_alloc | apply Kd.R_drewN | apply Kd.R_drew)); exact HO_51.out) hb); have n1_ := Aside0.mk (Kd.R_below (by (with_reducible repeat (first | apply Kd.R_alloc | apply Kd.R_drewN | apply Kd.R_drew)); exact HO165.out) hb); have n2_ := Aside0.mk (below_step (by repeat (first | (with_reducible first | exact HB.out | apply below_alloc | apply pw_below_drewN | apply below_drew1) | exact HB.out)) hb); clear HO_51; clear HO165; clear HB; have HO_51 := n0_; have HO165 := n1_; have HB := n2_; clear n0_ n1_ n2_; (try clear hb); (try clear hb2); (try clear hk); (try clear hi)) | (go_at_call 9; (with_reducible refine (parallaxref22_Put.calls k3 _ _ l0 t166 _ ?side1 ?side2 A46.out).mono ?_); (case side1 => repeat (first | exact (Kd.C_below HR0.out HB.out) | (with_reducible refine Kd.C_alloc ?_ _) | (with_reducible refine Kd.C_drewN ?_ _) | (with_reducible refine Kd.C_drew ?_))); (case side2 => exact HC0.out); rintro e w57 ⟨rfl, hb⟩; have n0_ := Aside0.mk (Kd.R_below (by (with_reducible repeat (first | apply Kd.R_alloc | apply Kd.R_drewN | apply Kd.R_drew)); exact HO_51.out) hb); have n1_ := Aside0.mk (Kd.R_below (by (with_reducible repeat (first | apply Kd.R_alloc | apply Kd.R_drewN | apply Kd.R_drew)); exact HO165.out) hb); have n2_ := Aside0.mk (below_step (by repeat (first | (with_reducible first | exact HB.out | apply below_alloc | apply pw_below_drewN | apply below_drew1) | exact HB.out)) hb); clear HO_51; clear HO165; clear HB; have HO_51 := n0_; have HO165 := n1_; have HB := n2_; clear n0_ n1_ n2_; (try clear hb); (try clear hb2); (try clear hk); (try clear hi)))
                              (try any_goals (exfalso; have h_ := ‹some undef = some (Value.bool _)›; revert h_; simp [undef]; done))
                              go_meet
                              case rel => exact ⟨_, (false), (by first | rfl | (simp; done) | (simp [*]; done)), H', ⟨by have := HJ6.out; have := HJ12.out; have := HK3.out; first | omega | exact Nat.le_refl _⟩, ⟨by repeat (first | (with_reducible first | exact HB.out | apply below_alloc | apply pw_below_drewN | apply below_drew1) | exact HB.out)⟩⟩
                          case rest =>
                            clear HC44
                            try clear c1
                            try clear p1
                            try clear q1
                            try clear hx1
                            try clear c2
                            try clear p2
                            try clear q2
                            try clear hx2
                            try clear hcv2
                            try clear c3
                            try clear q3
                            try clear c4
                            try clear hcv4
                            try clear c5
                            try clear hcv5
                            try clear c6
                            try clear p6
                            try clear c7
                            try clear c8
                            try clear c9
                            try clear c9b0
                            try clear c9b1
                            try clear c10
                            try clear c12
                            try clear c12b0
                            try clear c12b1
                            try clear c12b2
                            try clear p15
                            try clear q15
                            try clear hx15
                            try clear c18
                            try clear c18b0
                            try clear c18b1
                            try clear c19
                            try clear c19b0
                            try clear c19b1
                            try clear c19b2
                            try clear c21
                            try clear c21b0
                            try clear c22
                            try clear c22b0
                            try clear p23
                            try clear q23
                            try clear hx23
                            try clear hf23
                            try clear c26
                            try clear c26b0
                            try clear c26b1
                            try clear c26b2
                            try clear c27
                            try clear c27b0
                            try clear c27b1
                            try clear c27b2
                            try clear hcv28
                            try clear c32
                            try clear c32b0
                            try clear c33
                            try clear c33b0
                            try clear c34
                            try clear c34b0
                            try clear c37
                            try clear c37b0
                            try clear c37b1
                            try clear c37b2
                            try clear c38
                            try clear c38b0
                            try clear c38b1
                            try clear hcv41
                            try clear hcv42
                            try clear c47
                            try clear c47b0
                            try clear c47b1
                            try clear c48
                            try clear c49
                            try clear c49b0
                            try clear c49b1
                            try clear hcv51
                            try clear hcv52
                            try clear hcv54
                            try clear hcv55
                            try clear hx153_0
                            try clear hx23_0
                            try clear p153
                            try clear p2
                            try clear p23
                            try clear p6
                            try clear q153
                            try clear q2
                            try clear q23
                            try clear q3
                            obtain ⟨kq, x8_43, rfl, HA, HJ43, HB⟩ := hcut
                            cases kq with
                            | zero => exact absurd HA.out (by simp [parallaxlaw22_Base64Tells.j3])
                            | succ kj43 =>
                              have H := HA.out
                              clear HA
                              simp only [parallaxlaw22_Base64Tells.j3] at H
                              obtain rfl := Option.some.inj H
                              go_wp2
                              (try any_goals (exfalso; have h_ := ‹some undef = some (Value.bool _)›; revert h_; simp [undef]; done))
                              go_ret
                              exact ⟨by first | rfl | (simp [errW_none, errW_some] <;> rfl) | (simp [*, errW_none, errW_some] <;> rfl), by repeat (first | (with_reducible first | exact HB.out | apply below_alloc | apply pw_below_drewN | apply below_drew1) | exact HB.out)⟩
                  · rw [if_neg c27] at H
                    exact absurd H (by simp)
                · rw [if_neg c26] at H
                  exact absurd H (by simp)
          · rw [if_neg c12] at H
            exact absurd H (by simp)
  · replace c6 := Bool.eq_false_iff.mpr c6
    subst c6
    rw [if_neg (show ¬ (false = true) by decide)] at H
    exact absurd ((Option.some.inj H).trans HT.out) (by decide)

/-- THE ONE PURE STATEMENT of parallaxlaw22_Base64Tells: yours. -/
def parallaxlaw22_Base64Tells.Pure : Prop := ∀ (l0 : List Int) (a1 : ByteArray) (a2 : Int) (a3 : Int), l0.length ≤ maxLen → l0.length * 1 ≤ 140737488351232 → (∀ x ∈ l0, (Lit.int .u8 x).wf = true) → a1.size ≤ 140737488351232 → (Lit.int .u8 a2).wf = true → (Lit.int .u8 a3).wf = true → ∃ k, parallaxlaw22_Base64Tells.f k l0 a1 a2 a3 = some true
theorem parallaxlaw22_Base64Tells.walk (P : parallaxlaw22_Base64Tells.Pure) (a0 : Option Addr) (len0 cap0 : Nat) (z0 : List Int) (a1 : ByteArray) (a2 : Int) (a3 : Int) (w : World) (w0 : (a0 = none ∧ len0 = 0 ∧ cap0 = 0 ∧ z0 = []) ∨ ∃ x, a0 = some x ∧ len0 ≤ cap0 ∧ cap0 ≤ maxLen ∧ z0.length = cap0 ∧ (∀ i, i < z0.length → w.cell? (x.add i) = some (.int .u8 (z0.getD i 0))) ∧ ∀ n ∈ z0, (Lit.int .u8 n).wf = true) (y0 : len0 * 1 ≤ 140737488351232) (w1 : a1.size ≤ 140737488351232) (w2 : (Lit.int .u8 a2).wf = true) (w3 : (Lit.int .u8 a3).wf = true) :
    Calls Tryd.prog 3 #[.slice a0 len0 cap0, .string a1, .int .u8 a2, .int .u8 a3] w fun e w' => e = .returned (.bool true) ∧ Below w.heap.size w w' := by
  obtain ⟨l0, rfl, hr0, hm0, hw0, hc0⟩ := ReadsInt.ofRowC w0
  obtain ⟨k, h⟩ := P l0 a1 a2 a3 hm0 y0 hw0 w1 w2 w3
  refine (parallaxlaw22_Base64Tells.calls k _ _ l0 a1 a2 a3 true w (Kd.C_of_reads (d := (0 : Int)) (h1 := fun _ => rfl) hr0) hc0 w2 w3 rfl h).mono ?_
  rintro e w' ⟨rfl, hd⟩
  exact ⟨rfl, hd⟩

end Go.Proofs.YtpdkflpkcabhpaaDoor.PBase64Tells
