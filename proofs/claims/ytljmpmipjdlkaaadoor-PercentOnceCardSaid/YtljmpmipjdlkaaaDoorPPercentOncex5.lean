-- Written by a program of this session (wip/tools/myprint.sh)
import Derived.Test.YtljmpmipjdlkaaaDoorPPercentOncex0
import Derived.Test.YtljmpmipjdlkaaaDoorPPercentOncex1
import Derived.Test.YtljmpmipjdlkaaaDoorPPercentOncex3
import Derived.Test.YtljmpmipjdlkaaaDoorPPercentOncex4
namespace Go.Proofs.YtljmpmipjdlkaaaDoor.PPercentOnce
open Go.RowKit Go.Proofs.YtljmpmipjdlkaaaDoorW.PrintWords Go.Proofs.YtljmpmipjdlkaaaDoorW.PrintLast Go.Proofs.YtljmpmipjdlkaaaDoorW.PrintMore
attribute [local go_sem] max2_int min2_int max_two min_two max_three min_three max_four min_four   -- for this text's walks alone
set_option linter.unusedVariables false
set_option linter.unusedSimpArgs false

/-! ### parallaxlaw19_PercentOnce: function 4 -/
mutual
def parallaxlaw19_PercentOnce.j0 : Nat → ByteArray → List Int → Bool → Option (Bool)
  | 0, _, _, _ => none
  | k + 1, x0, x1, x26 => if x26 = true then (some true) else (if 1 + x0.size ≤ 9223372036854775807 then ((parallaxseat_Path.f k x1).bind fun t227 => ((parallaxseat_Path.f k x1).bind fun t228 => (if t228.size + 1 ≤ 9223372036854775807 then ((some (([(⟨#[47]⟩ : ByteArray) ++ x0, t227, t228 ++ (⟨#[47]⟩ : ByteArray)] : List ByteArray) : List ByteArray)).bind fun y229 => (parallaxlaw19_PercentOnce.l0 k y229 (y229.length : Int) 0)) else (none)))) else (none))
def parallaxlaw19_PercentOnce.l0 : Nat → List ByteArray → Int → Int → Option (Bool)
  | 0, _, _, _ => none
  | k + 1, x34, x35, x36 => if x36 < x35 then (if 0 ≤ x36 then (if x36 < (x34.length : Int) then ((percent_Norm.f k (rdOf ByteArray.empty x34 x36)).bind fun bt233 => (if bt233.2 = true then ((percent_Norm.f k bt233.1).bind fun bt235 => (if bt235.2 = true then (if bt233.1.toList = bt235.1.toList then (if bt233.1.toList = ([] : List UInt8) then (parallaxlaw19_PercentOnce.j2 k (rdOf ByteArray.empty x34 x36) bt233.1 x34 x35 x36 true) else (if 0 < (bt233.1.size : Int) then (parallaxlaw19_PercentOnce.j2 k (rdOf ByteArray.empty x34 x36) bt233.1 x34 x35 x36 ((bt bt233.1 0) != 47)) else (none))) else (parallaxlaw19_PercentOnce.j2 k (rdOf ByteArray.empty x34 x36) bt233.1 x34 x35 x36 true)) else (parallaxlaw19_PercentOnce.j2 k (rdOf ByteArray.empty x34 x36) bt233.1 x34 x35 x36 true))) else (parallaxlaw19_PercentOnce.j5 k x34 x35 x36))) else (none)) else (none)) else (some true)
def parallaxlaw19_PercentOnce.j5 : Nat → List ByteArray → Int → Int → Option (Bool)
  | 0, _, _, _ => none
  | k + 1, x34, x35, x36 => parallaxlaw19_PercentOnce.l0 k x34 x35 (wrap64 (x36 + 1))
def parallaxlaw19_PercentOnce.j2 : Nat → ByteArray → ByteArray → List ByteArray → Int → Int → Bool → Option (Bool)
  | 0, _, _, _, _, _, _ => none
  | k + 1, x6, x7, x34, x35, x36, x67 => if x67 = true then (some false) else ((percent_Segments.f k x7).bind fun t237 => (parallaxlaw19_PercentOnce.l1 k x6 x7 t237 0 x34 x35 x36))
def parallaxlaw19_PercentOnce.l1 : Nat → ByteArray → ByteArray → List ByteArray → Int → List ByteArray → Int → Int → Option (Bool)
  | 0, _, _, _, _, _, _, _ => none
  | k + 1, x6, x7, x11, x12, x34, x35, x36 => if x12 < (x11.length : Int) then (if 0 ≤ x12 then (if (rdOf ByteArray.empty x11 x12).toList = ([46] : List UInt8) then (some false) else (if (rdOf ByteArray.empty x11 x12).toList = ([46, 46] : List UInt8) then (some false) else (parallaxlaw19_PercentOnce.l1 k x6 x7 x11 (wrap64 (x12 + 1)) x34 x35 x36))) else (none)) else ((percent_Decode.f k x6).bind fun bt242 => ((percent_Decode.f k x7).bind fun bt244 => (if (bt244.1.size : Int) > (bt242.1.size : Int) then (if (x11.length : Int) > 1 then (if 0 ≤ (wrap64 ((bt244.1.size : Int) - 1)) then (if (wrap64 ((bt244.1.size : Int) - 1)) < (bt244.1.size : Int) then (parallaxlaw19_PercentOnce.j4 k x34 x35 x36 ((bt bt244.1 (wrap64 ((bt244.1.size : Int) - 1))) != 47)) else (none)) else (none)) else (parallaxlaw19_PercentOnce.j4 k x34 x35 x36 false)) else (parallaxlaw19_PercentOnce.j4 k x34 x35 x36 false))))
def parallaxlaw19_PercentOnce.j4 : Nat → List ByteArray → Int → Int → Bool → Option (Bool)
  | 0, _, _, _, _ => none
  | k + 1, x34, x35, x36, x115 => if x115 = true then (some false) else (parallaxlaw19_PercentOnce.j5 k x34 x35 x36)
end
def parallaxlaw19_PercentOnce.f (k : Nat) (a0 : ByteArray) (l1 : List Int) : Option (Bool) := (parallaxlaw19_known.f k).bind fun t226 => (if t226 = true then (if (a0.size : Int) > 60 then (parallaxlaw19_PercentOnce.j0 k a0 l1 true) else (parallaxlaw19_PercentOnce.j0 k a0 l1 (decide ((l1.length : Int) > 6)))) else (some false))
theorem parallaxlaw19_PercentOnce.mono_l : ∀ k, (∀ y0 y1 y2, LeO (parallaxlaw19_PercentOnce.j0 k y0 y1 y2) (parallaxlaw19_PercentOnce.j0 (k + 1) y0 y1 y2)) ∧ (∀ y0 y1 y2, LeO (parallaxlaw19_PercentOnce.l0 k y0 y1 y2) (parallaxlaw19_PercentOnce.l0 (k + 1) y0 y1 y2)) ∧ (∀ y0 y1 y2, LeO (parallaxlaw19_PercentOnce.j5 k y0 y1 y2) (parallaxlaw19_PercentOnce.j5 (k + 1) y0 y1 y2)) ∧ (∀ y0 y1 y2 y3 y4 y5, LeO (parallaxlaw19_PercentOnce.j2 k y0 y1 y2 y3 y4 y5) (parallaxlaw19_PercentOnce.j2 (k + 1) y0 y1 y2 y3 y4 y5)) ∧ (∀ y0 y1 y2 y3 y4 y5 y6, LeO (parallaxlaw19_PercentOnce.l1 k y0 y1 y2 y3 y4 y5 y6) (parallaxlaw19_PercentOnce.l1 (k + 1) y0 y1 y2 y3 y4 y5 y6)) ∧ (∀ y0 y1 y2 y3, LeO (parallaxlaw19_PercentOnce.j4 k y0 y1 y2 y3) (parallaxlaw19_PercentOnce.j4 (k + 1) y0 y1 y2 y3))
  | 0 => ⟨fun _ _ _ r h => by simp [parallaxlaw19_PercentOnce.j0] at h, fun _ _ _ r h => by simp [parallaxlaw19_PercentOnce.l0] at h, fun _ _ _ r h => by simp [parallaxlaw19_PercentOnce.j5] at h, fun _ _ _ _ _ _ r h => by simp [parallaxlaw19_PercentOnce.j2] at h, fun _ _ _ _ _ _ _ r h => by simp [parallaxlaw19_PercentOnce.l1] at h, fun _ _ _ _ r h => by simp [parallaxlaw19_PercentOnce.j4] at h⟩
  | k + 1 => by
    obtain ⟨ih0, ih1, ih2, ih3, ih4, ih5⟩ := parallaxlaw19_PercentOnce.mono_l k
    refine ⟨?_, ?_, ?_, ?_, ?_, ?_⟩
    · intro y0 y1 y2
      unfold parallaxlaw19_PercentOnce.j0
      repeat' first
      | (with_reducible exact ih0 _ _ _)
      | (with_reducible exact ih1 _ _ _)
      | (with_reducible exact ih2 _ _ _)
      | (with_reducible exact ih3 _ _ _ _ _ _)
      | (with_reducible exact ih4 _ _ _ _ _ _ _)
      | (with_reducible exact ih5 _ _ _ _)
      | (with_reducible exact parallaxlaw19_known.mono _)
      | (with_reducible exact parallaxseat_Path.mono _ _)
      | (with_reducible exact percent_Decode.mono _ _)
      | (with_reducible exact percent_Norm.mono _ _)
      | (with_reducible exact percent_Segments.mono _ _)
      | (with_reducible exact LeO.refl _)
      | (with_reducible exact LeO.none _)
      | (with_reducible refine LeO.ite ?_ ?_)
      | (with_reducible refine LeO.bind ?_ (fun _ => ?_))
      | exact ih0 _ _ _
      | exact ih1 _ _ _
      | exact ih2 _ _ _
      | exact ih3 _ _ _ _ _ _
      | exact ih4 _ _ _ _ _ _ _
      | exact ih5 _ _ _ _
      | exact parallaxlaw19_known.mono _
      | exact parallaxseat_Path.mono _ _
      | exact percent_Decode.mono _ _
      | exact percent_Norm.mono _ _
      | exact percent_Segments.mono _ _
      | exact LeO.none _
      | refine LeO.ite ?_ ?_
      | refine LeO.bind ?_ (fun _ => ?_)
    · intro y0 y1 y2
      unfold parallaxlaw19_PercentOnce.l0
      repeat' first
      | (with_reducible exact ih0 _ _ _)
      | (with_reducible exact ih1 _ _ _)
      | (with_reducible exact ih2 _ _ _)
      | (with_reducible exact ih3 _ _ _ _ _ _)
      | (with_reducible exact ih4 _ _ _ _ _ _ _)
      | (with_reducible exact ih5 _ _ _ _)
      | (with_reducible exact parallaxlaw19_known.mono _)
      | (with_reducible exact parallaxseat_Path.mono _ _)
      | (with_reducible exact percent_Decode.mono _ _)
      | (with_reducible exact percent_Norm.mono _ _)
      | (with_reducible exact percent_Segments.mono _ _)
      | (with_reducible exact LeO.refl _)
      | (with_reducible exact LeO.none _)
      | (with_reducible refine LeO.ite ?_ ?_)
      | (with_reducible refine LeO.bind ?_ (fun _ => ?_))
      | exact ih0 _ _ _
      | exact ih1 _ _ _
      | exact ih2 _ _ _
      | exact ih3 _ _ _ _ _ _
      | exact ih4 _ _ _ _ _ _ _
      | exact ih5 _ _ _ _
      | exact parallaxlaw19_known.mono _
      | exact parallaxseat_Path.mono _ _
      | exact percent_Decode.mono _ _
      | exact percent_Norm.mono _ _
      | exact percent_Segments.mono _ _
      | exact LeO.none _
      | refine LeO.ite ?_ ?_
      | refine LeO.bind ?_ (fun _ => ?_)
    · intro y0 y1 y2
      unfold parallaxlaw19_PercentOnce.j5
      repeat' first
      | (with_reducible exact ih0 _ _ _)
      | (with_reducible exact ih1 _ _ _)
      | (with_reducible exact ih2 _ _ _)
      | (with_reducible exact ih3 _ _ _ _ _ _)
      | (with_reducible exact ih4 _ _ _ _ _ _ _)
      | (with_reducible exact ih5 _ _ _ _)
      | (with_reducible exact parallaxlaw19_known.mono _)
      | (with_reducible exact parallaxseat_Path.mono _ _)
      | (with_reducible exact percent_Decode.mono _ _)
      | (with_reducible exact percent_Norm.mono _ _)
      | (with_reducible exact percent_Segments.mono _ _)
      | (with_reducible exact LeO.refl _)
      | (with_reducible exact LeO.none _)
      | (with_reducible refine LeO.ite ?_ ?_)
      | (with_reducible refine LeO.bind ?_ (fun _ => ?_))
      | exact ih0 _ _ _
      | exact ih1 _ _ _
      | exact ih2 _ _ _
      | exact ih3 _ _ _ _ _ _
      | exact ih4 _ _ _ _ _ _ _
      | exact ih5 _ _ _ _
      | exact parallaxlaw19_known.mono _
      | exact parallaxseat_Path.mono _ _
      | exact percent_Decode.mono _ _
      | exact percent_Norm.mono _ _
      | exact percent_Segments.mono _ _
      | exact LeO.none _
      | refine LeO.ite ?_ ?_
      | refine LeO.bind ?_ (fun _ => ?_)
    · intro y0 y1 y2 y3 y4 y5
      unfold parallaxlaw19_PercentOnce.j2
      repeat' first
      | (with_reducible exact ih0 _ _ _)
      | (with_reducible exact ih1 _ _ _)
      | (with_reducible exact ih2 _ _ _)
      | (with_reducible exact ih3 _ _ _ _ _ _)
      | (with_reducible exact ih4 _ _ _ _ _ _ _)
      | (with_reducible exact ih5 _ _ _ _)
      | (with_reducible exact parallaxlaw19_known.mono _)
      | (with_reducible exact parallaxseat_Path.mono _ _)
      | (with_reducible exact percent_Decode.mono _ _)
      | (with_reducible exact percent_Norm.mono _ _)
      | (with_reducible exact percent_Segments.mono _ _)
      | (with_reducible exact LeO.refl _)
      | (with_reducible exact LeO.none _)
      | (with_reducible refine LeO.ite ?_ ?_)
      | (with_reducible refine LeO.bind ?_ (fun _ => ?_))
      | exact ih0 _ _ _
      | exact ih1 _ _ _
      | exact ih2 _ _ _
      | exact ih3 _ _ _ _ _ _
      | exact ih4 _ _ _ _ _ _ _
      | exact ih5 _ _ _ _
      | exact parallaxlaw19_known.mono _
      | exact parallaxseat_Path.mono _ _
      | exact percent_Decode.mono _ _
      | exact percent_Norm.mono _ _
      | exact percent_Segments.mono _ _
      | exact LeO.none _
      | refine LeO.ite ?_ ?_
      | refine LeO.bind ?_ (fun _ => ?_)
    · intro y0 y1 y2 y3 y4 y5 y6
      unfold parallaxlaw19_PercentOnce.l1
      repeat' first
      | (with_reducible exact ih0 _ _ _)
      | (with_reducible exact ih1 _ _ _)
      | (with_reducible exact ih2 _ _ _)
      | (with_reducible exact ih3 _ _ _ _ _ _)
      | (with_reducible exact ih4 _ _ _ _ _ _ _)
      | (with_reducible exact ih5 _ _ _ _)
      | (with_reducible exact parallaxlaw19_known.mono _)
      | (with_reducible exact parallaxseat_Path.mono _ _)
      | (with_reducible exact percent_Decode.mono _ _)
      | (with_reducible exact percent_Norm.mono _ _)
      | (with_reducible exact percent_Segments.mono _ _)
      | (with_reducible exact LeO.refl _)
      | (with_reducible exact LeO.none _)
      | (with_reducible refine LeO.ite ?_ ?_)
      | (with_reducible refine LeO.bind ?_ (fun _ => ?_))
      | exact ih0 _ _ _
      | exact ih1 _ _ _
      | exact ih2 _ _ _
      | exact ih3 _ _ _ _ _ _
      | exact ih4 _ _ _ _ _ _ _
      | exact ih5 _ _ _ _
      | exact parallaxlaw19_known.mono _
      | exact parallaxseat_Path.mono _ _
      | exact percent_Decode.mono _ _
      | exact percent_Norm.mono _ _
      | exact percent_Segments.mono _ _
      | exact LeO.none _
      | refine LeO.ite ?_ ?_
      | refine LeO.bind ?_ (fun _ => ?_)
    · intro y0 y1 y2 y3
      unfold parallaxlaw19_PercentOnce.j4
      repeat' first
      | (with_reducible exact ih0 _ _ _)
      | (with_reducible exact ih1 _ _ _)
      | (with_reducible exact ih2 _ _ _)
      | (with_reducible exact ih3 _ _ _ _ _ _)
      | (with_reducible exact ih4 _ _ _ _ _ _ _)
      | (with_reducible exact ih5 _ _ _ _)
      | (with_reducible exact parallaxlaw19_known.mono _)
      | (with_reducible exact parallaxseat_Path.mono _ _)
      | (with_reducible exact percent_Decode.mono _ _)
      | (with_reducible exact percent_Norm.mono _ _)
      | (with_reducible exact percent_Segments.mono _ _)
      | (with_reducible exact LeO.refl _)
      | (with_reducible exact LeO.none _)
      | (with_reducible refine LeO.ite ?_ ?_)
      | (with_reducible refine LeO.bind ?_ (fun _ => ?_))
      | exact ih0 _ _ _
      | exact ih1 _ _ _
      | exact ih2 _ _ _
      | exact ih3 _ _ _ _ _ _
      | exact ih4 _ _ _ _ _ _ _
      | exact ih5 _ _ _ _
      | exact parallaxlaw19_known.mono _
      | exact parallaxseat_Path.mono _ _
      | exact percent_Decode.mono _ _
      | exact percent_Norm.mono _ _
      | exact percent_Segments.mono _ _
      | exact LeO.none _
      | refine LeO.ite ?_ ?_
      | refine LeO.bind ?_ (fun _ => ?_)
theorem parallaxlaw19_PercentOnce.mono : ∀ a0 a1 k, LeO (parallaxlaw19_PercentOnce.f k a0 a1) (parallaxlaw19_PercentOnce.f (k + 1) a0 a1) := by
  intro a0 a1 k
  obtain ⟨ih0, ih1, ih2, ih3, ih4, ih5⟩ := parallaxlaw19_PercentOnce.mono_l k
  unfold parallaxlaw19_PercentOnce.f
  repeat' first
      | (with_reducible exact ih0 _ _ _)
      | (with_reducible exact ih1 _ _ _)
      | (with_reducible exact ih2 _ _ _)
      | (with_reducible exact ih3 _ _ _ _ _ _)
      | (with_reducible exact ih4 _ _ _ _ _ _ _)
      | (with_reducible exact ih5 _ _ _ _)
      | (with_reducible exact parallaxlaw19_known.mono _)
      | (with_reducible exact parallaxseat_Path.mono _ _)
      | (with_reducible exact percent_Decode.mono _ _)
      | (with_reducible exact percent_Norm.mono _ _)
      | (with_reducible exact percent_Segments.mono _ _)
      | (with_reducible exact LeO.refl _)
      | (with_reducible exact LeO.none _)
      | (with_reducible refine LeO.ite ?_ ?_)
      | (with_reducible refine LeO.bind ?_ (fun _ => ?_))
      | exact ih0 _ _ _
      | exact ih1 _ _ _
      | exact ih2 _ _ _
      | exact ih3 _ _ _ _ _ _
      | exact ih4 _ _ _ _ _ _ _
      | exact ih5 _ _ _ _
      | exact parallaxlaw19_known.mono _
      | exact parallaxseat_Path.mono _ _
      | exact percent_Decode.mono _ _
      | exact percent_Norm.mono _ _
      | exact percent_Segments.mono _ _
      | exact LeO.none _
      | refine LeO.ite ?_ ?_
      | refine LeO.bind ?_ (fun _ => ?_)
set_option maxHeartbeats 8000000 in
set_option maxRecDepth 100000 in
theorem parallaxlaw19_PercentOnce.calls (k : Nat) (a0 : ByteArray) (A1 : Option Addr) (c1 : Nat) (l1 : List Int) (r : Bool) (w : World) (hr1 : Kd.C (Kd.int .u8) w A1 l1.length l1) (hc1 : l1.length ≤ c1) (hT : r = true) (h : parallaxlaw19_PercentOnce.f k a0 l1 = some r) :
    Calls Tryd.prog 4 #[.string a0, .slice A1 l1.length c1] w fun e w' => e = .returned (.bool r) ∧ Below w.heap.size w w' := by
  have HT := Aside0.mk hT
  clear hT
  have HR1 := Aside0.mk hr1
  have HC1 := Aside0.mk hc1
  clear hr1 hc1
  have HB := Aside0.mk (Below.refl w.heap.size w)
  have H : ((parallaxlaw19_known.f k).bind fun t226 => (if t226 = true then (if (a0.size : Int) > 60 then (parallaxlaw19_PercentOnce.j0 k a0 l1 true) else (parallaxlaw19_PercentOnce.j0 k a0 l1 (decide ((l1.length : Int) > 6)))) else (some false))) = some r := h
  clear h
  replace H := Option.bind_eq_some_iff.mp H
  obtain ⟨t226, A30, H⟩ := H
  (try dsimp only at H)
  have A3 := Aside0.mk A30
  clear A30
  by_cases c4 : t226 = true
  · subst c4
    rw [if_pos rfl] at H
    have HC5 := Aside0.mk H
    clear H
    go_enter Tryd.func4, Tryd.ntmps4
    go_upto_region 3 with (first | ((with_reducible refine gate_callee (f := 7) rfl ?_); refine goesL_ (some 17) rfl rfl Tryd.func7 (by kernel_rfl) rfl #[] rfl (by (try simp only [List.map_toArray, List.map_cons, List.map_nil]); first | done | rfl | (simp only [List.length_drop, List.length_take]; rfl)) ?_; (with_reducible refine (parallaxlaw19_known.calls k  true _ rfl A3.out).mono ?_); rintro e w6 ⟨rfl, hb⟩; refine ⟨_, rfl, ?_⟩; have n0_ := Aside0.mk (below_step (by repeat (first | (with_reducible first | exact HB.out | apply below_alloc | apply pw_below_drewN | apply below_drew1) | exact HB.out)) hb); clear HB; have HB := n0_; clear n0_; (try clear hb); (try clear hb2); (try clear hk); (try clear hi)))
    (try simp only [Act.put, List.setIfInBounds_toArray, List.set_cons_zero, List.set_cons_succ])
    go_cut [26] (fun v26 wc => ∃ (kq : Nat) (x26_4 : Bool), v26 = .bool x26_4 ∧ Aside0 (parallaxlaw19_PercentOnce.j0 kq a0 l1 x26_4 = some r) ∧ Aside0 (kq ≤ k) ∧ Aside0 (Below w.heap.size w wc))
    case first =>
      have H := HC5.out
      clear HC5
      by_cases c7 : (a0.size : Int) > 60
      · rw [if_pos c7] at H
        have c7b0 : decide (60 < (a0.size : Int)) = true := decide_eq_true c7
        have c7b1 : decide (60 < a0.size) = true := decide_eq_true (by omega)
        clear c7
        (first | rw [c7b0] | (simp only [i64_w, i32_w]; rw [c7b0]) | rw [c7b1] | skip)
        have H' := Aside0.mk H
        clear H
        go_wp2
        (try any_goals (exfalso; have h_ := ‹some undef = some (Value.bool _)›; revert h_; simp [undef]; done))
        go_meet
        case rel => exact ⟨_, (true), (by first | rfl | (simp; done) | (simp [*]; done)), H', ⟨by first | omega | exact Nat.le_refl _⟩, ⟨by repeat (first | (with_reducible first | exact HB.out | apply below_alloc | apply pw_below_drewN | apply below_drew1) | exact HB.out)⟩⟩
      · rw [if_neg c7] at H
        have c7b0 : decide (60 < (a0.size : Int)) = false := decide_eq_false c7
        have c7b1 : decide (60 < a0.size) = false := decide_eq_false (by omega)
        clear c7
        (first | rw [c7b0] | (simp only [i64_w, i32_w]; rw [c7b0]) | rw [c7b1] | skip)
        have H' := Aside0.mk H
        clear H
        go_wp2
        (try any_goals (exfalso; have h_ := ‹some undef = some (Value.bool _)›; revert h_; simp [undef]; done))
        go_meet
        case rel => exact ⟨_, (decide ((l1.length : Int) > 6)), (by first | rfl | (simp; done) | (simp [*]; done)), H', ⟨by first | omega | exact Nat.le_refl _⟩, ⟨by repeat (first | (with_reducible first | exact HB.out | apply below_alloc | apply pw_below_drewN | apply below_drew1) | exact HB.out)⟩⟩
    case rest =>
      clear HC5
      try clear c1
      try clear p2
      try clear c4
      try clear c7
      try clear c7b0
      try clear c7b1
      obtain ⟨kq, x26_4, rfl, HA, HJ4, HB⟩ := hcut
      cases kq with
      | zero => exact absurd HA.out (by simp [parallaxlaw19_PercentOnce.j0])
      | succ kj4 =>
        have H := HA.out
        clear HA
        simp only [parallaxlaw19_PercentOnce.j0] at H
        by_cases c8 : x26_4 = true
        · subst c8
          rw [if_pos rfl] at H
          obtain rfl := Option.some.inj H
          go_wp2
          (try any_goals (exfalso; have h_ := ‹some undef = some (Value.bool _)›; revert h_; simp [undef]; done))
          go_ret
          exact ⟨by first | rfl | (simp [errW_none, errW_some] <;> rfl) | (simp [*, errW_none, errW_some] <;> rfl), by repeat (first | (with_reducible first | exact HB.out | apply below_alloc | apply pw_below_drewN | apply below_drew1) | exact HB.out)⟩
        · replace c8 := Bool.eq_false_iff.mpr c8
          subst c8
          rw [if_neg (show ¬ (false = true) by decide)] at H
          by_cases c9 : 1 + a0.size ≤ 9223372036854775807
          · rw [if_pos c9] at H
            have c9b0 := eq_true c9
            have c9b1 : decide (1 + a0.size ≤ 9223372036854775807) = true := decide_eq_true c9
            try have c9b2 : (9223372036854775807 < 1 + a0.size) = False := eq_false (Nat.not_lt.2 c9)
            replace H := Option.bind_eq_some_iff.mp H
            obtain ⟨t227, A100, H⟩ := H
            (try dsimp only at H)
            have A10 := Aside0.mk A100
            clear A100
            replace H := Option.bind_eq_some_iff.mp H
            obtain ⟨t228, A110, H⟩ := H
            have E_ : t227 = t228 := Option.some.inj (A10.out.symm.trans A110)
            subst E_
            (try dsimp only at H)
            have A11 := Aside0.mk A110
            clear A110
            by_cases c12 : t227.size + 1 ≤ 9223372036854775807
            · rw [if_pos c12] at H
              have c12b0 := eq_true c12
              have c12b1 : decide (t227.size + 1 ≤ 9223372036854775807) = true := decide_eq_true c12
              try have c12b2 : (9223372036854775807 < t227.size + 1) = False := eq_false (Nat.not_lt.2 c12)
              obtain ⟨y229, hy229⟩ : ∃ y_ : List ByteArray, y_ = (([(⟨#[47]⟩ : ByteArray) ++ a0, t227, t227 ++ (⟨#[47]⟩ : ByteArray)] : List ByteArray)) := ⟨_, rfl⟩
              replace H : (parallaxlaw19_PercentOnce.l0 kj4 y229 (y229.length : Int) 0) = some r := by first | (rw [hy229]; with_reducible exact H) | (have H2_ := (Option.bind_some _ _).symm.trans H; rw [hy229]; with_reducible exact H2_) | (have H2_ := (Option.bind_some _ _).symm.trans H; with_reducible exact H2_) | with_reducible exact H | (rw [hy229]; exact H) | exact H
              have Ny229 := Aside0.mk hy229
              clear hy229
              have H' := Aside0.mk H
              clear H
              go_wp2_with (first | ((with_reducible refine gate_callee (f := 8) rfl ?_); refine goesL_ (some 30) rfl rfl Tryd.func8 (by kernel_rfl) rfl #[.slice A1 l1.length c1] rfl (by (try simp only [List.map_toArray, List.map_cons, List.map_nil]); first | done | rfl | (simp only [List.length_drop, List.length_take]; rfl)) ?_; (with_reducible refine (parallaxseat_Path.calls kj4 _ _ l1 t227 _ ?side1 ?side2 A10.out).mono ?_); (case side1 => repeat (first | exact (Kd.C_below HR1.out HB.out) | (with_reducible refine Kd.C_alloc ?_ _) | (with_reducible refine Kd.C_drewN ?_ _) | (with_reducible refine Kd.C_drew ?_))); (case side2 => exact HC1.out); rintro e w13 ⟨rfl, hb⟩; refine ⟨_, rfl, ?_⟩; have n0_ := Aside0.mk (below_step (by repeat (first | (with_reducible first | exact HB.out | apply below_alloc | apply pw_below_drewN | apply below_drew1) | exact HB.out)) hb); clear HB; have HB := n0_; clear n0_; (try clear hb); (try clear hb2); (try clear hk); (try clear hi)) | ((with_reducible refine gate_callee (f := 8) rfl ?_); refine goesL_ (some 32) rfl rfl Tryd.func8 (by kernel_rfl) rfl #[.slice A1 l1.length c1] rfl (by (try simp only [List.map_toArray, List.map_cons, List.map_nil]); first | done | rfl | (simp only [List.length_drop, List.length_take]; rfl)) ?_; (with_reducible refine (parallaxseat_Path.calls kj4 _ _ l1 t227 _ ?side1 ?side2 A11.out).mono ?_); (case side1 => repeat (first | exact (Kd.C_below HR1.out HB.out) | (with_reducible refine Kd.C_alloc ?_ _) | (with_reducible refine Kd.C_drewN ?_ _) | (with_reducible refine Kd.C_drew ?_))); (case side2 => exact HC1.out); rintro e w14 ⟨rfl, hb⟩; refine ⟨_, rfl, ?_⟩; have n0_ := Aside0.mk (below_step (by repeat (first | (with_reducible first | exact HB.out | apply below_alloc | apply pw_below_drewN | apply below_drew1) | exact HB.out)) hb); clear HB; have HB := n0_; clear n0_; (try clear hb); (try clear hb2); (try clear hk); (try clear hi)) | ((with_reducible refine gate_dst (N := 34) rfl ?_); (try (refine gate_guard (by rfl) ?_; dsimp only)); refine Kd.R_lit Kd.string _ 9 ?hg (N := 34) ?hd (xs := ([(⟨#[47]⟩ : ByteArray) ++ a0, t227, t227 ++ (⟨#[47]⟩ : ByteArray)] : List ByteArray)) (inner := [.string ((⟨#[47]⟩ : ByteArray) ++ a0), .string t227, .string (t227 ++ (⟨#[47]⟩ : ByteArray))]) (ok := fun _ => True) (okp := fun _ => True) ?hr ?hp (fun _ hk => hk) trivial (Below.refl _ _) (Nat.le_refl _) (by simp) ?_; (case hd => rfl); (case hg => rfl); (case hr => first | (go_simp; done) | (go_simp; rfl)); (case hp => exact (Reps.one (show Kd.M Kd.string _ _ _ ((⟨#[47]⟩ : ByteArray) ++ a0) [.string ((⟨#[47]⟩ : ByteArray) ++ a0)] from rfl) (Reps.one (show Kd.M Kd.string _ _ _ t227 [.string t227] from rfl) (Reps.one (show Kd.M Kd.string _ _ _ (t227 ++ (⟨#[47]⟩ : ByteArray)) [.string (t227 ++ (⟨#[47]⟩ : ByteArray))] from rfl) (Reps.none _ _))))); intro v230 w15 ho16 hb hg_ hnew_; clear hg_ hnew_; (first | rw [← Ny229.out] at ho16 | (simp only [Int.reduceToNat] at ho16; rw [← Ny229.out] at ho16)); have n0_ := Aside0.mk (Kd.R_lower ho16 (below_size (by repeat (first | (with_reducible first | exact HB.out | apply below_alloc | apply pw_below_drewN | apply below_drew1) | exact HB.out)))); have n1_ := Aside0.mk (below_step (by repeat (first | (with_reducible first | exact HB.out | apply below_alloc | apply pw_below_drewN | apply below_drew1) | exact HB.out)) hb); clear HB; have HO231 := n0_; have HB := n1_; clear n0_ n1_; clear hb ho16; obtain ⟨Ao17, co17, eo17⟩ := Kd.R_slice HO231.out; subst eo17) | (go_at_call 8; (with_reducible refine (parallaxseat_Path.calls kj4 _ _ l1 t227 _ ?side1 ?side2 A10.out).mono ?_); (case side1 => repeat (first | exact (Kd.C_below HR1.out HB.out) | (with_reducible refine Kd.C_alloc ?_ _) | (with_reducible refine Kd.C_drewN ?_ _) | (with_reducible refine Kd.C_drew ?_))); (case side2 => exact HC1.out); rintro e w13 ⟨rfl, hb⟩; have n0_ := Aside0.mk (below_step (by repeat (first | (with_reducible first | exact HB.out | apply below_alloc | apply pw_below_drewN | apply below_drew1) | exact HB.out)) hb); clear HB; have HB := n0_; clear n0_; (try clear hb); (try clear hb2); (try clear hk); (try clear hi)) | (go_at_call 8; (with_reducible refine (parallaxseat_Path.calls kj4 _ _ l1 t227 _ ?side1 ?side2 A11.out).mono ?_); (case side1 => repeat (first | exact (Kd.C_below HR1.out HB.out) | (with_reducible refine Kd.C_alloc ?_ _) | (with_reducible refine Kd.C_drewN ?_ _) | (with_reducible refine Kd.C_drew ?_))); (case side2 => exact HC1.out); rintro e w14 ⟨rfl, hb⟩; have n0_ := Aside0.mk (below_step (by repeat (first | (with_reducible first | exact HB.out | apply below_alloc | apply pw_below_drewN | apply below_drew1) | exact HB.out)) hb); clear HB; have HB := n0_; clear n0_; (try clear hb); (try clear hb2); (try clear hk); (try clear hi)))
              (try any_goals (exfalso; have h_ := ‹some undef = some (Value.bool _)›; revert h_; simp [undef]; done))
              go_loopg [36] kj4 (fun kq v36 w' => ∃ (x36_2 : Int), v36 = .int .i64 x36_2 ∧ Aside0 (parallaxlaw19_PercentOnce.l0 kq y229 (y229.length : Int) x36_2 = some r) ∧ Aside0 (kq ≤ kj4) ∧ Aside0 (Kd.R Kd.string 9 w' w.heap.size (fun _ => True) (.slice Ao17 y229.length co17) y229) ∧ Aside0 (Below w.heap.size w w'))
              case atStart => exact ⟨(0), (by first | rfl | (simp; done) | (simp [*]; done)), H', ⟨Nat.le_refl _⟩, ⟨by (with_reducible repeat (first | apply Kd.R_alloc | apply Kd.R_drewN | apply Kd.R_drew)); exact HO231.out⟩, ⟨by repeat (first | (with_reducible first | exact HB.out | apply below_alloc | apply pw_below_drewN | apply below_drew1) | exact HB.out)⟩⟩
              case round =>
                clear H'
                try clear c1
                try clear p2
                try clear c4
                try clear c7
                try clear c7b0
                try clear c7b1
                try clear c8
                try clear c9
                try clear c9b0
                try clear c9b1
                try clear c9b2
                try clear c12
                try clear c12b0
                try clear c12b1
                try clear c12b2
                try clear p2
                obtain ⟨x36_2, rfl, HA, HK2, HO_34, HB⟩ := hrel
                cases gk with
                | zero => exact absurd HA.out (by simp [parallaxlaw19_PercentOnce.l0])
                | succ k2 =>
                  have H := HA.out
                  clear HA
                  simp only [parallaxlaw19_PercentOnce.l0] at H
                  by_cases c18 : x36_2 < (y229.length : Int)
                  · rw [if_pos c18] at H
                    have c18b0 : decide (x36_2 < (y229.length : Int)) = true := decide_eq_true c18
                    clear c18
                    have HC19 := Aside0.mk H
                    clear H
                    go_upto_block 1 with (fail)
                    go_cut [] (fun wc => ∃ (kq : Nat), Aside0 (parallaxlaw19_PercentOnce.j5 kq y229 (y229.length : Int) x36_2 = some r) ∧ Aside0 (kq ≤ k2) ∧ Aside0 (Kd.R Kd.string 9 wc w.heap.size (fun _ => True) (.slice Ao17 y229.length co17) y229) ∧ Aside0 (Below w.heap.size w wc))
                    case first =>
                      have H := HC19.out
                      clear HC19
                      by_cases c20 : 0 ≤ x36_2
                      · rw [if_pos c20] at H
                        have c20b0 : decide (0 ≤ x36_2) = true := decide_eq_true c20
                        clear c20
                        (first | rw [c20b0] | (simp only [i64_w, i32_w]; rw [c20b0]) | skip)
                        by_cases c21 : x36_2 < (y229.length : Int)
                        · rw [if_pos c21] at H
                          have c21b0 : decide (x36_2 < (y229.length : Int)) = true := decide_eq_true c21
                          clear c21
                          replace H := Option.bind_eq_some_iff.mp H
                          obtain ⟨⟨t233, t234⟩, A220, H⟩ := H
                          (try dsimp only at H)
                          have A22 := Aside0.mk A220
                          clear A220
                          by_cases c23 : t234 = true
                          · subst c23
                            rw [if_pos rfl] at H
                            replace H := Option.bind_eq_some_iff.mp H
                            obtain ⟨⟨t235, t236⟩, A240, H⟩ := H
                            (try dsimp only at H)
                            have A24 := Aside0.mk A240
                            clear A240
                            have HC25 := Aside0.mk H
                            clear H
                            have p232 : 0 ≤ (x36_2 : Int) := of_decide_eq_true (by first | (with_reducible assumption) | assumption)
                            have q232 : x36_2 < (y229.length : Int) := of_decide_eq_true (by first | (with_reducible assumption) | assumption)
                            obtain ⟨ad232, e232, hx232_0⟩ := Kd.at_string (Kd.R_reads' HO_34.out).2.2 x36_2 p232 q232
                            cases e232
                            replace p232 := eq_true p232
                            replace q232 := eq_true q232
                            go_upto_region 11 with (first | ((with_reducible refine gate_callee (f := 9) rfl ?_); refine goesL_ (some 42) rfl rfl Tryd.func9 (by kernel_rfl) rfl #[.string (rdOf ByteArray.empty y229 x36_2)] rfl (by (try simp only [List.map_toArray, List.map_cons, List.map_nil]); first | done | rfl | (simp only [List.length_drop, List.length_take]; rfl)) ?_; (with_reducible refine (percent_Norm.calls k2 (rdOf ByteArray.empty y229 x36_2) t233 true _ A22.out).mono ?_); rintro e w26 ⟨rfl, hb⟩; refine ⟨_, rfl, ?_⟩; have n0_ := Aside0.mk (Kd.R_below (by (with_reducible repeat (first | apply Kd.R_alloc | apply Kd.R_drewN | apply Kd.R_drew)); exact HO_34.out) hb); have n1_ := Aside0.mk (below_step (by repeat (first | (with_reducible first | exact HB.out | apply below_alloc | apply pw_below_drewN | apply below_drew1) | exact HB.out)) hb); clear HO_34; clear HB; have HO_34 := n0_; have HB := n1_; clear n0_ n1_; (try clear hb); (try clear hb2); (try clear hk); (try clear hi)) | ((with_reducible refine gate_callee (f := 9) rfl ?_); refine goesL_ (some 49) rfl rfl Tryd.func9 (by kernel_rfl) rfl #[.string t233] rfl (by (try simp only [List.map_toArray, List.map_cons, List.map_nil]); first | done | rfl | (simp only [List.length_drop, List.length_take]; rfl)) ?_; (with_reducible refine (percent_Norm.calls k2 t233 t235 t236 _ A24.out).mono ?_); rintro e w27 ⟨rfl, hb⟩; refine ⟨_, rfl, ?_⟩; have n0_ := Aside0.mk (Kd.R_below (by (with_reducible repeat (first | apply Kd.R_alloc | apply Kd.R_drewN | apply Kd.R_drew)); exact HO_34.out) hb); have n1_ := Aside0.mk (below_step (by repeat (first | (with_reducible first | exact HB.out | apply below_alloc | apply pw_below_drewN | apply below_drew1) | exact HB.out)) hb); clear HO_34; clear HB; have HO_34 := n0_; have HB := n1_; clear n0_ n1_; (try clear hb); (try clear hb2); (try clear hk); (try clear hi)))
                            (try simp only [Act.put, List.setIfInBounds_toArray, List.set_cons_zero, List.set_cons_succ])
                            go_cut [67] (fun v67 wc => ∃ (kq : Nat) (x67_24 : Bool), v67 = .bool x67_24 ∧ Aside0 (parallaxlaw19_PercentOnce.j2 kq (rdOf ByteArray.empty y229 x36_2) t233 y229 (y229.length : Int) x36_2 x67_24 = some r) ∧ Aside0 (kq ≤ k2) ∧ Aside0 (Kd.R Kd.string 9 wc w.heap.size (fun _ => True) (.slice (some ad232) y229.length co17) y229) ∧ Aside0 (Below w.heap.size w wc))
                            case first =>
                              have H := HC25.out
                              clear HC25
                              by_cases c28 : t236 = true
                              · subst c28
                                rw [if_pos rfl] at H
                                by_cases c29 : t233.toList = t235.toList
                                · rw [if_pos c29] at H
                                  have c29b0 : (t233.toList == t235.toList) = true := beq_iff_eq.mpr c29
                                  have c29b1 : (t233.toList != t235.toList) = false := bne_eq_false_iff_eq.mpr c29
                                  clear c29
                                  (first | rw [c29b0] | (simp only [i64_w, i32_w]; rw [c29b0]) | skip)
                                  by_cases c30 : t233.toList = ([] : List UInt8)
                                  · rw [if_pos c30] at H
                                    have c30b0 : (t233.toList == ([] : List UInt8)) = true := beq_iff_eq.mpr c30
                                    have c30b1 : (t233.toList != ([] : List UInt8)) = false := bne_eq_false_iff_eq.mpr c30
                                    clear c30
                                    have H' := Aside0.mk H
                                    clear H
                                    go_wp2
                                    (try any_goals (exfalso; have h_ := ‹some undef = some (Value.bool _)›; revert h_; simp [undef]; done))
                                    go_meet
                                    case rel => exact ⟨_, (true), (by first | rfl | (simp; done) | (simp [*]; done)), H', ⟨by have := HJ4.out; have := HK2.out; first | omega | exact Nat.le_refl _⟩, ⟨by (with_reducible repeat (first | apply Kd.R_alloc | apply Kd.R_drewN | apply Kd.R_drew)); exact HO_34.out⟩, ⟨by repeat (first | (with_reducible first | exact HB.out | apply below_alloc | apply pw_below_drewN | apply below_drew1) | exact HB.out)⟩⟩
                                  · rw [if_neg c30] at H
                                    have c30b0 : (t233.toList == ([] : List UInt8)) = false := beq_eq_false_iff_ne.mpr c30
                                    have c30b1 : (t233.toList != ([] : List UInt8)) = true := bne_iff_ne.mpr c30
                                    by_cases c31 : 0 < (t233.size : Int)
                                    · rw [if_pos c31] at H
                                      have c31b0 : decide (0 < (t233.size : Int)) = true := decide_eq_true c31
                                      have c31b1 : decide (0 < t233.size) = true := decide_eq_true (by omega)
                                      clear c31
                                      have H' := Aside0.mk H
                                      clear H
                                      have p32 : 0 ≤ (0 : Int) := (by omega)
                                      have q32 : 0 < t233.size := (by have : (0 : Int) < (t233.size : Int) := of_decide_eq_true (by first | (with_reducible assumption) | assumption); omega)
                                      have hx32 : ∀ h : 0 < t233.size, ((t233[0]'h).toNat : Int) = bt t233 0 := bt_at t233 0
                                      clear p32
                                      have qi32 : (0 < (t233.size : Int)) = True := eq_true (of_decide_eq_true (by first | (with_reducible assumption) | assumption))
                                      replace q32 := eq_true q32
                                      go_wp2
                                      (try any_goals (exfalso; have h_ := ‹some undef = some (Value.bool _)›; revert h_; simp [undef]; done))
                                      go_meet
                                      case rel => exact ⟨_, (((bt t233 0) != 47)), (by first | rfl | (simp; done) | (simp [*]; done)), H', ⟨by have := HJ4.out; have := HK2.out; first | omega | exact Nat.le_refl _⟩, ⟨by (with_reducible repeat (first | apply Kd.R_alloc | apply Kd.R_drewN | apply Kd.R_drew)); exact HO_34.out⟩, ⟨by repeat (first | (with_reducible first | exact HB.out | apply below_alloc | apply pw_below_drewN | apply below_drew1) | exact HB.out)⟩⟩
                                    · rw [if_neg c31] at H
                                      exact absurd H (by simp)
                                · rw [if_neg c29] at H
                                  have c29b0 : (t233.toList == t235.toList) = false := beq_eq_false_iff_ne.mpr c29
                                  have c29b1 : (t233.toList != t235.toList) = true := bne_iff_ne.mpr c29
                                  (first | rw [c29b0] | (simp only [i64_w, i32_w]; rw [c29b0]) | skip)
                                  have H' := Aside0.mk H
                                  clear H
                                  go_wp2
                                  (try any_goals (exfalso; have h_ := ‹some undef = some (Value.bool _)›; revert h_; simp [undef]; done))
                                  go_meet
                                  case rel => exact ⟨_, (true), (by first | rfl | (simp; done) | (simp [*]; done)), H', ⟨by have := HJ4.out; have := HK2.out; first | omega | exact Nat.le_refl _⟩, ⟨by (with_reducible repeat (first | apply Kd.R_alloc | apply Kd.R_drewN | apply Kd.R_drew)); exact HO_34.out⟩, ⟨by repeat (first | (with_reducible first | exact HB.out | apply below_alloc | apply pw_below_drewN | apply below_drew1) | exact HB.out)⟩⟩
                              · replace c28 := Bool.eq_false_iff.mpr c28
                                subst c28
                                rw [if_neg (show ¬ (false = true) by decide)] at H
                                have H' := Aside0.mk H
                                clear H
                                go_wp2
                                (try any_goals (exfalso; have h_ := ‹some undef = some (Value.bool _)›; revert h_; simp [undef]; done))
                                go_meet
                                case rel => exact ⟨_, (true), (by first | rfl | (simp; done) | (simp [*]; done)), H', ⟨by have := HJ4.out; have := HK2.out; first | omega | exact Nat.le_refl _⟩, ⟨by (with_reducible repeat (first | apply Kd.R_alloc | apply Kd.R_drewN | apply Kd.R_drew)); exact HO_34.out⟩, ⟨by repeat (first | (with_reducible first | exact HB.out | apply below_alloc | apply pw_below_drewN | apply below_drew1) | exact HB.out)⟩⟩
                            case rest =>
                              clear HC25
                              try clear c1
                              try clear c2
                              try clear p2
                              try clear q2
                              try clear hx2
                              try clear c3
                              try clear p3
                              try clear q3
                              try clear hx3
                              try clear qi3
                              try clear c4
                              try clear c7
                              try clear c7b0
                              try clear c7b1
                              try clear c8
                              try clear c9
                              try clear c9b0
                              try clear c9b1
                              try clear c9b2
                              try clear c12
                              try clear c12b0
                              try clear c12b1
                              try clear c12b2
                              try clear c18
                              try clear c18b0
                              try clear c20
                              try clear c20b0
                              try clear c21
                              try clear c21b0
                              try clear c23
                              try clear p23
                              try clear q23
                              try clear hx23
                              try clear c28
                              try clear c29
                              try clear c29b0
                              try clear c29b1
                              try clear c30
                              try clear c30b0
                              try clear c30b1
                              try clear c31
                              try clear c31b0
                              try clear c31b1
                              try clear p32
                              try clear q32
                              try clear hx32
                              try clear qi32
                              try clear hx232_0
                              try clear p2
                              try clear p232
                              try clear p32
                              try clear q232
                              try clear q32
                              obtain ⟨kq, x67_24, rfl, HA, HJ24, HO_34, HB⟩ := hcut
                              cases kq with
                              | zero => exact absurd HA.out (by simp [parallaxlaw19_PercentOnce.j2])
                              | succ kj24 =>
                                have H := HA.out
                                clear HA
                                simp only [parallaxlaw19_PercentOnce.j2] at H
                                by_cases c33 : x67_24 = true
                                · subst c33
                                  rw [if_pos rfl] at H
                                  exact absurd ((Option.some.inj H).trans HT.out) (by decide)
                                · replace c33 := Bool.eq_false_iff.mpr c33
                                  subst c33
                                  rw [if_neg (show ¬ (false = true) by decide)] at H
                                  replace H := Option.bind_eq_some_iff.mp H
                                  obtain ⟨t237, A340, H⟩ := H
                                  (try dsimp only at H)
                                  have A34 := Aside0.mk A340
                                  clear A340
                                  have H' := Aside0.mk H
                                  clear H
                                  go_wp2_with (first | ((with_reducible refine gate_callee (f := 14) rfl ?_); refine goesL_ (some 69) rfl rfl Tryd.func14 (by kernel_rfl) rfl #[.string t233] rfl (by (try simp only [List.map_toArray, List.map_cons, List.map_nil]); first | done | rfl | (simp only [List.length_drop, List.length_take]; rfl)) ?_; (with_reducible refine (percent_Segments.calls kj24 t233 t237 _ A34.out).mono ?_); rintro e w35 ⟨v238, rfl, ho0, hb⟩; refine ⟨_, rfl, ?_⟩; have n0_ := Aside0.mk (Kd.R_elder' (by (with_reducible repeat (first | apply Kd.R_alloc | apply Kd.R_drewN | apply Kd.R_drew)); exact HO_34.out) (Kd.R_base ho0) hb); have n1_ := Aside0.mk (Kd.R_lower (Kd.R_new' ho0 (Kd.R_lt (by (with_reducible repeat (first | apply Kd.R_alloc | apply Kd.R_drewN | apply Kd.R_drew)); exact HO_34.out))) (below_size (by repeat (first | (with_reducible first | exact HB.out | apply below_alloc | apply pw_below_drewN | apply below_drew1) | exact HB.out)))); have n2_ := Aside0.mk (below_step (by repeat (first | (with_reducible first | exact HB.out | apply below_alloc | apply pw_below_drewN | apply below_drew1) | exact HB.out)) hb); clear HO_34; clear HB; have HO_34 := n0_; have HO239 := n1_; have HB := n2_; clear n0_ n1_ n2_; (try clear hb); (try clear hb2); (try clear hk); (try clear hi); (try clear ho0)) | (go_at_call 14; (with_reducible refine (percent_Segments.calls kj24 t233 t237 _ A34.out).mono ?_); rintro e w35 ⟨v238, rfl, ho0, hb⟩; have n0_ := Aside0.mk (Kd.R_elder' (by (with_reducible repeat (first | apply Kd.R_alloc | apply Kd.R_drewN | apply Kd.R_drew)); exact HO_34.out) (Kd.R_base ho0) hb); have n1_ := Aside0.mk (Kd.R_lower (Kd.R_new' ho0 (Kd.R_lt (by (with_reducible repeat (first | apply Kd.R_alloc | apply Kd.R_drewN | apply Kd.R_drew)); exact HO_34.out))) (below_size (by repeat (first | (with_reducible first | exact HB.out | apply below_alloc | apply pw_below_drewN | apply below_drew1) | exact HB.out)))); have n2_ := Aside0.mk (below_step (by repeat (first | (with_reducible first | exact HB.out | apply below_alloc | apply pw_below_drewN | apply below_drew1) | exact HB.out)) hb); clear HO_34; clear HB; have HO_34 := n0_; have HO239 := n1_; have HB := n2_; clear n0_ n1_ n2_; (try clear hb); (try clear hb2); (try clear hk); (try clear hi); (try clear ho0)))
                                  (try any_goals (exfalso; have h_ := ‹some undef = some (Value.bool _)›; revert h_; simp [undef]; done))
                                  go_loopg [12] kj24 (fun kq v12 w' => ∃ (x12_4 : Int), v12 = .int .i64 x12_4 ∧ Aside0 (parallaxlaw19_PercentOnce.l1 kq (rdOf ByteArray.empty y229 x36_2) t233 t237 x12_4 y229 (y229.length : Int) x36_2 = some r) ∧ Aside0 (kq ≤ kj24) ∧ Aside0 (Kd.R Kd.string 9 w' w.heap.size (fun k_ => some k_ ≠ ((.slice (some ad232) y229.length co17) : Value).ownBlock) v238 t237) ∧ Aside0 (Kd.R Kd.string 9 w' w.heap.size (fun k_ => some k_ ≠ (v238 : Value).ownBlock) (.slice (some ad232) y229.length co17) y229) ∧ Aside0 (Below w.heap.size w w'))
                                  case atStart => exact ⟨(0), (by first | rfl | (simp; done) | (simp [*]; done)), H', ⟨Nat.le_refl _⟩, ⟨by (with_reducible repeat (first | apply Kd.R_alloc | apply Kd.R_drewN | apply Kd.R_drew)); exact Kd.R_mono HO239.out (fun _ hk => (by first | exact hk.2 | exact True.intro))⟩, ⟨by (with_reducible repeat (first | apply Kd.R_alloc | apply Kd.R_drewN | apply Kd.R_drew)); exact Kd.R_mono HO_34.out (fun _ hk => (by first | exact hk.2 | exact True.intro))⟩, ⟨by repeat (first | (with_reducible first | exact HB.out | apply below_alloc | apply pw_below_drewN | apply below_drew1) | exact HB.out)⟩⟩
                                  case round =>
                                    clear H'
                                    try clear c1
                                    try clear c2
                                    try clear p2
                                    try clear q2
                                    try clear hx2
                                    try clear c3
                                    try clear p3
                                    try clear q3
                                    try clear hx3
                                    try clear qi3
                                    try clear c4
                                    try clear c7
                                    try clear c7b0
                                    try clear c7b1
                                    try clear c8
                                    try clear c9
                                    try clear c9b0
                                    try clear c9b1
                                    try clear c9b2
                                    try clear c12
                                    try clear c12b0
                                    try clear c12b1
                                    try clear c12b2
                                    try clear c14
                                    try clear c18
                                    try clear c18b0
                                    try clear c20
                                    try clear c20b0
                                    try clear c21
                                    try clear c21b0
                                    try clear c23
                                    try clear p23
                                    try clear q23
                                    try clear hx23
                                    try clear c28
                                    try clear c29
                                    try clear c29b0
                                    try clear c29b1
                                    try clear c30
                                    try clear c30b0
                                    try clear c30b1
                                    try clear c31
                                    try clear c31b0
                                    try clear c31b1
                                    try clear p32
                                    try clear q32
                                    try clear hx32
                                    try clear qi32
                                    try clear c33
                                    try clear hx232_0
                                    try clear p2
                                    try clear p23
                                    try clear p232
                                    try clear p3
                                    try clear p32
                                    try clear q2
                                    try clear q23
                                    try clear q232
                                    try clear q3
                                    try clear q32
                                    obtain ⟨x12_4, rfl, HA, HK4, HO_11, HO_34, HB⟩ := hrel
                                    cases gk with
                                    | zero => exact absurd HA.out (by simp [parallaxlaw19_PercentOnce.l1])
                                    | succ k4 =>
                                      have H := HA.out
                                      clear HA
                                      simp only [parallaxlaw19_PercentOnce.l1] at H
                                      by_cases c36 : x12_4 < (t237.length : Int)
                                      · rw [if_pos c36] at H
                                        have c36b0 : decide (x12_4 < (t237.length : Int)) = true := decide_eq_true c36
                                        clear c36
                                        by_cases c37 : 0 ≤ x12_4
                                        · rw [if_pos c37] at H
                                          have c37b0 : decide (0 ≤ x12_4) = true := decide_eq_true c37
                                          clear c37
                                          by_cases c38 : (rdOf ByteArray.empty t237 x12_4).toList = ([46] : List UInt8)
                                          · rw [if_pos c38] at H
                                            have c38b0 : ((rdOf ByteArray.empty t237 x12_4).toList == ([46] : List UInt8)) = true := beq_iff_eq.mpr c38
                                            have c38b1 : ((rdOf ByteArray.empty t237 x12_4).toList != ([46] : List UInt8)) = false := bne_eq_false_iff_eq.mpr c38
                                            clear c38
                                            exact absurd ((Option.some.inj H).trans HT.out) (by decide)
                                          · rw [if_neg c38] at H
                                            have c38b0 : ((rdOf ByteArray.empty t237 x12_4).toList == ([46] : List UInt8)) = false := beq_eq_false_iff_ne.mpr c38
                                            have c38b1 : ((rdOf ByteArray.empty t237 x12_4).toList != ([46] : List UInt8)) = true := bne_iff_ne.mpr c38
                                            by_cases c39 : (rdOf ByteArray.empty t237 x12_4).toList = ([46, 46] : List UInt8)
                                            · rw [if_pos c39] at H
                                              have c39b0 : ((rdOf ByteArray.empty t237 x12_4).toList == ([46, 46] : List UInt8)) = true := beq_iff_eq.mpr c39
                                              have c39b1 : ((rdOf ByteArray.empty t237 x12_4).toList != ([46, 46] : List UInt8)) = false := bne_eq_false_iff_eq.mpr c39
                                              clear c39
                                              exact absurd ((Option.some.inj H).trans HT.out) (by decide)
                                            · rw [if_neg c39] at H
                                              have c39b0 : ((rdOf ByteArray.empty t237 x12_4).toList == ([46, 46] : List UInt8)) = false := beq_eq_false_iff_ne.mpr c39
                                              have c39b1 : ((rdOf ByteArray.empty t237 x12_4).toList != ([46, 46] : List UInt8)) = true := bne_iff_ne.mpr c39
                                              have H' := Aside0.mk H
                                              clear H
                                              obtain ⟨Ao40, co40, eo40⟩ := Kd.R_slice HO_11.out
                                              subst eo40
                                              have p240 : 0 ≤ (x12_4 : Int) := of_decide_eq_true (by first | (with_reducible assumption) | assumption)
                                              have q240 : x12_4 < (t237.length : Int) := of_decide_eq_true (by first | (with_reducible assumption) | assumption)
                                              obtain ⟨ad240, e240, hx240_0⟩ := Kd.at_string (Kd.R_reads' HO_11.out).2.2 x12_4 p240 q240
                                              cases e240
                                              replace p240 := eq_true p240
                                              replace q240 := eq_true q240
                                              have p241 : 0 ≤ (x12_4 : Int) := of_decide_eq_true (by first | (with_reducible assumption) | assumption)
                                              have q241 : x12_4 < (t237.length : Int) := of_decide_eq_true (by first | (with_reducible assumption) | assumption)
                                              obtain ⟨ad241, e241, hx241_0⟩ := Kd.at_string (Kd.R_reads' HO_11.out).2.2 x12_4 p241 q241
                                              obtain rfl : ad240 = ad241 := (by injection e241)
                                              replace p241 := eq_true p241
                                              replace q241 := eq_true q241
                                              go_wp2
                                              (try any_goals (exfalso; have h_ := ‹some undef = some (Value.bool _)›; revert h_; simp [undef]; done))
                                              go_roundg k4
                                              case measure => have := HJ4.out; have := HK2.out; have := HJ24.out; have := HK4.out; omega
                                              case rel => exact ⟨(wrap64 (x12_4 + 1)), (by first | rfl | (simp; done) | (simp [*]; done)), H', ⟨by have := HJ4.out; have := HK2.out; have := HJ24.out; have := HK4.out; omega⟩, ⟨by (with_reducible repeat (first | apply Kd.R_alloc | apply Kd.R_drewN | apply Kd.R_drew)); exact HO_11.out⟩, ⟨by (with_reducible repeat (first | apply Kd.R_alloc | apply Kd.R_drewN | apply Kd.R_drew)); exact HO_34.out⟩, ⟨by repeat (first | (with_reducible first | exact HB.out | apply below_alloc | apply pw_below_drewN | apply below_drew1) | exact HB.out)⟩⟩
                                        · rw [if_neg c37] at H
                                          exact absurd H (by simp)
                                      · rw [if_neg c36] at H
                                        have c36b0 : decide (x12_4 < (t237.length : Int)) = false := decide_eq_false c36
                                        clear c36
                                        replace H := Option.bind_eq_some_iff.mp H
                                        obtain ⟨⟨t242, t243⟩, A410, H⟩ := H
                                        (try dsimp only at H)
                                        have A41 := Aside0.mk A410
                                        clear A410
                                        replace H := Option.bind_eq_some_iff.mp H
                                        obtain ⟨⟨t244, t245⟩, A420, H⟩ := H
                                        (try dsimp only at H)
                                        have A42 := Aside0.mk A420
                                        clear A420
                                        have HC43 := Aside0.mk H
                                        clear H
                                        obtain ⟨Ao44, co44, eo44⟩ := Kd.R_slice HO_11.out
                                        subst eo44
                                        go_upto_region 21 with (first | ((with_reducible refine gate_callee (f := 11) rfl ?_); refine goesL_ (some 90) rfl rfl Tryd.func11 (by kernel_rfl) rfl #[.string (rdOf ByteArray.empty y229 x36_2)] rfl (by (try simp only [List.map_toArray, List.map_cons, List.map_nil]); first | done | rfl | (simp only [List.length_drop, List.length_take]; rfl)) ?_; (with_reducible refine (percent_Decode.calls k4 (rdOf ByteArray.empty y229 x36_2) t242 t243 _ A41.out).mono ?_); rintro e w45 ⟨rfl, hb⟩; refine ⟨_, rfl, ?_⟩; have n0_ := Aside0.mk (Kd.R_below (by (with_reducible repeat (first | apply Kd.R_alloc | apply Kd.R_drewN | apply Kd.R_drew)); exact HO_11.out) hb); have n1_ := Aside0.mk (Kd.R_below (by (with_reducible repeat (first | apply Kd.R_alloc | apply Kd.R_drewN | apply Kd.R_drew)); exact HO_34.out) hb); have n2_ := Aside0.mk (below_step (by repeat (first | (with_reducible first | exact HB.out | apply below_alloc | apply pw_below_drewN | apply below_drew1) | exact HB.out)) hb); clear HO_11; clear HO_34; clear HB; have HO_11 := n0_; have HO_34 := n1_; have HB := n2_; clear n0_ n1_ n2_; (try clear hb); (try clear hb2); (try clear hk); (try clear hi)) | ((with_reducible refine gate_callee (f := 11) rfl ?_); refine goesL_ (some 95) rfl rfl Tryd.func11 (by kernel_rfl) rfl #[.string t233] rfl (by (try simp only [List.map_toArray, List.map_cons, List.map_nil]); first | done | rfl | (simp only [List.length_drop, List.length_take]; rfl)) ?_; (with_reducible refine (percent_Decode.calls k4 t233 t244 t245 _ A42.out).mono ?_); rintro e w46 ⟨rfl, hb⟩; refine ⟨_, rfl, ?_⟩; have n0_ := Aside0.mk (Kd.R_below (by (with_reducible repeat (first | apply Kd.R_alloc | apply Kd.R_drewN | apply Kd.R_drew)); exact HO_11.out) hb); have n1_ := Aside0.mk (Kd.R_below (by (with_reducible repeat (first | apply Kd.R_alloc | apply Kd.R_drewN | apply Kd.R_drew)); exact HO_34.out) hb); have n2_ := Aside0.mk (below_step (by repeat (first | (with_reducible first | exact HB.out | apply below_alloc | apply pw_below_drewN | apply below_drew1) | exact HB.out)) hb); clear HO_11; clear HO_34; clear HB; have HO_11 := n0_; have HO_34 := n1_; have HB := n2_; clear n0_ n1_ n2_; (try clear hb); (try clear hb2); (try clear hk); (try clear hi)))
                                        (try simp only [Act.put, List.setIfInBounds_toArray, List.set_cons_zero, List.set_cons_succ])
                                        go_cut [115] (fun v115 wc => ∃ (kq : Nat) (x115_42 : Bool), v115 = .bool x115_42 ∧ Aside0 (parallaxlaw19_PercentOnce.j4 kq y229 (y229.length : Int) x36_2 x115_42 = some r) ∧ Aside0 (kq ≤ k4) ∧ Aside0 (Kd.R Kd.string 9 wc w.heap.size (fun _ => True) (.slice (some ad232) y229.length co17) y229) ∧ Aside0 (Below w.heap.size w wc))
                                        case first =>
                                          have H := HC43.out
                                          clear HC43
                                          by_cases c47 : (t244.size : Int) > (t242.size : Int)
                                          · rw [if_pos c47] at H
                                            have c47b0 : decide ((t242.size : Int) < (t244.size : Int)) = true := decide_eq_true c47
                                            have c47b1 : decide (t242.size < t244.size) = true := decide_eq_true (Int.ofNat_lt.mp c47)
                                            clear c47
                                            (first | rw [c47b0] | (simp only [i64_w, i32_w]; rw [c47b0]) | skip)
                                            by_cases c48 : (t237.length : Int) > 1
                                            · rw [if_pos c48] at H
                                              have c48b0 : decide (1 < (t237.length : Int)) = true := decide_eq_true c48
                                              have c48b1 : decide (1 < t237.length) = true := decide_eq_true (by omega)
                                              clear c48
                                              obtain ⟨ji49, hji49⟩ : ∃ j_ : Int, (wrap64 ((t244.size : Int) - 1)) = j_ := ⟨_, rfl⟩
                                              replace H : (if 0 ≤ (ji49) then (if (ji49) < (t244.size : Int) then (parallaxlaw19_PercentOnce.j4 k4 y229 (y229.length : Int) x36_2 ((bt t244 (ji49)) != 47)) else (none)) else (none)) = some r := by first | (rw [hji49] at H; exact H) | (simp only [hji49] at H ⊢; exact H)
                                              have hji49w : (IntKind.i64.wrap ((t244.size : Int) - 1)) = ji49 := (i64_w _).trans hji49
                                              by_cases c50 : 0 ≤ (ji49)
                                              · rw [if_pos c50] at H
                                                have c50b0 : decide (0 ≤ (ji49)) = true := decide_eq_true c50
                                                clear c50
                                                by_cases c51 : (ji49) < (t244.size : Int)
                                                · rw [if_pos c51] at H
                                                  have c51b0 : decide ((ji49) < (t244.size : Int)) = true := decide_eq_true c51
                                                  clear c51
                                                  have H' := Aside0.mk H
                                                  clear H
                                                  have p52 : 0 ≤ ((ji49) : Int) := of_decide_eq_true (by first | (with_reducible assumption) | assumption)
                                                  have q52 : (ji49) < (t244.size : Int) := of_decide_eq_true (by first | (with_reducible assumption) | assumption)
                                                  have hx52 := bt_at t244 (ji49)
                                                  replace p52 := eq_true p52
                                                  replace q52 := eq_true q52
                                                  go_wp2
                                                  (try any_goals (exfalso; have h_ := ‹some undef = some (Value.bool _)›; revert h_; simp [undef]; done))
                                                  go_meet
                                                  case rel => exact ⟨_, (((bt t244 (ji49)) != 47)), (by first | rfl | (simp; done) | (simp only [← hji49] <;> (first | rfl | simp)) | (simp [*]; done)), H', ⟨by have := HJ4.out; have := HK2.out; have := HJ24.out; have := HK4.out; first | omega | exact Nat.le_refl _⟩, ⟨by (with_reducible repeat (first | apply Kd.R_alloc | apply Kd.R_drewN | apply Kd.R_drew)); exact Kd.R_mono HO_34.out (fun _ hk => trivial)⟩, ⟨by repeat (first | (with_reducible first | exact HB.out | apply below_alloc | apply pw_below_drewN | apply below_drew1) | exact HB.out)⟩⟩
                                                · rw [if_neg c51] at H
                                                  exact absurd H (by simp)
                                              · rw [if_neg c50] at H
                                                exact absurd H (by simp)
                                            · rw [if_neg c48] at H
                                              have c48b0 : decide (1 < (t237.length : Int)) = false := decide_eq_false c48
                                              have c48b1 : decide (1 < t237.length) = false := decide_eq_false (by omega)
                                              clear c48
                                              have H' := Aside0.mk H
                                              clear H
                                              go_wp2
                                              (try any_goals (exfalso; have h_ := ‹some undef = some (Value.bool _)›; revert h_; simp [undef]; done))
                                              go_meet
                                              case rel => exact ⟨_, (false), (by first | rfl | (simp; done) | (simp [*]; done)), H', ⟨by have := HJ4.out; have := HK2.out; have := HJ24.out; have := HK4.out; first | omega | exact Nat.le_refl _⟩, ⟨by (with_reducible repeat (first | apply Kd.R_alloc | apply Kd.R_drewN | apply Kd.R_drew)); exact Kd.R_mono HO_34.out (fun _ hk => trivial)⟩, ⟨by repeat (first | (with_reducible first | exact HB.out | apply below_alloc | apply pw_below_drewN | apply below_drew1) | exact HB.out)⟩⟩
                                          · rw [if_neg c47] at H
                                            have c47b0 : decide ((t242.size : Int) < (t244.size : Int)) = false := decide_eq_false c47
                                            have c47b1 : decide (t242.size < t244.size) = false := decide_eq_false (fun h => c47 (Int.ofNat_lt.mpr h))
                                            clear c47
                                            (first | rw [c47b0] | (simp only [i64_w, i32_w]; rw [c47b0]) | skip)
                                            have H' := Aside0.mk H
                                            clear H
                                            go_wp2
                                            (try any_goals (exfalso; have h_ := ‹some undef = some (Value.bool _)›; revert h_; simp [undef]; done))
                                            go_meet
                                            case rel => exact ⟨_, (false), (by first | rfl | (simp; done) | (simp [*]; done)), H', ⟨by have := HJ4.out; have := HK2.out; have := HJ24.out; have := HK4.out; first | omega | exact Nat.le_refl _⟩, ⟨by (with_reducible repeat (first | apply Kd.R_alloc | apply Kd.R_drewN | apply Kd.R_drew)); exact Kd.R_mono HO_34.out (fun _ hk => trivial)⟩, ⟨by repeat (first | (with_reducible first | exact HB.out | apply below_alloc | apply pw_below_drewN | apply below_drew1) | exact HB.out)⟩⟩
                                        case rest =>
                                          clear HC43
                                          try clear c1
                                          try clear c2
                                          try clear p2
                                          try clear q2
                                          try clear hx2
                                          try clear c3
                                          try clear p3
                                          try clear q3
                                          try clear hx3
                                          try clear qi3
                                          try clear c4
                                          try clear c5
                                          try clear p5
                                          try clear q5
                                          try clear hx5
                                          try clear p6
                                          try clear c7
                                          try clear c7b0
                                          try clear c7b1
                                          try clear c8
                                          try clear c9
                                          try clear c9b0
                                          try clear c9b1
                                          try clear c9b2
                                          try clear c11
                                          try clear c12
                                          try clear c12b0
                                          try clear c12b1
                                          try clear c12b2
                                          try clear c14
                                          try clear c18
                                          try clear c18b0
                                          try clear c20
                                          try clear c20b0
                                          try clear c21
                                          try clear c21b0
                                          try clear c23
                                          try clear p23
                                          try clear q23
                                          try clear hx23
                                          try clear p24
                                          try clear q24
                                          try clear hx24
                                          try clear c28
                                          try clear c29
                                          try clear c29b0
                                          try clear c29b1
                                          try clear c30
                                          try clear c30b0
                                          try clear c30b1
                                          try clear c31
                                          try clear c31b0
                                          try clear c31b1
                                          try clear p32
                                          try clear q32
                                          try clear hx32
                                          try clear qi32
                                          try clear c33
                                          try clear c36
                                          try clear c36b0
                                          try clear c37
                                          try clear c37b0
                                          try clear c38
                                          try clear c38b0
                                          try clear c38b1
                                          try clear c39
                                          try clear c39b0
                                          try clear c39b1
                                          try clear c47
                                          try clear c47b0
                                          try clear c47b1
                                          try clear c48
                                          try clear c48b0
                                          try clear c48b1
                                          try clear c50
                                          try clear c50b0
                                          try clear c51
                                          try clear c51b0
                                          try clear p52
                                          try clear q52
                                          try clear hx52
                                          try clear hx232_0
                                          try clear hx240_0
                                          try clear hx241_0
                                          try clear p2
                                          try clear p23
                                          try clear p232
                                          try clear p240
                                          try clear p241
                                          try clear p3
                                          try clear p32
                                          try clear p52
                                          try clear q2
                                          try clear q23
                                          try clear q232
                                          try clear q240
                                          try clear q241
                                          try clear q3
                                          try clear q32
                                          try clear q52
                                          obtain ⟨kq, x115_42, rfl, HA, HJ42, HO_34, HB⟩ := hcut
                                          cases kq with
                                          | zero => exact absurd HA.out (by simp [parallaxlaw19_PercentOnce.j4])
                                          | succ kj42 =>
                                            have H := HA.out
                                            clear HA
                                            simp only [parallaxlaw19_PercentOnce.j4] at H
                                            by_cases c53 : x115_42 = true
                                            · subst c53
                                              rw [if_pos rfl] at H
                                              exact absurd ((Option.some.inj H).trans HT.out) (by decide)
                                            · replace c53 := Bool.eq_false_iff.mpr c53
                                              subst c53
                                              rw [if_neg (show ¬ (false = true) by decide)] at H
                                              have H' := Aside0.mk H
                                              clear H
                                              go_wp2
                                              (try any_goals (exfalso; have h_ := ‹some undef = some (Value.bool _)›; revert h_; simp [undef]; done))
                                              go_meet
                                              case rel => exact ⟨_, H', ⟨by have := HJ4.out; have := HK2.out; have := HJ24.out; have := HK4.out; have := HJ42.out; first | omega | exact Nat.le_refl _⟩, ⟨by (with_reducible repeat (first | apply Kd.R_alloc | apply Kd.R_drewN | apply Kd.R_drew)); exact HO_34.out⟩, ⟨by repeat (first | (with_reducible first | exact HB.out | apply below_alloc | apply pw_below_drewN | apply below_drew1) | exact HB.out)⟩⟩
                          · replace c23 := Bool.eq_false_iff.mpr c23
                            subst c23
                            rw [if_neg (show ¬ (false = true) by decide)] at H
                            have H' := Aside0.mk H
                            clear H
                            have p232 : 0 ≤ (x36_2 : Int) := of_decide_eq_true (by first | (with_reducible assumption) | assumption)
                            have q232 : x36_2 < (y229.length : Int) := of_decide_eq_true (by first | (with_reducible assumption) | assumption)
                            obtain ⟨ad232, e232, hx232_0⟩ := Kd.at_string (Kd.R_reads' HO_34.out).2.2 x36_2 p232 q232
                            cases e232
                            replace p232 := eq_true p232
                            replace q232 := eq_true q232
                            go_wp2_with (first | ((with_reducible refine gate_callee (f := 9) rfl ?_); refine goesL_ (some 42) rfl rfl Tryd.func9 (by kernel_rfl) rfl #[.string (rdOf ByteArray.empty y229 x36_2)] rfl (by (try simp only [List.map_toArray, List.map_cons, List.map_nil]); first | done | rfl | (simp only [List.length_drop, List.length_take]; rfl)) ?_; (with_reducible refine (percent_Norm.calls k2 (rdOf ByteArray.empty y229 x36_2) t233 false _ A22.out).mono ?_); rintro e w54 ⟨rfl, hb⟩; refine ⟨_, rfl, ?_⟩; have n0_ := Aside0.mk (Kd.R_below (by (with_reducible repeat (first | apply Kd.R_alloc | apply Kd.R_drewN | apply Kd.R_drew)); exact HO_34.out) hb); have n1_ := Aside0.mk (below_step (by repeat (first | (with_reducible first | exact HB.out | apply below_alloc | apply pw_below_drewN | apply below_drew1) | exact HB.out)) hb); clear HO_34; clear HB; have HO_34 := n0_; have HB := n1_; clear n0_ n1_; (try clear hb); (try clear hb2); (try clear hk); (try clear hi)) | (go_at_call 9; (with_reducible refine (percent_Norm.calls k2 (rdOf ByteArray.empty y229 x36_2) t233 false _ A22.out).mono ?_); rintro e w54 ⟨rfl, hb⟩; have n0_ := Aside0.mk (Kd.R_below (by (with_reducible repeat (first | apply Kd.R_alloc | apply Kd.R_drewN | apply Kd.R_drew)); exact HO_34.out) hb); have n1_ := Aside0.mk (below_step (by repeat (first | (with_reducible first | exact HB.out | apply below_alloc | apply pw_below_drewN | apply below_drew1) | exact HB.out)) hb); clear HO_34; clear HB; have HO_34 := n0_; have HB := n1_; clear n0_ n1_; (try clear hb); (try clear hb2); (try clear hk); (try clear hi)))
                            (try any_goals (exfalso; have h_ := ‹some undef = some (Value.bool _)›; revert h_; simp [undef]; done))
                            go_meet
                            case rel => exact ⟨_, H', ⟨by have := HJ4.out; have := HK2.out; first | omega | exact Nat.le_refl _⟩, ⟨by (with_reducible repeat (first | apply Kd.R_alloc | apply Kd.R_drewN | apply Kd.R_drew)); exact HO_34.out⟩, ⟨by repeat (first | (with_reducible first | exact HB.out | apply below_alloc | apply pw_below_drewN | apply below_drew1) | exact HB.out)⟩⟩
                        · rw [if_neg c21] at H
                          exact absurd H (by simp)
                      · rw [if_neg c20] at H
                        exact absurd H (by simp)
                    case rest =>
                      clear HC19
                      try clear c1
                      try clear c2
                      try clear p2
                      try clear q2
                      try clear hx2
                      try clear c3
                      try clear p3
                      try clear q3
                      try clear hx3
                      try clear qi3
                      try clear c4
                      try clear c5
                      try clear p5
                      try clear q5
                      try clear hx5
                      try clear p6
                      try clear c7
                      try clear c7b0
                      try clear c7b1
                      try clear c8
                      try clear c9
                      try clear c9b0
                      try clear c9b1
                      try clear c9b2
                      try clear c11
                      try clear c12
                      try clear c12b0
                      try clear c12b1
                      try clear c12b2
                      try clear c14
                      try clear c18
                      try clear c18b0
                      try clear c20
                      try clear c20b0
                      try clear c21
                      try clear c21b0
                      try clear c23
                      try clear p23
                      try clear q23
                      try clear hx23
                      try clear p24
                      try clear q24
                      try clear hx24
                      try clear c28
                      try clear c29
                      try clear c29b0
                      try clear c29b1
                      try clear c30
                      try clear c30b0
                      try clear c30b1
                      try clear c31
                      try clear c31b0
                      try clear c31b1
                      try clear p32
                      try clear q32
                      try clear hx32
                      try clear qi32
                      try clear c33
                      try clear c36
                      try clear c36b0
                      try clear c37
                      try clear c37b0
                      try clear c38
                      try clear c38b0
                      try clear c38b1
                      try clear c39
                      try clear c39b0
                      try clear c39b1
                      try clear c47
                      try clear c47b0
                      try clear c47b1
                      try clear c48
                      try clear c48b0
                      try clear c48b1
                      try clear c50
                      try clear c50b0
                      try clear c51
                      try clear c51b0
                      try clear p52
                      try clear q52
                      try clear hx52
                      try clear c53
                      try clear hx232_0
                      try clear hx240_0
                      try clear hx241_0
                      try clear p2
                      try clear p23
                      try clear p232
                      try clear p24
                      try clear p240
                      try clear p241
                      try clear p3
                      try clear p32
                      try clear p5
                      try clear p52
                      try clear p6
                      try clear q2
                      try clear q23
                      try clear q232
                      try clear q24
                      try clear q240
                      try clear q241
                      try clear q3
                      try clear q32
                      try clear q5
                      try clear q52
                      obtain ⟨kq, HA, HJ18, HO_34, HB⟩ := hcut
                      cases kq with
                      | zero => exact absurd HA.out (by simp [parallaxlaw19_PercentOnce.j5])
                      | succ kj18 =>
                        have H := HA.out
                        clear HA
                        simp only [parallaxlaw19_PercentOnce.j5] at H
                        have H' := Aside0.mk H
                        clear H
                        go_wp2
                        (try any_goals (exfalso; have h_ := ‹some undef = some (Value.bool _)›; revert h_; simp [undef]; done))
                        go_roundg kj18
                        case measure => have := HJ4.out; have := HK2.out; have := HJ18.out; omega
                        case rel => exact ⟨(wrap64 (x36_2 + 1)), (by first | rfl | (simp; done) | (simp [*]; done)), H', ⟨by have := HJ4.out; have := HK2.out; have := HJ18.out; omega⟩, ⟨by (with_reducible repeat (first | apply Kd.R_alloc | apply Kd.R_drewN | apply Kd.R_drew)); exact HO_34.out⟩, ⟨by repeat (first | (with_reducible first | exact HB.out | apply below_alloc | apply pw_below_drewN | apply below_drew1) | exact HB.out)⟩⟩
                  · rw [if_neg c18] at H
                    have c18b0 : decide (x36_2 < (y229.length : Int)) = false := decide_eq_false c18
                    clear c18
                    obtain rfl := Option.some.inj H
                    go_wp2
                    (try any_goals (exfalso; have h_ := ‹some undef = some (Value.bool _)›; revert h_; simp [undef]; done))
                    go_ret
                    exact ⟨by first | rfl | (simp [errW_none, errW_some] <;> rfl) | (simp [*, errW_none, errW_some] <;> rfl), by repeat (first | (with_reducible first | exact HB.out | apply below_alloc | apply pw_below_drewN | apply below_drew1) | exact HB.out)⟩
            · rw [if_neg c12] at H
              exact absurd H (by simp)
          · rw [if_neg c9] at H
            exact absurd H (by simp)
  · replace c4 := Bool.eq_false_iff.mpr c4
    subst c4
    rw [if_neg (show ¬ (false = true) by decide)] at H
    exact absurd ((Option.some.inj H).trans HT.out) (by decide)

/-- THE ONE PURE STATEMENT of parallaxlaw19_PercentOnce: yours. -/
def parallaxlaw19_PercentOnce.Pure : Prop := ∀ (a0 : ByteArray) (l1 : List Int), a0.size ≤ 140737488351232 → l1.length ≤ maxLen → l1.length * 1 ≤ 140737488351232 → (∀ x ∈ l1, (Lit.int .u8 x).wf = true) → ∃ k, parallaxlaw19_PercentOnce.f k a0 l1 = some true
theorem parallaxlaw19_PercentOnce.walk (P : parallaxlaw19_PercentOnce.Pure) (a0 : ByteArray) (a1 : Option Addr) (len1 cap1 : Nat) (z1 : List Int) (w : World) (w0 : a0.size ≤ 140737488351232) (w1 : (a1 = none ∧ len1 = 0 ∧ cap1 = 0 ∧ z1 = []) ∨ ∃ x, a1 = some x ∧ len1 ≤ cap1 ∧ cap1 ≤ maxLen ∧ z1.length = cap1 ∧ (∀ i, i < z1.length → w.cell? (x.add i) = some (.int .u8 (z1.getD i 0))) ∧ ∀ n ∈ z1, (Lit.int .u8 n).wf = true) (y1 : len1 * 1 ≤ 140737488351232) :
    Calls Tryd.prog 4 #[.string a0, .slice a1 len1 cap1] w fun e w' => e = .returned (.bool true) ∧ Below w.heap.size w w' := by
  obtain ⟨l1, rfl, hr1, hm1, hw1, hc1⟩ := ReadsInt.ofRowC w1
  obtain ⟨k, h⟩ := P a0 l1 w0 hm1 y1 hw1
  refine (parallaxlaw19_PercentOnce.calls k a0 _ _ l1 true w (Kd.C_of_reads (d := (0 : Int)) (h1 := fun _ => rfl) hr1) hc1 rfl h).mono ?_
  rintro e w' ⟨rfl, hd⟩
  exact ⟨rfl, hd⟩

end Go.Proofs.YtljmpmipjdlkaaaDoor.PPercentOnce
