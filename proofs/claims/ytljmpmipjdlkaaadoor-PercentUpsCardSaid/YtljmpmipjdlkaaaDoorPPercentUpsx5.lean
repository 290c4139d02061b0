-- Written by a program of this session (wip/tools/myprint.sh)
import Derived.Test.YtljmpmipjdlkaaaDoorPPercentUpsx0
import Derived.Test.YtljmpmipjdlkaaaDoorPPercentUpsx1
import Derived.Test.YtljmpmipjdlkaaaDoorPPercentUpsx4
namespace Go.Proofs.YtljmpmipjdlkaaaDoor.PPercentUps
open Go.RowKit Go.Proofs.YtljmpmipjdlkaaaDoorW.PrintWords Go.Proofs.YtljmpmipjdlkaaaDoorW.PrintLast Go.Proofs.YtljmpmipjdlkaaaDoorW.PrintMore
attribute [local go_sem] max2_int min2_int max_two min_two max_three min_three max_four min_four   -- for this text's walks alone
set_option linter.unusedVariables false
set_option linter.unusedSimpArgs false

/-! ### parallaxlaw19_PercentUps: function 6 -/
mutual
def parallaxlaw19_PercentUps.l0 : Nat → List Int → List ByteArray → List ByteArray → Int → Option (Bool)
  | 0, _, _, _, _ => none
  | k + 1, x0, x3, x4, x5 => if x5 < (x0.length : Int) then ((some (([(⟨#[97]⟩ : ByteArray), (⟨#[98]⟩ : ByteArray), (⟨#[46, 46]⟩ : ByteArray), (⟨#[46]⟩ : ByteArray), (⟨#[99]⟩ : ByteArray)] : List ByteArray) : List ByteArray)).bind fun y222 => (if 0 ≤ x5 then (if 0 ≤ (Int.tmod (rd x0 x5) 5) then (if (Int.tmod (rd x0 x5) 5) < (y222.length : Int) then (if x3.length < 8796093022208 then ((some (x3 ++ [rdOf ByteArray.empty y222 (Int.tmod (rd x0 x5) 5)] : List ByteArray)).bind fun y227 => (if (rdOf ByteArray.empty y222 (Int.tmod (rd x0 x5) 5)).toList = ([46, 46] : List UInt8) then (if (x4.length : Int) > 0 then (if 0 ≤ (wrap64 ((x4.length : Int) - 1)) then (if (wrap64 ((x4.length : Int) - 1)) ≤ (x4.length : Int) then (parallaxlaw19_PercentUps.j1 k x0 y227 (x4.take ((wrap64 ((x4.length : Int) - 1)) : Int).toNat) x5) else (none)) else (none)) else (parallaxlaw19_PercentUps.j1 k x0 y227 x4 x5)) else (if (rdOf ByteArray.empty y222 (Int.tmod (rd x0 x5) 5)).toList = ([46] : List UInt8) then (parallaxlaw19_PercentUps.j2 k x0 y227 x4 x5) else (if ([] : List ByteArray).length + x4.length < 8796093022208 then ((some (([] : List ByteArray) ++ x4 : List ByteArray)).bind fun y233 => (if y233.length < 8796093022208 then (parallaxlaw19_PercentUps.j2 k x0 y227 (y233 ++ [rdOf ByteArray.empty y222 (Int.tmod (rd x0 x5) 5)]) x5) else (none))) else (none))))) else (none)) else (none)) else (none)) else (none))) else ((percent_Dots.f k x3).bind fun t239 => (if (x0.length : Int) = 0 then (parallaxlaw19_PercentUps.j4 k x4 t239 true) else (if 0 ≤ (wrap64 ((x0.length : Int) - 1)) then (if (wrap64 ((x0.length : Int) - 1)) < (x0.length : Int) then (if (Int.tmod (rd x0 (wrap64 ((x0.length : Int) - 1))) 5) = 2 then (parallaxlaw19_PercentUps.j4 k x4 t239 true) else (parallaxlaw19_PercentUps.j4 k x4 t239 ((Int.tmod (rd x0 (wrap64 ((x0.length : Int) - 1))) 5) == 3))) else (none)) else (none))))
def parallaxlaw19_PercentUps.j3 : Nat → List Int → List ByteArray → List ByteArray → Int → Option (Bool)
  | 0, _, _, _, _ => none
  | k + 1, x0, x3, x4, x5 => parallaxlaw19_PercentUps.l0 k x0 x3 x4 (wrap64 (x5 + 1))
def parallaxlaw19_PercentUps.j1 : Nat → List Int → List ByteArray → List ByteArray → Int → Option (Bool)
  | 0, _, _, _, _ => none
  | k + 1, x0, x3, x4, x5 => parallaxlaw19_PercentUps.j3 k x0 x3 x4 x5
def parallaxlaw19_PercentUps.j2 : Nat → List Int → List ByteArray → List ByteArray → Int → Option (Bool)
  | 0, _, _, _, _ => none
  | k + 1, x0, x3, x4, x5 => parallaxlaw19_PercentUps.j3 k x0 x3 x4 x5
def parallaxlaw19_PercentUps.j4 : Nat → List ByteArray → List ByteArray → Bool → Option (Bool)
  | 0, _, _, _ => none
  | k + 1, x4, x7, x74 => if x74 = true then (if ([] : List ByteArray).length + x4.length < 8796093022208 then ((some (([] : List ByteArray) ++ x4 : List ByteArray)).bind fun y244 => (if y244.length < 8796093022208 then (parallaxlaw19_PercentUps.j5 k (y244 ++ [(⟨#[]⟩ : ByteArray)]) x7) else (none))) else (none)) else (parallaxlaw19_PercentUps.j5 k x4 x7)
def parallaxlaw19_PercentUps.j5 : Nat → List ByteArray → List ByteArray → Option (Bool)
  | 0, _, _ => none
  | k + 1, x4, x7 => if (x7.length : Int) = (x4.length : Int) then (parallaxlaw19_PercentUps.l1 k x4 x7 0) else (some false)
def parallaxlaw19_PercentUps.l1 : Nat → List ByteArray → List ByteArray → Int → Option (Bool)
  | 0, _, _, _ => none
  | k + 1, x4, x7, x8 => if x8 < (x7.length : Int) then (if 0 ≤ x8 then (if x8 < (x4.length : Int) then (if (rdOf ByteArray.empty x7 x8).toList = (rdOf ByteArray.empty x4 x8).toList then (parallaxlaw19_PercentUps.l1 k x4 x7 (wrap64 (x8 + 1))) else (some false)) else (none)) else (none)) else (some true)
end
def parallaxlaw19_PercentUps.f (k : Nat) (l0 : List Int) : Option (Bool) := (parallaxlaw19_known.f k).bind fun t221 => (if t221 = true then (if (l0.length : Int) > 12 then (some true) else (parallaxlaw19_PercentUps.l0 k l0 ([] : List ByteArray) ([] : List ByteArray) 0)) else (some false))
theorem parallaxlaw19_PercentUps.mono_l : ∀ k, (∀ y0 y1 y2 y3, LeO (parallaxlaw19_PercentUps.l0 k y0 y1 y2 y3) (parallaxlaw19_PercentUps.l0 (k + 1) y0 y1 y2 y3)) ∧ (∀ y0 y1 y2 y3, LeO (parallaxlaw19_PercentUps.j3 k y0 y1 y2 y3) (parallaxlaw19_PercentUps.j3 (k + 1) y0 y1 y2 y3)) ∧ (∀ y0 y1 y2 y3, LeO (parallaxlaw19_PercentUps.j1 k y0 y1 y2 y3) (parallaxlaw19_PercentUps.j1 (k + 1) y0 y1 y2 y3)) ∧ (∀ y0 y1 y2 y3, LeO (parallaxlaw19_PercentUps.j2 k y0 y1 y2 y3) (parallaxlaw19_PercentUps.j2 (k + 1) y0 y1 y2 y3)) ∧ (∀ y0 y1 y2, LeO (parallaxlaw19_PercentUps.j4 k y0 y1 y2) (parallaxlaw19_PercentUps.j4 (k + 1) y0 y1 y2)) ∧ (∀ y0 y1, LeO (parallaxlaw19_PercentUps.j5 k y0 y1) (parallaxlaw19_PercentUps.j5 (k + 1) y0 y1)) ∧ (∀ y0 y1 y2, LeO (parallaxlaw19_PercentUps.l1 k y0 y1 y2) (parallaxlaw19_PercentUps.l1 (k + 1) y0 y1 y2))
  | 0 => ⟨fun _ _ _ _ r h => by simp [parallaxlaw19_PercentUps.l0] at h, fun _ _ _ _ r h => by simp [parallaxlaw19_PercentUps.j3] at h, fun _ _ _ _ r h => by simp [parallaxlaw19_PercentUps.j1] at h, fun _ _ _ _ r h => by simp [parallaxlaw19_PercentUps.j2] at h, fun _ _ _ r h => by simp [parallaxlaw19_PercentUps.j4] at h, fun _ _ r h => by simp [parallaxlaw19_PercentUps.j5] at h, fun _ _ _ r h => by simp [parallaxlaw19_PercentUps.l1] at h⟩
  | k + 1 => by
    obtain ⟨ih0, ih1, ih2, ih3, ih4, ih5, ih6⟩ := parallaxlaw19_PercentUps.mono_l k
    refine ⟨?_, ?_, ?_, ?_, ?_, ?_, ?_⟩
    · intro y0 y1 y2 y3
      unfold parallaxlaw19_PercentUps.l0
      repeat' first
      | (with_reducible exact ih0 _ _ _ _)
      | (with_reducible exact ih1 _ _ _ _)
      | (with_reducible exact ih2 _ _ _ _)
      | (with_reducible exact ih3 _ _ _ _)
      | (with_reducible exact ih4 _ _ _)
      | (with_reducible exact ih5 _ _)
      | (with_reducible exact ih6 _ _ _)
      | (with_reducible exact parallaxlaw19_known.mono _)
      | (with_reducible exact percent_Dots.mono _ _)
      | (with_reducible exact LeO.refl _)
      | (with_reducible exact LeO.none _)
      | (with_reducible refine LeO.ite ?_ ?_)
      | (with_reducible refine LeO.bind ?_ (fun _ => ?_))
      | exact ih0 _ _ _ _
      | exact ih1 _ _ _ _
      | exact ih2 _ _ _ _
      | exact ih3 _ _ _ _
      | exact ih4 _ _ _
      | exact ih5 _ _
      | exact ih6 _ _ _
      | exact parallaxlaw19_known.mono _
      | exact percent_Dots.mono _ _
      | exact LeO.none _
      | refine LeO.ite ?_ ?_
      | refine LeO.bind ?_ (fun _ => ?_)
    · intro y0 y1 y2 y3
      unfold parallaxlaw19_PercentUps.j3
      repeat' first
      | (with_reducible exact ih0 _ _ _ _)
      | (with_reducible exact ih1 _ _ _ _)
      | (with_reducible exact ih2 _ _ _ _)
      | (with_reducible exact ih3 _ _ _ _)
      | (with_reducible exact ih4 _ _ _)
      | (with_reducible exact ih5 _ _)
      | (with_reducible exact ih6 _ _ _)
      | (with_reducible exact parallaxlaw19_known.mono _)
      | (with_reducible exact percent_Dots.mono _ _)
      | (with_reducible exact LeO.refl _)
      | (with_reducible exact LeO.none _)
      | (with_reducible refine LeO.ite ?_ ?_)
      | (with_reducible refine LeO.bind ?_ (fun _ => ?_))
      | exact ih0 _ _ _ _
      | exact ih1 _ _ _ _
      | exact ih2 _ _ _ _
      | exact ih3 _ _ _ _
      | exact ih4 _ _ _
      | exact ih5 _ _
      | exact ih6 _ _ _
      | exact parallaxlaw19_known.mono _
      | exact percent_Dots.mono _ _
      | exact LeO.none _
      | refine LeO.ite ?_ ?_
      | refine LeO.bind ?_ (fun _ => ?_)
    · intro y0 y1 y2 y3
      unfold parallaxlaw19_PercentUps.j1
      repeat' first
      | (with_reducible exact ih0 _ _ _ _)
      | (with_reducible exact ih1 _ _ _ _)
      | (with_reducible exact ih2 _ _ _ _)
      | (with_reducible exact ih3 _ _ _ _)
      | (with_reducible exact ih4 _ _ _)
      | (with_reducible exact ih5 _ _)
      | (with_reducible exact ih6 _ _ _)
      | (with_reducible exact parallaxlaw19_known.mono _)
      | (with_reducible exact percent_Dots.mono _ _)
      | (with_reducible exact LeO.refl _)
      | (with_reducible exact LeO.none _)
      | (with_reducible refine LeO.ite ?_ ?_)
      | (with_reducible refine LeO.bind ?_ (fun _ => ?_))
      | exact ih0 _ _ _ _
      | exact ih1 _ _ _ _
      | exact ih2 _ _ _ _
      | exact ih3 _ _ _ _
      | exact ih4 _ _ _
      | exact ih5 _ _
      | exact ih6 _ _ _
      | exact parallaxlaw19_known.mono _
      | exact percent_Dots.mono _ _
      | exact LeO.none _
      | refine LeO.ite ?_ ?_
      | refine LeO.bind ?_ (fun _ => ?_)
    · intro y0 y1 y2 y3
      unfold parallaxlaw19_PercentUps.j2
      repeat' first
      | (with_reducible exact ih0 _ _ _ _)
      | (with_reducible exact ih1 _ _ _ _)
      | (with_reducible exact ih2 _ _ _ _)
      | (with_reducible exact ih3 _ _ _ _)
      | (with_reducible exact ih4 _ _ _)
      | (with_reducible exact ih5 _ _)
      | (with_reducible exact ih6 _ _ _)
      | (with_reducible exact parallaxlaw19_known.mono _)
      | (with_reducible exact percent_Dots.mono _ _)
      | (with_reducible exact LeO.refl _)
      | (with_reducible exact LeO.none _)
      | (with_reducible refine LeO.ite ?_ ?_)
      | (with_reducible refine LeO.bind ?_ (fun _ => ?_))
      | exact ih0 _ _ _ _
      | exact ih1 _ _ _ _
      | exact ih2 _ _ _ _
      | exact ih3 _ _ _ _
      | exact ih4 _ _ _
      | exact ih5 _ _
      | exact ih6 _ _ _
      | exact parallaxlaw19_known.mono _
      | exact percent_Dots.mono _ _
      | exact LeO.none _
      | refine LeO.ite ?_ ?_
      | refine LeO.bind ?_ (fun _ => ?_)
    · intro y0 y1 y2
      unfold parallaxlaw19_PercentUps.j4
      repeat' first
      | (with_reducible exact ih0 _ _ _ _)
      | (with_reducible exact ih1 _ _ _ _)
      | (with_reducible exact ih2 _ _ _ _)
      | (with_reducible exact ih3 _ _ _ _)
      | (with_reducible exact ih4 _ _ _)
      | (with_reducible exact ih5 _ _)
      | (with_reducible exact ih6 _ _ _)
      | (with_reducible exact parallaxlaw19_known.mono _)
      | (with_reducible exact percent_Dots.mono _ _)
      | (with_reducible exact LeO.refl _)
      | (with_reducible exact LeO.none _)
      | (with_reducible refine LeO.ite ?_ ?_)
      | (with_reducible refine LeO.bind ?_ (fun _ => ?_))
      | exact ih0 _ _ _ _
      | exact ih1 _ _ _ _
      | exact ih2 _ _ _ _
      | exact ih3 _ _ _ _
      | exact ih4 _ _ _
      | exact ih5 _ _
      | exact ih6 _ _ _
      | exact parallaxlaw19_known.mono _
      | exact percent_Dots.mono _ _
      | exact LeO.none _
      | refine LeO.ite ?_ ?_
      | refine LeO.bind ?_ (fun _ => ?_)
    · intro y0 y1
      unfold parallaxlaw19_PercentUps.j5
      repeat' first
      | (with_reducible exact ih0 _ _ _ _)
      | (with_reducible exact ih1 _ _ _ _)
      | (with_reducible exact ih2 _ _ _ _)
      | (with_reducible exact ih3 _ _ _ _)
      | (with_reducible exact ih4 _ _ _)
      | (with_reducible exact ih5 _ _)
      | (with_reducible exact ih6 _ _ _)
      | (with_reducible exact parallaxlaw19_known.mono _)
      | (with_reducible exact percent_Dots.mono _ _)
      | (with_reducible exact LeO.refl _)
      | (with_reducible exact LeO.none _)
      | (with_reducible refine LeO.ite ?_ ?_)
      | (with_reducible refine LeO.bind ?_ (fun _ => ?_))
      | exact ih0 _ _ _ _
      | exact ih1 _ _ _ _
      | exact ih2 _ _ _ _
      | exact ih3 _ _ _ _
      | exact ih4 _ _ _
      | exact ih5 _ _
      | exact ih6 _ _ _
      | exact parallaxlaw19_known.mono _
      | exact percent_Dots.mono _ _
      | exact LeO.none _
      | refine LeO.ite ?_ ?_
      | refine LeO.bind ?_ (fun _ => ?_)
    · intro y0 y1 y2
      unfold parallaxlaw19_PercentUps.l1
      repeat' first
      | (with_reducible exact ih0 _ _ _ _)
      | (with_reducible exact ih1 _ _ _ _)
      | (with_reducible exact ih2 _ _ _ _)
      | (with_reducible exact ih3 _ _ _ _)
      | (with_reducible exact ih4 _ _ _)
      | (with_reducible exact ih5 _ _)
      | (with_reducible exact ih6 _ _ _)
      | (with_reducible exact parallaxlaw19_known.mono _)
      | (with_reducible exact percent_Dots.mono _ _)
      | (with_reducible exact LeO.refl _)
      | (with_reducible exact LeO.none _)
      | (with_reducible refine LeO.ite ?_ ?_)
      | (with_reducible refine LeO.bind ?_ (fun _ => ?_))
      | exact ih0 _ _ _ _
      | exact ih1 _ _ _ _
      | exact ih2 _ _ _ _
      | exact ih3 _ _ _ _
      | exact ih4 _ _ _
      | exact ih5 _ _
      | exact ih6 _ _ _
      | exact parallaxlaw19_known.mono _
      | exact percent_Dots.mono _ _
      | exact LeO.none _
      | refine LeO.ite ?_ ?_
      | refine LeO.bind ?_ (fun _ => ?_)
theorem parallaxlaw19_PercentUps.mono : ∀ a0 k, LeO (parallaxlaw19_PercentUps.f k a0) (parallaxlaw19_PercentUps.f (k + 1) a0) := by
  intro a0 k
  obtain ⟨ih0, ih1, ih2, ih3, ih4, ih5, ih6⟩ := parallaxlaw19_PercentUps.mono_l k
  unfold parallaxlaw19_PercentUps.f
  repeat' first
      | (with_reducible exact ih0 _ _ _ _)
      | (with_reducible exact ih1 _ _ _ _)
      | (with_reducible exact ih2 _ _ _ _)
      | (with_reducible exact ih3 _ _ _ _)
      | (with_reducible exact ih4 _ _ _)
      | (with_reducible exact ih5 _ _)
      | (with_reducible exact ih6 _ _ _)
      | (with_reducible exact parallaxlaw19_known.mono _)
      | (with_reducible exact percent_Dots.mono _ _)
      | (with_reducible exact LeO.refl _)
      | (with_reducible exact LeO.none _)
      | (with_reducible refine LeO.ite ?_ ?_)
      | (with_reducible refine LeO.bind ?_ (fun _ => ?_))
      | exact ih0 _ _ _ _
      | exact ih1 _ _ _ _
      | exact ih2 _ _ _ _
      | exact ih3 _ _ _ _
      | exact ih4 _ _ _
      | exact ih5 _ _
      | exact ih6 _ _ _
      | exact parallaxlaw19_known.mono _
      | exact percent_Dots.mono _ _
      | exact LeO.none _
      | refine LeO.ite ?_ ?_
      | refine LeO.bind ?_ (fun _ => ?_)
/-- the last statement of a block -/
theorem in_block_ {P : Program} {s : Code} {id : Nat} {K : Act → World → Prop} {Q : Exit → Act → World → Prop} {a : Act} {w : World} (h : s.wp P (Exit.then K (Exit.inBlock id (Exit.then K Q))) a w) : s.wp P (Exit.inBlock id (Exit.then K Q)) a w :=
  wp_mono h (fun e _ _ hq => by cases e <;> exact hq)
theorem in_block2_ {P : Program} {s : Code} {id jd : Nat} {K : Act → World → Prop} {Q : Exit → Act → World → Prop} {a : Act} {w : World} (h : s.wp P (Exit.then K (Exit.inBlock id (Exit.inBlock jd (Exit.then K Q)))) a w) : s.wp P (Exit.inBlock id (Exit.inBlock jd (Exit.then K Q))) a w :=
  wp_mono h (fun e _ _ hq => by cases e <;> exact hq)
set_option maxHeartbeats 8000000 in
set_option maxRecDepth 100000 in
theorem parallaxlaw19_PercentUps.calls (k : Nat) (A0 : Option Addr) (c0 : Nat) (l0 : List Int) (r : Bool) (w : World) (hr0 : Kd.C (Kd.int .u8) w A0 l0.length l0) (hc0 : l0.length ≤ c0) (hT : r = true) (h : parallaxlaw19_PercentUps.f k l0 = some r) :
    Calls Tryd.prog 6 #[.slice A0 l0.length c0] w fun e w' => e = .returned (.bool r) ∧ Below w.heap.size w w' := by
  have HT := Aside0.mk hT
  clear hT
  have HR0 := Aside0.mk hr0
  have HC0 := Aside0.mk hc0
  clear hr0 hc0
  have HB := Aside0.mk (Below.refl w.heap.size w)
  have H : ((parallaxlaw19_known.f k).bind fun t221 => (if t221 = true then (if (l0.length : Int) > 12 then (some true) else (parallaxlaw19_PercentUps.l0 k l0 ([] : List ByteArray) ([] : List ByteArray) 0)) else (some false))) = some r := h
  clear h
  replace H := Option.bind_eq_some_iff.mp H
  obtain ⟨t221, A20, H⟩ := H
  (try dsimp only at H)
  have A2 := Aside0.mk A20
  clear A20
  by_cases c3 : t221 = true
  · subst c3
    rw [if_pos rfl] at H
    by_cases c4 : (l0.length : Int) > 12
    · rw [if_pos c4] at H
      have c4b0 : decide (12 < (l0.length : Int)) = true := decide_eq_true c4
      have c4b1 : decide (12 < l0.length) = true := decide_eq_true (by omega)
      clear c4
      obtain rfl := Option.some.inj H
      go_enter Tryd.func6, Tryd.ntmps6
      go_wp2_with (first | (go_at_call 7; (with_reducible refine (parallaxlaw19_known.calls k  true _ rfl A2.out).mono ?_); rintro e w5 ⟨rfl, hb⟩; have n0_ := Aside0.mk (below_step (by repeat (first | (with_reducible first | exact HB.out | apply below_alloc | apply pw_below_drewN | apply below_drew1) | exact HB.out)) hb); clear HB; have HB := n0_; clear n0_; (try clear hb); (try clear hb2); (try clear hk); (try clear hi)))
      repeat (go_quiet (first | (go_at_call 7; (with_reducible refine (parallaxlaw19_known.calls k  true _ rfl A2.out).mono ?_); rintro e w5 ⟨rfl, hb⟩; have n0_ := Aside0.mk (below_step (by repeat (first | (with_reducible first | exact HB.out | apply below_alloc | apply pw_below_drewN | apply below_drew1) | exact HB.out)) hb); clear HB; have HB := n0_; clear n0_; (try clear hb); (try clear hb2); (try clear hk); (try clear hi))); try go_wp2_with (first | (go_at_call 7; (with_reducible refine (parallaxlaw19_known.calls k  true _ rfl A2.out).mono ?_); rintro e w5 ⟨rfl, hb⟩; have n0_ := Aside0.mk (below_step (by repeat (first | (with_reducible first | exact HB.out | apply below_alloc | apply pw_below_drewN | apply below_drew1) | exact HB.out)) hb); clear HB; have HB := n0_; clear n0_; (try clear hb); (try clear hb2); (try clear hk); (try clear hi))))
      go_ret
      exact ⟨by first | rfl | (simp [errW_none, errW_some] <;> rfl) | (simp [*, errW_none, errW_some] <;> rfl), by repeat (first | (with_reducible first | exact HB.out | apply below_alloc | apply pw_below_drewN | apply below_drew1) | exact HB.out)⟩
    · rw [if_neg c4] at H
      have c4b0 : decide (12 < (l0.length : Int)) = false := decide_eq_false c4
      have c4b1 : decide (12 < l0.length) = false := decide_eq_false (by omega)
      clear c4
      have H' := Aside0.mk H
      clear H
      go_enter Tryd.func6, Tryd.ntmps6
      go_wp2_with (first | (go_at_call 7; (with_reducible refine (parallaxlaw19_known.calls k  true _ rfl A2.out).mono ?_); rintro e w6 ⟨rfl, hb⟩; have n0_ := Aside0.mk (below_step (by repeat (first | (with_reducible first | exact HB.out | apply below_alloc | apply pw_below_drewN | apply below_drew1) | exact HB.out)) hb); clear HB; have HB := n0_; clear n0_; (try clear hb); (try clear hb2); (try clear hk); (try clear hi)))
      repeat (go_quiet (first | (go_at_call 7; (with_reducible refine (parallaxlaw19_known.calls k  true _ rfl A2.out).mono ?_); rintro e w6 ⟨rfl, hb⟩; have n0_ := Aside0.mk (below_step (by repeat (first | (with_reducible first | exact HB.out | apply below_alloc | apply pw_below_drewN | apply below_drew1) | exact HB.out)) hb); clear HB; have HB := n0_; clear n0_; (try clear hb); (try clear hb2); (try clear hk); (try clear hi))); try go_wp2_with (first | (go_at_call 7; (with_reducible refine (parallaxlaw19_known.calls k  true _ rfl A2.out).mono ?_); rintro e w6 ⟨rfl, hb⟩; have n0_ := Aside0.mk (below_step (by repeat (first | (with_reducible first | exact HB.out | apply below_alloc | apply pw_below_drewN | apply below_drew1) | exact HB.out)) hb); clear HB; have HB := n0_; clear n0_; (try clear hb); (try clear hb2); (try clear hk); (try clear hi))))
      go_loopg [3, 4, 5] k (fun kq v3 v4 v5 w' => ∃ (x3_1 : List ByteArray) (x4_1 : List ByteArray) (x5_1 : Int), v5 = .int .i64 x5_1 ∧ Aside0 (parallaxlaw19_PercentUps.l0 kq l0 x3_1 x4_1 x5_1 = some r) ∧ Aside0 (kq ≤ k) ∧ Aside0 (Kd.R Kd.string 9 w' w.heap.size (fun k_ => some k_ ≠ (v4 : Value).ownBlock) v3 x3_1) ∧ Aside0 (Kd.R Kd.string 9 w' w.heap.size (fun k_ => some k_ ≠ (v3 : Value).ownBlock) v4 x4_1) ∧ Aside0 (Below w.heap.size w w'))
      case atStart => exact ⟨(([] : List ByteArray)), (([] : List ByteArray)), (0), (by first | rfl | (simp; done) | (simp [*]; done)), H', ⟨Nat.le_refl _⟩, ⟨by first | exact Kd.R_nil _ _ _ _ _ | exact Kd.N_nil _ _ _ _ _ | exact Kd.V_nil _ _ _ _ _ | exact Kd.Q_nil _ _ _ _ _ | exact Kd.S_nil _ _ _ _ _⟩, ⟨by first | exact Kd.R_nil _ _ _ _ _ | exact Kd.N_nil _ _ _ _ _ | exact Kd.V_nil _ _ _ _ _ | exact Kd.Q_nil _ _ _ _ _ | exact Kd.S_nil _ _ _ _ _⟩, ⟨by repeat (first | (with_reducible first | exact HB.out | apply below_alloc | apply pw_below_drewN | apply below_drew1) | exact HB.out)⟩⟩
      case round =>
        clear H'
        try clear p2
        try clear c3
        try clear c4
        try clear c4b0
        try clear c4b1
        try clear c6
        obtain ⟨x3_1, x4_1, x5_1, rfl, HA, HK1, HO_3, HO_4, HB⟩ := hrel
        cases gk with
        | zero => exact absurd HA.out (by simp [parallaxlaw19_PercentUps.l0])
        | succ k1 =>
          have H := HA.out
          clear HA
          simp only [parallaxlaw19_PercentUps.l0] at H
          by_cases c7 : x5_1 < (l0.length : Int)
          · rw [if_pos c7] at H
            have c7b0 : decide (x5_1 < (l0.length : Int)) = true := decide_eq_true c7
            clear c7
            obtain ⟨y222, hy222⟩ : ∃ y_ : List ByteArray, y_ = (([(⟨#[97]⟩ : ByteArray), (⟨#[98]⟩ : ByteArray), (⟨#[46, 46]⟩ : ByteArray), (⟨#[46]⟩ : ByteArray), (⟨#[99]⟩ : ByteArray)] : List ByteArray)) := ⟨_, rfl⟩
            replace H : (if 0 ≤ x5_1 then (if 0 ≤ (Int.tmod (rd l0 x5_1) 5) then (if (Int.tmod (rd l0 x5_1) 5) < (y222.length : Int) then (if x3_1.length < 8796093022208 then ((some (x3_1 ++ [rdOf ByteArray.empty y222 (Int.tmod (rd l0 x5_1) 5)] : List ByteArray)).bind fun y227 => (if (rdOf ByteArray.empty y222 (Int.tmod (rd l0 x5_1) 5)).toList = ([46, 46] : List UInt8) then (if (x4_1.length : Int) > 0 then (if 0 ≤ (wrap64 ((x4_1.length : Int) - 1)) then (if (wrap64 ((x4_1.length : Int) - 1)) ≤ (x4_1.length : Int) then (parallaxlaw19_PercentUps.j1 k1 l0 y227 (x4_1.take ((wrap64 ((x4_1.length : Int) - 1)) : Int).toNat) x5_1) else (none)) else (none)) else (parallaxlaw19_PercentUps.j1 k1 l0 y227 x4_1 x5_1)) else (if (rdOf ByteArray.empty y222 (Int.tmod (rd l0 x5_1) 5)).toList = ([46] : List UInt8) then (parallaxlaw19_PercentUps.j2 k1 l0 y227 x4_1 x5_1) else (if ([] : List ByteArray).length + x4_1.length < 8796093022208 then ((some (([] : List ByteArray) ++ x4_1 : List ByteArray)).bind fun y233 => (if y233.length < 8796093022208 then (parallaxlaw19_PercentUps.j2 k1 l0 y227 (y233 ++ [rdOf ByteArray.empty y222 (Int.tmod (rd l0 x5_1) 5)]) x5_1) else (none))) else (none))))) else (none)) else (none)) else (none)) else (none)) = some r := by first | (rw [hy222]; with_reducible exact H) | (have H2_ := (Option.bind_some _ _).symm.trans H; rw [hy222]; with_reducible exact H2_) | (have H2_ := (Option.bind_some _ _).symm.trans H; with_reducible exact H2_) | with_reducible exact H | (rw [hy222]; exact H) | exact H
            have Ny222 := Aside0.mk hy222
            clear hy222
            by_cases c8 : 0 ≤ x5_1
            · rw [if_pos c8] at H
              have c8b0 : decide (0 ≤ x5_1) = true := decide_eq_true c8
              clear c8
              obtain ⟨ji9, hji9⟩ : ∃ j_ : Int, (Int.tmod (rd l0 x5_1) 5) = j_ := ⟨_, rfl⟩
              replace H : (if 0 ≤ (ji9) then (if (ji9) < (y222.length : Int) then (if x3_1.length < 8796093022208 then ((some (x3_1 ++ [rdOf ByteArray.empty y222 (ji9)] : List ByteArray)).bind fun y227 => (if (rdOf ByteArray.empty y222 (ji9)).toList = ([46, 46] : List UInt8) then (if (x4_1.length : Int) > 0 then (if 0 ≤ (wrap64 ((x4_1.length : Int) - 1)) then (if (wrap64 ((x4_1.length : Int) - 1)) ≤ (x4_1.length : Int) then (parallaxlaw19_PercentUps.j1 k1 l0 y227 (x4_1.take ((wrap64 ((x4_1.length : Int) - 1)) : Int).toNat) x5_1) else (none)) else (none)) else (parallaxlaw19_PercentUps.j1 k1 l0 y227 x4_1 x5_1)) else (if (rdOf ByteArray.empty y222 (ji9)).toList = ([46] : List UInt8) then (parallaxlaw19_PercentUps.j2 k1 l0 y227 x4_1 x5_1) else (if ([] : List ByteArray).length + x4_1.length < 8796093022208 then ((some (([] : List ByteArray) ++ x4_1 : List ByteArray)).bind fun y233 => (if y233.length < 8796093022208 then (parallaxlaw19_PercentUps.j2 k1 l0 y227 (y233 ++ [rdOf ByteArray.empty y222 (ji9)]) x5_1) else (none))) else (none))))) else (none)) else (none)) else (none)) = some r := by first | (rw [hji9] at H; exact H) | (simp only [hji9] at H ⊢; exact H)
              by_cases c10 : 0 ≤ (ji9)
              · rw [if_pos c10] at H
                have c10b0 : decide (0 ≤ (ji9)) = true := decide_eq_true c10
                clear c10
                by_cases c11 : (ji9) < (y222.length : Int)
                · rw [if_pos c11] at H
                  have c11b0 : decide ((ji9) < (y222.length : Int)) = true := decide_eq_true c11
                  clear c11
                  by_cases c12 : x3_1.length < 8796093022208
                  · rw [if_pos c12] at H
                    have LMc12 := Aside0.mk c12
                    clear c12
                    obtain ⟨y227, hy227⟩ : ∃ y_ : List ByteArray, y_ = (x3_1 ++ [rdOf ByteArray.empty y222 (ji9)]) := ⟨_, rfl⟩
                    replace H : (if (rdOf ByteArray.empty y222 (ji9)).toList = ([46, 46] : List UInt8) then (if (x4_1.length : Int) > 0 then (if 0 ≤ (wrap64 ((x4_1.length : Int) - 1)) then (if (wrap64 ((x4_1.length : Int) - 1)) ≤ (x4_1.length : Int) then (parallaxlaw19_PercentUps.j1 k1 l0 y227 (x4_1.take ((wrap64 ((x4_1.length : Int) - 1)) : Int).toNat) x5_1) else (none)) else (none)) else (parallaxlaw19_PercentUps.j1 k1 l0 y227 x4_1 x5_1)) else (if (rdOf ByteArray.empty y222 (ji9)).toList = ([46] : List UInt8) then (parallaxlaw19_PercentUps.j2 k1 l0 y227 x4_1 x5_1) else (if ([] : List ByteArray).length + x4_1.length < 8796093022208 then ((some (([] : List ByteArray) ++ x4_1 : List ByteArray)).bind fun y233 => (if y233.length < 8796093022208 then (parallaxlaw19_PercentUps.j2 k1 l0 y227 (y233 ++ [rdOf ByteArray.empty y222 (ji9)]) x5_1) else (none))) else (none)))) = some r := by first | (rw [hy227]; with_reducible exact H) | (have H2_ := (Option.bind_some _ _).symm.trans H; rw [hy227]; with_reducible exact H2_) | (have H2_ := (Option.bind_some _ _).symm.trans H; with_reducible exact H2_) | with_reducible exact H | (rw [hy227]; exact H) | exact H
                    have Ny227 := Aside0.mk hy227
                    clear hy227
                    have HC13 := Aside0.mk H
                    clear H
                    go_upto_if 38 with (first | ((with_reducible refine gate_dst (N := 20) rfl ?_); (try (refine gate_guard (by rfl) ?_; dsimp only)); refine Kd.R_lit Kd.string _ 9 ?hg (N := 20) ?hd (xs := ([(⟨#[97]⟩ : ByteArray), (⟨#[98]⟩ : ByteArray), (⟨#[46, 46]⟩ : ByteArray), (⟨#[46]⟩ : ByteArray), (⟨#[99]⟩ : ByteArray)] : List ByteArray)) (inner := [.string (⟨#[97]⟩ : ByteArray), .string (⟨#[98]⟩ : ByteArray), .string (⟨#[46, 46]⟩ : ByteArray), .string (⟨#[46]⟩ : ByteArray), .string (⟨#[99]⟩ : ByteArray)]) (ok := fun _ => True) (okp := fun _ => True) ?hr ?hp (fun _ hk => hk) trivial (Below.refl _ _) (Nat.le_refl _) (by simp) ?_; (case hd => rfl); (case hg => rfl); (case hr => first | (go_simp; done) | (go_simp; rfl)); (case hp => exact (Reps.one (show Kd.M Kd.string _ _ _ (⟨#[97]⟩ : ByteArray) [.string (⟨#[97]⟩ : ByteArray)] from rfl) (Reps.one (show Kd.M Kd.string _ _ _ (⟨#[98]⟩ : ByteArray) [.string (⟨#[98]⟩ : ByteArray)] from rfl) (Reps.one (show Kd.M Kd.string _ _ _ (⟨#[46, 46]⟩ : ByteArray) [.string (⟨#[46, 46]⟩ : ByteArray)] from rfl) (Reps.one (show Kd.M Kd.string _ _ _ (⟨#[46]⟩ : ByteArray) [.string (⟨#[46]⟩ : ByteArray)] from rfl) (Reps.one (show Kd.M Kd.string _ _ _ (⟨#[99]⟩ : ByteArray) [.string (⟨#[99]⟩ : ByteArray)] from rfl) (Reps.none _ _))))))); intro v223 w14 ho15 hb hg_ hnew_; clear hg_ hnew_; (first | rw [← Ny222.out] at ho15 | (simp only [Int.reduceToNat] at ho15; rw [← Ny222.out] at ho15)); have n0_ := Aside0.mk (Kd.R_elder' (by (with_reducible repeat (first | apply Kd.R_alloc | apply Kd.R_drewN | apply Kd.R_drew)); exact HO_3.out) (Kd.R_base ho15) hb); have n1_ := Aside0.mk (Kd.R_elder' (by (with_reducible repeat (first | apply Kd.R_alloc | apply Kd.R_drewN | apply Kd.R_drew)); exact HO_4.out) (Kd.R_base ho15) hb); have n2_ := Aside0.mk (Kd.R_lower (Kd.R_new' (Kd.R_new' ho15 (Kd.R_lt (by (with_reducible repeat (first | apply Kd.R_alloc | apply Kd.R_drewN | apply Kd.R_drew)); exact HO_3.out))) (Kd.R_lt (by (with_reducible repeat (first | apply Kd.R_alloc | apply Kd.R_drewN | apply Kd.R_drew)); exact HO_4.out))) (below_size (by repeat (first | (with_reducible first | exact HB.out | apply below_alloc | apply pw_below_drewN | apply below_drew1) | exact HB.out)))); have n3_ := Aside0.mk (below_step (by repeat (first | (with_reducible first | exact HB.out | apply below_alloc | apply pw_below_drewN | apply below_drew1) | exact HB.out)) hb); clear HO_3; clear HO_4; clear HB; have HO_3 := n0_; have HO_4 := n1_; have HO224 := n2_; have HB := n3_; clear n0_ n1_ n2_ n3_; clear hb ho15; have p225 : 0 ≤ (x5_1 : Int) := of_decide_eq_true (by first | (with_reducible assumption) | assumption); have q225 : x5_1 < (l0.length : Int) := of_decide_eq_true (by first | (with_reducible assumption) | assumption); obtain ⟨ad225, e225, hx225_0⟩ := Kd.at_int HR0.out x5_1 p225 q225; cases e225; replace hx225_0 := (HB.out.cell (World.block_lt_of_cell? w _ hx225_0)).trans hx225_0; replace p225 := eq_true p225; replace q225 := eq_true q225; obtain ⟨Ao16, co16, eo16⟩ := Kd.R_slice HO224.out; subst eo16; have p226 : 0 ≤ ((ji9) : Int) := of_decide_eq_true (by first | (with_reducible assumption) | assumption); have q226 : (ji9) < (y222.length : Int) := of_decide_eq_true (by first | (with_reducible assumption) | assumption); obtain ⟨ad226, e226, hx226_0⟩ := Kd.at_string (Kd.R_reads' HO224.out).2.2 (ji9) p226 q226; cases e226; replace p226 := eq_true p226; replace q226 := eq_true q226) | ((with_reducible refine gate_builtin (b := .append) (xs := #[.tmp 28, .tmp 30]) rfl ?_); (try (refine gate_guard (by rfl) ?_; dsimp only)); at_builtin; refine Kd.R_append Kd.string (w0 := w) w.heap.size rfl (.tmp 28) (.tmp 30) 23 9 (.string ⟨#[]⟩) 16 rfl Tryd.underlying23 info9 rfl (by decide) (by omega) u3 x3_1 (rdOf ByteArray.empty y222 (ji9)) [.string (rdOf ByteArray.empty y222 (ji9))] (fun k_ => some k_ ≠ (u4 : Value).ownBlock ∧ some k_ ≠ (.slice (some ad226) y222.length co16 : Value).ownBlock) (fun _ => False) rfl rfl ?aP (fun _ hk => hk.elim) ?aF ?aO ?aB ?aS ?aL ?_; (case aP => exact rfl); (case aB => exact (by repeat (first | (with_reducible first | exact HB.out | apply below_alloc | apply pw_below_drewN | apply below_drew1) | exact HB.out))); (case aF => exact (fun k_ hk => ⟨Kd.fresh' (Kd.R_lt (by (with_reducible repeat (first | apply Kd.R_alloc | apply Kd.R_drewN | apply Kd.R_drew)); exact HO_4.out)) k_ hk, Kd.fresh' (Kd.R_lt (by (with_reducible repeat (first | apply Kd.R_alloc | apply Kd.R_drewN | apply Kd.R_drew)); exact HO224.out)) k_ hk⟩)); (case aO => exact (by (with_reducible repeat (first | apply Kd.R_alloc | apply Kd.R_drewN | apply Kd.R_drew)); exact HO_3.out)); (case aS => exact (below_size (by repeat (first | (with_reducible first | exact HB.out | apply below_alloc | apply pw_below_drewN | apply below_drew1) | exact HB.out)))); (case aL => have := LMc12.out; omega); intro v228 w17 ho hb hg hat; rw [← Ny227.out] at ho; have n0_ := Aside0.mk (Kd.R_after (ok := (fun k_ => some k_ ≠ (.slice (some ad226) y222.length co16 : Value).ownBlock)) (by (with_reducible repeat (first | apply Kd.R_alloc | apply Kd.R_drewN | apply Kd.R_drew)); exact Kd.R_mono HO_4.out (fun _ hk => ⟨hk.2, hk.1⟩)) hg hat); have n1_ := Aside0.mk (Kd.R_after (ok := (fun k_ => some k_ ≠ (u4 : Value).ownBlock)) (by (with_reducible repeat (first | apply Kd.R_alloc | apply Kd.R_drewN | apply Kd.R_drew)); exact Kd.R_mono HO224.out (fun _ hk => ⟨hk.2, hk.1.2⟩)) hg hat); have n2_ := Aside0.mk (hb); have n3_ := Aside0.mk (ho); clear HO_4; clear HO224; clear HB; clear HO_3; have HO_4 := n0_; have HO224 := n1_; have HB := n2_; have HO229 := n3_; clear n0_ n1_ n2_ n3_; clear ho hb hg hat))
                    repeat (go_quiet (first | ((with_reducible refine gate_dst (N := 20) rfl ?_); (try (refine gate_guard (by rfl) ?_; dsimp only)); refine Kd.R_lit Kd.string _ 9 ?hg (N := 20) ?hd (xs := ([(⟨#[97]⟩ : ByteArray), (⟨#[98]⟩ : ByteArray), (⟨#[46, 46]⟩ : ByteArray), (⟨#[46]⟩ : ByteArray), (⟨#[99]⟩ : ByteArray)] : List ByteArray)) (inner := [.string (⟨#[97]⟩ : ByteArray), .string (⟨#[98]⟩ : ByteArray), .string (⟨#[46, 46]⟩ : ByteArray), .string (⟨#[46]⟩ : ByteArray), .string (⟨#[99]⟩ : ByteArray)]) (ok := fun _ => True) (okp := fun _ => True) ?hr ?hp (fun _ hk => hk) trivial (Below.refl _ _) (Nat.le_refl _) (by simp) ?_; (case hd => rfl); (case hg => rfl); (case hr => first | (go_simp; done) | (go_simp; rfl)); (case hp => exact (Reps.one (show Kd.M Kd.string _ _ _ (⟨#[97]⟩ : ByteArray) [.string (⟨#[97]⟩ : ByteArray)] from rfl) (Reps.one (show Kd.M Kd.string _ _ _ (⟨#[98]⟩ : ByteArray) [.string (⟨#[98]⟩ : ByteArray)] from rfl) (Reps.one (show Kd.M Kd.string _ _ _ (⟨#[46, 46]⟩ : ByteArray) [.string (⟨#[46, 46]⟩ : ByteArray)] from rfl) (Reps.one (show Kd.M Kd.string _ _ _ (⟨#[46]⟩ : ByteArray) [.string (⟨#[46]⟩ : ByteArray)] from rfl) (Reps.one (show Kd.M Kd.string _ _ _ (⟨#[99]⟩ : ByteArray) [.string (⟨#[99]⟩ : ByteArray)] from rfl) (Reps.none _ _))))))); intro v223 w14 ho15 hb hg_ hnew_; clear hg_ hnew_; (first | rw [← Ny222.out] at ho15 | (simp only [Int.reduceToNat] at ho15; rw [← Ny222.out] at ho15)); have n0_ := Aside0.mk (Kd.R_elder' (by (with_reducible repeat (first | apply Kd.R_alloc | apply Kd.R_drewN | apply Kd.R_drew)); exact HO_3.out) (Kd.R_base ho15) hb); have n1_ := Aside0.mk (Kd.R_elder' (by (with_reducible repeat (first | apply Kd.R_alloc | apply Kd.R_drewN | apply Kd.R_drew)); exact HO_4.out) (Kd.R_base ho15) hb); have n2_ := Aside0.mk (Kd.R_lower (Kd.R_new' (Kd.R_new' ho15 (Kd.R_lt (by (with_reducible repeat (first | apply Kd.R_alloc | apply Kd.R_drewN | apply Kd.R_drew)); exact HO_3.out))) (Kd.R_lt (by (with_reducible repeat (first | apply Kd.R_alloc | apply Kd.R_drewN | apply Kd.R_drew)); exact HO_4.out))) (below_size (by repeat (first | (with_reducible first | exact HB.out | apply below_alloc | apply pw_below_drewN | apply below_drew1) | exact HB.out)))); have n3_ := Aside0.mk (below_step (by repeat (first | (with_reducible first | exact HB.out | apply below_alloc | apply pw_below_drewN | apply below_drew1) | exact HB.out)) hb); clear HO_3; clear HO_4; clear HB; have HO_3 := n0_; have HO_4 := n1_; have HO224 := n2_; have HB := n3_; clear n0_ n1_ n2_ n3_; clear hb ho15; have p225 : 0 ≤ (x5_1 : Int) := of_decide_eq_true (by first | (with_reducible assumption) | assumption); have q225 : x5_1 < (l0.length : Int) := of_decide_eq_true (by first | (with_reducible assumption) | assumption); obtain ⟨ad225, e225, hx225_0⟩ := Kd.at_int HR0.out x5_1 p225 q225; cases e225; replace hx225_0 := (HB.out.cell (World.block_lt_of_cell? w _ hx225_0)).trans hx225_0; replace p225 := eq_true p225; replace q225 := eq_true q225; obtain ⟨Ao16, co16, eo16⟩ := Kd.R_slice HO224.out; subst eo16; have p226 : 0 ≤ ((ji9) : Int) := of_decide_eq_true (by first | (with_reducible assumption) | assumption); have q226 : (ji9) < (y222.length : Int) := of_decide_eq_true (by first | (with_reducible assumption) | assumption); obtain ⟨ad226, e226, hx226_0⟩ := Kd.at_string (Kd.R_reads' HO224.out).2.2 (ji9) p226 q226; cases e226; replace p226 := eq_true p226; replace q226 := eq_true q226) | ((with_reducible refine gate_builtin (b := .append) (xs := #[.tmp 28, .tmp 30]) rfl ?_); (try (refine gate_guard (by rfl) ?_; dsimp only)); at_builtin; refine Kd.R_append Kd.string (w0 := w) w.heap.size rfl (.tmp 28) (.tmp 30) 23 9 (.string ⟨#[]⟩) 16 rfl Tryd.underlying23 info9 rfl (by decide) (by omega) u3 x3_1 (rdOf ByteArray.empty y222 (ji9)) [.string (rdOf ByteArray.empty y222 (ji9))] (fun k_ => some k_ ≠ (u4 : Value).ownBlock ∧ some k_ ≠ (.slice (some ad226) y222.length co16 : Value).ownBlock) (fun _ => False) rfl rfl ?aP (fun _ hk => hk.elim) ?aF ?aO ?aB ?aS ?aL ?_; (case aP => exact rfl); (case aB => exact (by repeat (first | (with_reducible first | exact HB.out | apply below_alloc | apply pw_below_drewN | apply below_drew1) | exact HB.out))); (case aF => exact (fun k_ hk => ⟨Kd.fresh' (Kd.R_lt (by (with_reducible repeat (first | apply Kd.R_alloc | apply Kd.R_drewN | apply Kd.R_drew)); exact HO_4.out)) k_ hk, Kd.fresh' (Kd.R_lt (by (with_reducible repeat (first | apply Kd.R_alloc | apply Kd.R_drewN | apply Kd.R_drew)); exact HO224.out)) k_ hk⟩)); (case aO => exact (by (with_reducible repeat (first | apply Kd.R_alloc | apply Kd.R_drewN | apply Kd.R_drew)); exact HO_3.out)); (case aS => exact (below_size (by repeat (first | (with_reducible first | exact HB.out | apply below_alloc | apply pw_below_drewN | apply below_drew1) | exact HB.out)))); (case aL => have := LMc12.out; omega); intro v228 w17 ho hb hg hat; rw [← Ny227.out] at ho; have n0_ := Aside0.mk (Kd.R_after (ok := (fun k_ => some k_ ≠ (.slice (some ad226) y222.length co16 : Value).ownBlock)) (by (with_reducible repeat (first | apply Kd.R_alloc | apply Kd.R_drewN | apply Kd.R_drew)); exact Kd.R_mono HO_4.out (fun _ hk => ⟨hk.2, hk.1⟩)) hg hat); have n1_ := Aside0.mk (Kd.R_after (ok := (fun k_ => some k_ ≠ (u4 : Value).ownBlock)) (by (with_reducible repeat (first | apply Kd.R_alloc | apply Kd.R_drewN | apply Kd.R_drew)); exact Kd.R_mono HO224.out (fun _ hk => ⟨hk.2, hk.1.2⟩)) hg hat); have n2_ := Aside0.mk (hb); have n3_ := Aside0.mk (ho); clear HO_4; clear HO224; clear HB; clear HO_3; have HO_4 := n0_; have HO224 := n1_; have HB := n2_; have HO229 := n3_; clear n0_ n1_ n2_ n3_; clear ho hb hg hat)); go_upto_if 38 with (first | ((with_reducible refine gate_dst (N := 20) rfl ?_); (try (refine gate_guard (by rfl) ?_; dsimp only)); refine Kd.R_lit Kd.string _ 9 ?hg (N := 20) ?hd (xs := ([(⟨#[97]⟩ : ByteArray), (⟨#[98]⟩ : ByteArray), (⟨#[46, 46]⟩ : ByteArray), (⟨#[46]⟩ : ByteArray), (⟨#[99]⟩ : ByteArray)] : List ByteArray)) (inner := [.string (⟨#[97]⟩ : ByteArray), .string (⟨#[98]⟩ : ByteArray), .string (⟨#[46, 46]⟩ : ByteArray), .string (⟨#[46]⟩ : ByteArray), .string (⟨#[99]⟩ : ByteArray)]) (ok := fun _ => True) (okp := fun _ => True) ?hr ?hp (fun _ hk => hk) trivial (Below.refl _ _) (Nat.le_refl _) (by simp) ?_; (case hd => rfl); (case hg => rfl); (case hr => first | (go_simp; done) | (go_simp; rfl)); (case hp => exact (Reps.one (show Kd.M Kd.string _ _ _ (⟨#[97]⟩ : ByteArray) [.string (⟨#[97]⟩ : ByteArray)] from rfl) (Reps.one (show Kd.M Kd.string _ _ _ (⟨#[98]⟩ : ByteArray) [.string (⟨#[98]⟩ : ByteArray)] from rfl) (Reps.one (show Kd.M Kd.string _ _ _ (⟨#[46, 46]⟩ : ByteArray) [.string (⟨#[46, 46]⟩ : ByteArray)] from rfl) (Reps.one (show Kd.M Kd.string _ _ _ (⟨#[46]⟩ : ByteArray) [.string (⟨#[46]⟩ : ByteArray)] from rfl) (Reps.one (show Kd.M Kd.string _ _ _ (⟨#[99]⟩ : ByteArray) [.string (⟨#[99]⟩ : ByteArray)] from rfl) (Reps.none _ _))))))); intro v223 w14 ho15 hb hg_ hnew_; clear hg_ hnew_; (first | rw [← Ny222.out] at ho15 | (simp only [Int.reduceToNat] at ho15; rw [← Ny222.out] at ho15)); have n0_ := Aside0.mk (Kd.R_elder' (by (with_reducible repeat (first | apply Kd.R_alloc | apply Kd.R_drewN | apply Kd.R_drew)); exact HO_3.out) (Kd.R_base ho15) hb); have n1_ := Aside0.mk (Kd.R_elder' (by (with_reducible repeat (first | apply Kd.R_alloc | apply Kd.R_drewN | apply Kd.R_drew)); exact HO_4.out) (Kd.R_base ho15) hb); have n2_ := Aside0.mk (Kd.R_lower (Kd.R_new' (Kd.R_new' ho15 (Kd.R_lt (by (with_reducible repeat (first | apply Kd.R_alloc | apply Kd.R_drewN | apply Kd.R_drew)); exact HO_3.out))) (Kd.R_lt (by (with_reducible repeat (first | apply Kd.R_alloc | apply Kd.R_drewN | apply Kd.R_drew)); exact HO_4.out))) (below_size (by repeat (first | (with_reducible first | exact HB.out | apply below_alloc | apply pw_below_drewN | apply below_drew1) | exact HB.out)))); have n3_ := Aside0.mk (below_step (by repeat (first | (with_reducible first | exact HB.out | apply below_alloc | apply pw_below_drewN | apply below_drew1) | exact HB.out)) hb); clear HO_3; clear HO_4; clear HB; have HO_3 := n0_; have HO_4 := n1_; have HO224 := n2_; have HB := n3_; clear n0_ n1_ n2_ n3_; clear hb ho15; have p225 : 0 ≤ (x5_1 : Int) := of_decide_eq_true (by first | (with_reducible assumption) | assumption); have q225 : x5_1 < (l0.length : Int) := of_decide_eq_true (by first | (with_reducible assumption) | assumption); obtain ⟨ad225, e225, hx225_0⟩ := Kd.at_int HR0.out x5_1 p225 q225; cases e225; replace hx225_0 := (HB.out.cell (World.block_lt_of_cell? w _ hx225_0)).trans hx225_0; replace p225 := eq_true p225; replace q225 := eq_true q225; obtain ⟨Ao16, co16, eo16⟩ := Kd.R_slice HO224.out; subst eo16; have p226 : 0 ≤ ((ji9) : Int) := of_decide_eq_true (by first | (with_reducible assumption) | assumption); have q226 : (ji9) < (y222.length : Int) := of_decide_eq_true (by first | (with_reducible assumption) | assumption); obtain ⟨ad226, e226, hx226_0⟩ := Kd.at_string (Kd.R_reads' HO224.out).2.2 (ji9) p226 q226; cases e226; replace p226 := eq_true p226; replace q226 := eq_true q226) | ((with_reducible refine gate_builtin (b := .append) (xs := #[.tmp 28, .tmp 30]) rfl ?_); (try (refine gate_guard (by rfl) ?_; dsimp only)); at_builtin; refine Kd.R_append Kd.string (w0 := w) w.heap.size rfl (.tmp 28) (.tmp 30) 23 9 (.string ⟨#[]⟩) 16 rfl Tryd.underlying23 info9 rfl (by decide) (by omega) u3 x3_1 (rdOf ByteArray.empty y222 (ji9)) [.string (rdOf ByteArray.empty y222 (ji9))] (fun k_ => some k_ ≠ (u4 : Value).ownBlock ∧ some k_ ≠ (.slice (some ad226) y222.length co16 : Value).ownBlock) (fun _ => False) rfl rfl ?aP (fun _ hk => hk.elim) ?aF ?aO ?aB ?aS ?aL ?_; (case aP => exact rfl); (case aB => exact (by repeat (first | (with_reducible first | exact HB.out | apply below_alloc | apply pw_below_drewN | apply below_drew1) | exact HB.out))); (case aF => exact (fun k_ hk => ⟨Kd.fresh' (Kd.R_lt (by (with_reducible repeat (first | apply Kd.R_alloc | apply Kd.R_drewN | apply Kd.R_drew)); exact HO_4.out)) k_ hk, Kd.fresh' (Kd.R_lt (by (with_reducible repeat (first | apply Kd.R_alloc | apply Kd.R_drewN | apply Kd.R_drew)); exact HO224.out)) k_ hk⟩)); (case aO => exact (by (with_reducible repeat (first | apply Kd.R_alloc | apply Kd.R_drewN | apply Kd.R_drew)); exact HO_3.out)); (case aS => exact (below_size (by repeat (first | (with_reducible first | exact HB.out | apply below_alloc | apply pw_below_drewN | apply below_drew1) | exact HB.out)))); (case aL => have := LMc12.out; omega); intro v228 w17 ho hb hg hat; rw [← Ny227.out] at ho; have n0_ := Aside0.mk (Kd.R_after (ok := (fun k_ => some k_ ≠ (.slice (some ad226) y222.length co16 : Value).ownBlock)) (by (with_reducible repeat (first | apply Kd.R_alloc | apply Kd.R_drewN | apply Kd.R_drew)); exact Kd.R_mono HO_4.out (fun _ hk => ⟨hk.2, hk.1⟩)) hg hat); have n1_ := Aside0.mk (Kd.R_after (ok := (fun k_ => some k_ ≠ (u4 : Value).ownBlock)) (by (with_reducible repeat (first | apply Kd.R_alloc | apply Kd.R_drewN | apply Kd.R_drew)); exact Kd.R_mono HO224.out (fun _ hk => ⟨hk.2, hk.1.2⟩)) hg hat); have n2_ := Aside0.mk (hb); have n3_ := Aside0.mk (ho); clear HO_4; clear HO224; clear HB; clear HO_3; have HO_4 := n0_; have HO224 := n1_; have HB := n2_; have HO229 := n3_; clear n0_ n1_ n2_ n3_; clear ho hb hg hat)))
                    (try simp only [Act.put, List.setIfInBounds_toArray, List.set_cons_zero, List.set_cons_succ])
                    refine in_block2_ ?_
                    go_cut [4, 38] (fun v4 v38 wc => ∃ (kq : Nat) (x4_12 : List ByteArray), Aside0 (parallaxlaw19_PercentUps.j3 kq l0 y227 x4_12 x5_1 = some r) ∧ Aside0 (kq ≤ k1) ∧ Aside0 (Kd.R Kd.string 9 wc w.heap.size (fun k_ => some k_ ≠ (v4 : Value).ownBlock) v228 y227) ∧ Aside0 (Kd.R Kd.string 9 wc w.heap.size (fun k_ => some k_ ≠ (v228 : Value).ownBlock) v4 x4_12) ∧ Aside0 (Below w.heap.size w wc))
                    case first =>
                      have H := HC13.out
                      clear HC13
                      by_cases c18 : (rdOf ByteArray.empty y222 (ji9)).toList = ([46, 46] : List UInt8)
                      · rw [if_pos c18] at H
                        have c18b0 : ((rdOf ByteArray.empty y222 (ji9)).toList == ([46, 46] : List UInt8)) = true := beq_iff_eq.mpr c18
                        have c18b1 : ((rdOf ByteArray.empty y222 (ji9)).toList != ([46, 46] : List UInt8)) = false := bne_eq_false_iff_eq.mpr c18
                        clear c18
                        (first | rw [c18b0] | (simp only [i64_w, i32_w]; rw [c18b0]) | skip)
                        have HC19 := Aside0.mk H
                        clear H
                        obtain ⟨Ao20, co20, eo20⟩ := Kd.R_slice HO_4.out
                        subst eo20
                        go_upto_if 42 with (fail)
                        repeat (go_quiet (fail); go_upto_if 42 with (fail))
                        go_cut [4] (fun v4 wc => ∃ (kq : Nat) (x4_18 : List ByteArray), Aside0 (parallaxlaw19_PercentUps.j1 kq l0 y227 x4_18 x5_1 = some r) ∧ Aside0 (kq ≤ k1) ∧ Aside0 (Kd.R Kd.string 9 wc w.heap.size (fun k_ => some k_ ≠ (v4 : Value).ownBlock) v228 y227) ∧ Aside0 (Kd.R Kd.string 9 wc w.heap.size (fun k_ => some k_ ≠ (v228 : Value).ownBlock) v4 x4_18) ∧ Aside0 (Below w.heap.size w wc))
                        case first =>
                          have H := HC19.out
                          clear HC19
                          by_cases c21 : (x4_1.length : Int) > 0
                          · rw [if_pos c21] at H
                            have c21b0 : decide (0 < (x4_1.length : Int)) = true := decide_eq_true c21
                            have c21b1 : decide (0 < x4_1.length) = true := decide_eq_true (by omega)
                            have c21b2 : (0 < x4_1.length) = True := eq_true (by omega)
                            clear c21
                            (first | rw [c21b0] | (simp only [i64_w, i32_w]; rw [c21b0]) | rw [c21b1] | skip)
                            obtain ⟨ji22, hji22⟩ : ∃ j_ : Int, (wrap64 ((x4_1.length : Int) - 1)) = j_ := ⟨_, rfl⟩
                            replace H : (if 0 ≤ (ji22) then (if (ji22) ≤ (x4_1.length : Int) then (parallaxlaw19_PercentUps.j1 k1 l0 y227 (x4_1.take ((ji22) : Int).toNat) x5_1) else (none)) else (none)) = some r := by first | (rw [hji22] at H; exact H) | (simp only [hji22] at H ⊢; exact H)
                            have hji22w : (IntKind.i64.wrap ((x4_1.length : Int) - 1)) = ji22 := (i64_w _).trans hji22
                            by_cases c23 : 0 ≤ (ji22)
                            · rw [if_pos c23] at H
                              have c23b0 := eq_true c23
                              have c23b1 : decide (0 ≤ (ji22)) = true := decide_eq_true c23
                              clear c23
                              by_cases c24 : (ji22) ≤ (x4_1.length : Int)
                              · rw [if_pos c24] at H
                                have c24b0 := eq_true c24
                                have c24b1 : decide ((ji22) ≤ (x4_1.length : Int)) = true := decide_eq_true c24
                                clear c24
                                obtain ⟨y230, hy230⟩ : ∃ y_ : List ByteArray, y_ = (x4_1.take ((ji22) : Int).toNat) := ⟨_, rfl⟩
                                replace H : (parallaxlaw19_PercentUps.j1 k1 l0 y227 y230 x5_1) = some r := by first | (rw [hy230]; with_reducible exact H) | (have H2_ := (Option.bind_some _ _).symm.trans H; rw [hy230]; with_reducible exact H2_) | (have H2_ := (Option.bind_some _ _).symm.trans H; with_reducible exact H2_) | with_reducible exact H | (rw [hy230]; exact H) | exact H
                                have Ny230 := Aside0.mk hy230
                                clear hy230
                                have H' := Aside0.mk H
                                clear H
                                have q25 : ((ji22) : Int) ≤ ((x4_1.length : Int) : Int) := of_decide_eq_true (by first | (with_reducible assumption) | assumption)
                                obtain ⟨i025, hi025, _, hsz25, _⟩ := info_parts info9
                                have hcut25 := cut_to (P := Tryd.prog) 23 9 .i64 Tryd.underlying23 hi025 Ao20 x4_1.length co20 (ji22) (of_decide_eq_true (by first | (with_reducible assumption) | assumption)) q25 (Kd.R_reads' HO_4.out).2.1
                                have hr25 := Kd.R_take (m := ((ji22) : Int).toNat) HO_4.out (by omega)
                                have hy25 : y230.length = ((ji22) : Int).toNat := (by rw [Ny230.out, List.length_take]; exact (show min _ _ = _ from (by omega)))
                                rw [← Ny230.out] at hr25
                                rw [← hy25] at hr25 hcut25
                                clear hy25 hi025 hsz25 HO_4
                                have HO232 := Aside0.mk hr25
                                clear hr25
                                replace q25 := eq_true q25
                                go_wp2
                                repeat (go_quiet (fail); try go_wp2)
                                go_meet
                                case rel => exact ⟨_, (y230), H', ⟨by have := HK1.out; first | omega | exact Nat.le_refl _⟩, ⟨by (with_reducible repeat (first | apply Kd.R_alloc | apply Kd.R_drewN | apply Kd.R_drew)); exact Kd.R_mono HO229.out (fun _ hk => by cases Ao20 <;> exact hk.1)⟩, ⟨by (with_reducible repeat (first | apply Kd.R_alloc | apply Kd.R_drewN | apply Kd.R_drew)); exact Kd.R_mono HO232.out (fun _ hk => (by first | exact hk.2 | exact True.intro))⟩, ⟨by repeat (first | (with_reducible first | exact HB.out | apply below_alloc | apply pw_below_drewN | apply below_drew1) | exact HB.out)⟩⟩
                              · rw [if_neg c24] at H
                                exact absurd H (by simp)
                            · rw [if_neg c23] at H
                              exact absurd H (by simp)
                          · rw [if_neg c21] at H
                            have c21b0 : decide (0 < (x4_1.length : Int)) = false := decide_eq_false c21
                            have c21b1 : decide (0 < x4_1.length) = false := decide_eq_false (by omega)
                            clear c21
                            (first | rw [c21b0] | (simp only [i64_w, i32_w]; rw [c21b0]) | rw [c21b1] | skip)
                            have H' := Aside0.mk H
                            clear H
                            go_wp2
                            repeat (go_quiet (fail); try go_wp2)
                            go_meet
                            case rel => exact ⟨_, (x4_1), H', ⟨by have := HK1.out; first | omega | exact Nat.le_refl _⟩, ⟨by (with_reducible repeat (first | apply Kd.R_alloc | apply Kd.R_drewN | apply Kd.R_drew)); exact Kd.R_mono HO229.out (fun _ hk => hk.1)⟩, ⟨by (with_reducible repeat (first | apply Kd.R_alloc | apply Kd.R_drewN | apply Kd.R_drew)); exact Kd.R_mono HO_4.out (fun _ hk => (by first | exact hk.2 | exact True.intro))⟩, ⟨by repeat (first | (with_reducible first | exact HB.out | apply below_alloc | apply pw_below_drewN | apply below_drew1) | exact HB.out)⟩⟩
                        case rest =>
                          clear HC19
                          try clear c1
                          try clear c2
                          try clear p2
                          try clear q2
                          try clear hx2
                          try clear c3
                          try clear c4
                          try clear c4b0
                          try clear c4b1
                          try clear c6
                          try clear p6
                          try clear c7
                          try clear c7b0
                          try clear c8
                          try clear c8b0
                          try clear c10
                          try clear c10b0
                          try clear c11
                          try clear c11b0
                          try clear c12
                          try clear c18
                          try clear c18b0
                          try clear c18b1
                          try clear c21
                          try clear c21b0
                          try clear c21b1
                          try clear p22
                          try clear q22
                          try clear hx22
                          try clear c23
                          try clear c23b0
                          try clear c23b1
                          try clear c24
                          try clear c24b0
                          try clear c24b1
                          try clear q25
                          try clear hx225_0
                          try clear hx226_0
                          try clear p2
                          try clear p225
                          try clear p226
                          try clear q225
                          try clear q226
                          try clear q25
                          obtain ⟨kq, x4_18, HA, HJ18, HO_3, HO_4, HB⟩ := hcut
                          cases kq with
                          | zero => exact absurd HA.out (by simp [parallaxlaw19_PercentUps.j1])
                          | succ kj18 =>
                            have H := HA.out
                            clear HA
                            simp only [parallaxlaw19_PercentUps.j1] at H
                            have H' := Aside0.mk H
                            clear H
                            go_wp2
                            repeat (go_quiet (fail); try go_wp2)
                            go_meet
                            case rel => exact ⟨_, (x4_18), H', ⟨by have := HK1.out; have := HJ18.out; first | omega | exact Nat.le_refl _⟩, ⟨by (with_reducible repeat (first | apply Kd.R_alloc | apply Kd.R_drewN | apply Kd.R_drew)); exact HO_3.out⟩, ⟨by (with_reducible repeat (first | apply Kd.R_alloc | apply Kd.R_drewN | apply Kd.R_drew)); exact HO_4.out⟩, ⟨by repeat (first | (with_reducible first | exact HB.out | apply below_alloc | apply pw_below_drewN | apply below_drew1) | exact HB.out)⟩⟩
                      · rw [if_neg c18] at H
                        have c18b0 : ((rdOf ByteArray.empty y222 (ji9)).toList == ([46, 46] : List UInt8)) = false := beq_eq_false_iff_ne.mpr c18
                        have c18b1 : ((rdOf ByteArray.empty y222 (ji9)).toList != ([46, 46] : List UInt8)) = true := bne_iff_ne.mpr c18
                        (first | rw [c18b0] | (simp only [i64_w, i32_w]; rw [c18b0]) | skip)
                        have HC26 := Aside0.mk H
                        clear H
                        go_upto_if 48 with (fail)
                        repeat (go_quiet (fail); go_upto_if 48 with (fail))
                        go_cut [4, 48] (fun v4 v48 wc => ∃ (kq : Nat) (x4_25 : List ByteArray), Aside0 (parallaxlaw19_PercentUps.j2 kq l0 y227 x4_25 x5_1 = some r) ∧ Aside0 (kq ≤ k1) ∧ Aside0 (Kd.R Kd.string 9 wc w.heap.size (fun k_ => some k_ ≠ (v4 : Value).ownBlock) v228 y227) ∧ Aside0 (Kd.R Kd.string 9 wc w.heap.size (fun k_ => some k_ ≠ (v228 : Value).ownBlock) v4 x4_25) ∧ Aside0 (Below w.heap.size w wc))
                        case first =>
                          have H := HC26.out
                          clear HC26
                          by_cases c27 : (rdOf ByteArray.empty y222 (ji9)).toList = ([46] : List UInt8)
                          · rw [if_pos c27] at H
                            have c27b0 : ((rdOf ByteArray.empty y222 (ji9)).toList == ([46] : List UInt8)) = true := beq_iff_eq.mpr c27
                            have c27b1 : ((rdOf ByteArray.empty y222 (ji9)).toList != ([46] : List UInt8)) = false := bne_eq_false_iff_eq.mpr c27
                            clear c27
                            (first | rw [c27b0] | (simp only [i64_w, i32_w]; rw [c27b0]) | skip)
                            have H' := Aside0.mk H
                            clear H
                            go_wp2
                            repeat (go_quiet (fail); try go_wp2)
                            go_meet
                            case rel => exact ⟨_, (x4_1), H', ⟨by have := HK1.out; first | omega | exact Nat.le_refl _⟩, ⟨by (with_reducible repeat (first | apply Kd.R_alloc | apply Kd.R_drewN | apply Kd.R_drew)); exact Kd.R_mono HO229.out (fun _ hk => hk.1)⟩, ⟨by (with_reducible repeat (first | apply Kd.R_alloc | apply Kd.R_drewN | apply Kd.R_drew)); exact Kd.R_mono HO_4.out (fun _ hk => (by first | exact hk.2 | exact True.intro))⟩, ⟨by repeat (first | (with_reducible first | exact HB.out | apply below_alloc | apply pw_below_drewN | apply below_drew1) | exact HB.out)⟩⟩
                          · rw [if_neg c27] at H
                            have c27b0 : ((rdOf ByteArray.empty y222 (ji9)).toList == ([46] : List UInt8)) = false := beq_eq_false_iff_ne.mpr c27
                            have c27b1 : ((rdOf ByteArray.empty y222 (ji9)).toList != ([46] : List UInt8)) = true := bne_iff_ne.mpr c27
                            (first | rw [c27b0] | (simp only [i64_w, i32_w]; rw [c27b0]) | skip)
                            by_cases c28 : ([] : List ByteArray).length + x4_1.length < 8796093022208
                            · rw [if_pos c28] at H
                              have LMc28 := Aside0.mk c28
                              clear c28
                              obtain ⟨y233, hy233⟩ : ∃ y_ : List ByteArray, y_ = (([] : List ByteArray) ++ x4_1) := ⟨_, rfl⟩
                              replace H : (if y233.length < 8796093022208 then (parallaxlaw19_PercentUps.j2 k1 l0 y227 (y233 ++ [rdOf ByteArray.empty y222 (ji9)]) x5_1) else (none)) = some r := by first | (rw [hy233]; with_reducible exact H) | (have H2_ := (Option.bind_some _ _).symm.trans H; rw [hy233]; with_reducible exact H2_) | (have H2_ := (Option.bind_some _ _).symm.trans H; with_reducible exact H2_) | with_reducible exact H | (rw [hy233]; exact H) | exact H
                              have Ny233 := Aside0.mk hy233
                              clear hy233
                              by_cases c29 : y233.length < 8796093022208
                              · rw [if_pos c29] at H
                                have LMc29 := Aside0.mk c29
                                clear c29
                                obtain ⟨y236, hy236⟩ : ∃ y_ : List ByteArray, y_ = (y233 ++ [rdOf ByteArray.empty y222 (ji9)]) := ⟨_, rfl⟩
                                replace H : (parallaxlaw19_PercentUps.j2 k1 l0 y227 y236 x5_1) = some r := by first | (rw [hy236]; with_reducible exact H) | (have H2_ := (Option.bind_some _ _).symm.trans H; rw [hy236]; with_reducible exact H2_) | (have H2_ := (Option.bind_some _ _).symm.trans H; with_reducible exact H2_) | with_reducible exact H | (rw [hy236]; exact H) | exact H
                                have Ny236 := Aside0.mk hy236
                                clear hy236
                                have H' := Aside0.mk H
                                clear H
                                obtain ⟨Ao31, co31, eo31⟩ := Kd.R_slice HO_4.out
                                subst eo31
                                go_wp2_with (first | ((with_reducible refine gate_builtin (b := .append) (xs := #[.const (.slice none 0 0), .tmp 33]) rfl ?_); (try (refine gate_guard (by rfl) ?_; dsimp only)); at_builtin; refine Kd.R_append_rows Kd.string (w0 := w) w.heap.size rfl (.const (.slice none 0 0)) (.tmp 33) 23 9 (.string ⟨#[]⟩) 16 rfl Tryd.underlying23 info9 rfl (by decide) (by omega) (.slice none 0 0) ([] : List ByteArray) x4_1 _ _ _ (fun k_ => some k_ ≠ (.slice Ao31 x4_1.length co31 : Value).ownBlock ∧ some k_ ≠ (.slice (some ad226) y222.length co16 : Value).ownBlock ∧ some k_ ≠ (v228 : Value).ownBlock) (fun _ => False) rfl rfl ?aO ?aR (fun _ _ h => h) (fun _ h => h.elim) ?aF ?aB ?aS ?aL ?_; (case aR => repeat (first | exact (Kd.R_reads' HO_4.out).2.2 | (with_reducible refine Kd.C_alloc ?_ _) | (with_reducible refine Kd.C_drewN ?_ _) | (with_reducible refine Kd.C_drew ?_))); (case aB => exact (by repeat (first | (with_reducible first | exact HB.out | apply below_alloc | apply pw_below_drewN | apply below_drew1) | exact HB.out))); (case aF => exact (fun k_ hk => ⟨Kd.fresh' (Kd.R_lt (by (with_reducible repeat (first | apply Kd.R_alloc | apply Kd.R_drewN | apply Kd.R_drew)); exact HO_4.out)) k_ hk, Kd.fresh' (Kd.R_lt (by (with_reducible repeat (first | apply Kd.R_alloc | apply Kd.R_drewN | apply Kd.R_drew)); exact HO224.out)) k_ hk, Kd.fresh' (Kd.R_lt (by (with_reducible repeat (first | apply Kd.R_alloc | apply Kd.R_drewN | apply Kd.R_drew)); exact HO229.out)) k_ hk⟩)); (case aO => exact ((Kd.R_nil _ _ _ _ (fun k_ => some k_ ≠ (.slice Ao31 x4_1.length co31 : Value).ownBlock ∧ some k_ ≠ (.slice (some ad226) y222.length co16 : Value).ownBlock ∧ some k_ ≠ (v228 : Value).ownBlock)))); (case aS => exact (below_size (by repeat (first | (with_reducible first | exact HB.out | apply below_alloc | apply pw_below_drewN | apply below_drew1) | exact HB.out)))); (case aL => have := LMc28.out; omega); intro v234 w30 ho hb hg hat; rw [← Ny233.out] at ho; have n0_ := Aside0.mk (Kd.R_after (Kd.R_apart_nil (by (with_reducible repeat (first | apply Kd.R_alloc | apply Kd.R_drewN | apply Kd.R_drew)); exact HO_4.out)) hg hat); have n1_ := Aside0.mk (Kd.R_after (Kd.R_apart_nil (by (with_reducible repeat (first | apply Kd.R_alloc | apply Kd.R_drewN | apply Kd.R_drew)); exact HO224.out)) hg hat); have n2_ := Aside0.mk (Kd.R_after (Kd.R_apart_nil (by (with_reducible repeat (first | apply Kd.R_alloc | apply Kd.R_drewN | apply Kd.R_drew)); exact HO229.out)) hg hat); have n3_ := Aside0.mk (hb); have n4_ := Aside0.mk (ho); clear HO_4; clear HO224; clear HO229; clear HB; have HO_4 := n0_; have HO224 := n1_; have HO229 := n2_; have HB := n3_; have HO235 := n4_; clear n0_ n1_ n2_ n3_ n4_; clear ho hb hg hat) | ((with_reducible refine gate_builtin (b := .append) (xs := #[.tmp 34, .tmp 36]) rfl ?_); (try (refine gate_guard (by rfl) ?_; dsimp only)); at_builtin; refine Kd.R_append Kd.string (w0 := w) w.heap.size rfl (.tmp 34) (.tmp 36) 23 9 (.string ⟨#[]⟩) 16 rfl Tryd.underlying23 info9 rfl (by decide) (by omega) v234 y233 (rdOf ByteArray.empty y222 (ji9)) [.string (rdOf ByteArray.empty y222 (ji9))] (fun k_ => some k_ ≠ (.slice Ao31 x4_1.length co31 : Value).ownBlock ∧ some k_ ≠ (.slice (some ad226) y222.length co16 : Value).ownBlock ∧ some k_ ≠ (v228 : Value).ownBlock) (fun _ => False) rfl rfl ?aP (fun _ hk => hk.elim) ?aF ?aO ?aB ?aS ?aL ?_; (case aP => exact rfl); (case aB => exact (by repeat (first | (with_reducible first | exact HB.out | apply below_alloc | apply pw_below_drewN | apply below_drew1) | exact HB.out))); (case aF => exact (fun k_ hk => ⟨Kd.fresh' (Kd.R_lt (by (with_reducible repeat (first | apply Kd.R_alloc | apply Kd.R_drewN | apply Kd.R_drew)); exact HO_4.out)) k_ hk, Kd.fresh' (Kd.R_lt (by (with_reducible repeat (first | apply Kd.R_alloc | apply Kd.R_drewN | apply Kd.R_drew)); exact HO224.out)) k_ hk, Kd.fresh' (Kd.R_lt (by (with_reducible repeat (first | apply Kd.R_alloc | apply Kd.R_drewN | apply Kd.R_drew)); exact HO229.out)) k_ hk⟩)); (case aO => exact (by (with_reducible repeat (first | apply Kd.R_alloc | apply Kd.R_drewN | apply Kd.R_drew)); exact HO235.out)); (case aS => exact (below_size (by repeat (first | (with_reducible first | exact HB.out | apply below_alloc | apply pw_below_drewN | apply below_drew1) | exact HB.out)))); (case aL => have := LMc29.out; omega); intro v237 w32 ho hb hg hat; rw [← Ny236.out] at ho; have n0_ := Aside0.mk (Kd.R_after (ok := (fun k_ => some k_ ≠ (.slice (some ad226) y222.length co16 : Value).ownBlock ∧ some k_ ≠ (v228 : Value).ownBlock)) (by (with_reducible repeat (first | apply Kd.R_alloc | apply Kd.R_drewN | apply Kd.R_drew)); exact HO_4.out) hg hat); have n1_ := Aside0.mk (Kd.R_after (ok := (fun k_ => some k_ ≠ (.slice Ao31 x4_1.length co31 : Value).ownBlock ∧ some k_ ≠ (v228 : Value).ownBlock)) (by (with_reducible repeat (first | apply Kd.R_alloc | apply Kd.R_drewN | apply Kd.R_drew)); exact HO224.out) hg hat); have n2_ := Aside0.mk (Kd.R_after (ok := (fun k_ => some k_ ≠ (.slice Ao31 x4_1.length co31 : Value).ownBlock ∧ some k_ ≠ (.slice (some ad226) y222.length co16 : Value).ownBlock)) (by (with_reducible repeat (first | apply Kd.R_alloc | apply Kd.R_drewN | apply Kd.R_drew)); exact HO229.out) hg hat); have n3_ := Aside0.mk (hb); have n4_ := Aside0.mk (ho); clear HO_4; clear HO224; clear HO229; clear HB; clear HO235; have HO_4 := n0_; have HO224 := n1_; have HO229 := n2_; have HB := n3_; have HO238 := n4_; clear n0_ n1_ n2_ n3_ n4_; clear ho hb hg hat))
                                repeat (go_quiet (first | ((with_reducible refine gate_builtin (b := .append) (xs := #[.const (.slice none 0 0), .tmp 33]) rfl ?_); (try (refine gate_guard (by rfl) ?_; dsimp only)); at_builtin; refine Kd.R_append_rows Kd.string (w0 := w) w.heap.size rfl (.const (.slice none 0 0)) (.tmp 33) 23 9 (.string ⟨#[]⟩) 16 rfl Tryd.underlying23 info9 rfl (by decide) (by omega) (.slice none 0 0) ([] : List ByteArray) x4_1 _ _ _ (fun k_ => some k_ ≠ (.slice Ao31 x4_1.length co31 : Value).ownBlock ∧ some k_ ≠ (.slice (some ad226) y222.length co16 : Value).ownBlock ∧ some k_ ≠ (v228 : Value).ownBlock) (fun _ => False) rfl rfl ?aO ?aR (fun _ _ h => h) (fun _ h => h.elim) ?aF ?aB ?aS ?aL ?_; (case aR => repeat (first | exact (Kd.R_reads' HO_4.out).2.2 | (with_reducible refine Kd.C_alloc ?_ _) | (with_reducible refine Kd.C_drewN ?_ _) | (with_reducible refine Kd.C_drew ?_))); (case aB => exact (by repeat (first | (with_reducible first | exact HB.out | apply below_alloc | apply pw_below_drewN | apply below_drew1) | exact HB.out))); (case aF => exact (fun k_ hk => ⟨Kd.fresh' (Kd.R_lt (by (with_reducible repeat (first | apply Kd.R_alloc | apply Kd.R_drewN | apply Kd.R_drew)); exact HO_4.out)) k_ hk, Kd.fresh' (Kd.R_lt (by (with_reducible repeat (first | apply Kd.R_alloc | apply Kd.R_drewN | apply Kd.R_drew)); exact HO224.out)) k_ hk, Kd.fresh' (Kd.R_lt (by (with_reducible repeat (first | apply Kd.R_alloc | apply Kd.R_drewN | apply Kd.R_drew)); exact HO229.out)) k_ hk⟩)); (case aO => exact ((Kd.R_nil _ _ _ _ (fun k_ => some k_ ≠ (.slice Ao31 x4_1.length co31 : Value).ownBlock ∧ some k_ ≠ (.slice (some ad226) y222.length co16 : Value).ownBlock ∧ some k_ ≠ (v228 : Value).ownBlock)))); (case aS => exact (below_size (by repeat (first | (with_reducible first | exact HB.out | apply below_alloc | apply pw_below_drewN | apply below_drew1) | exact HB.out)))); (case aL => have := LMc28.out; omega); intro v234 w30 ho hb hg hat; rw [← Ny233.out] at ho; have n0_ := Aside0.mk (Kd.R_after (Kd.R_apart_nil (by (with_reducible repeat (first | apply Kd.R_alloc | apply Kd.R_drewN | apply Kd.R_drew)); exact HO_4.out)) hg hat); have n1_ := Aside0.mk (Kd.R_after (Kd.R_apart_nil (by (with_reducible repeat (first | apply Kd.R_alloc | apply Kd.R_drewN | apply Kd.R_drew)); exact HO224.out)) hg hat); have n2_ := Aside0.mk (Kd.R_after (Kd.R_apart_nil (by (with_reducible repeat (first | apply Kd.R_alloc | apply Kd.R_drewN | apply Kd.R_drew)); exact HO229.out)) hg hat); have n3_ := Aside0.mk (hb); have n4_ := Aside0.mk (ho); clear HO_4; clear HO224; clear HO229; clear HB; have HO_4 := n0_; have HO224 := n1_; have HO229 := n2_; have HB := n3_; have HO235 := n4_; clear n0_ n1_ n2_ n3_ n4_; clear ho hb hg hat) | ((with_reducible refine gate_builtin (b := .append) (xs := #[.tmp 34, .tmp 36]) rfl ?_); (try (refine gate_guard (by rfl) ?_; dsimp only)); at_builtin; refine Kd.R_append Kd.string (w0 := w) w.heap.size rfl (.tmp 34) (.tmp 36) 23 9 (.string ⟨#[]⟩) 16 rfl Tryd.underlying23 info9 rfl (by decide) (by omega) v234 y233 (rdOf ByteArray.empty y222 (ji9)) [.string (rdOf ByteArray.empty y222 (ji9))] (fun k_ => some k_ ≠ (.slice Ao31 x4_1.length co31 : Value).ownBlock ∧ some k_ ≠ (.slice (some ad226) y222.length co16 : Value).ownBlock ∧ some k_ ≠ (v228 : Value).ownBlock) (fun _ => False) rfl rfl ?aP (fun _ hk => hk.elim) ?aF ?aO ?aB ?aS ?aL ?_; (case aP => exact rfl); (case aB => exact (by repeat (first | (with_reducible first | exact HB.out | apply below_alloc | apply pw_below_drewN | apply below_drew1) | exact HB.out))); (case aF => exact (fun k_ hk => ⟨Kd.fresh' (Kd.R_lt (by (with_reducible repeat (first | apply Kd.R_alloc | apply Kd.R_drewN | apply Kd.R_drew)); exact HO_4.out)) k_ hk, Kd.fresh' (Kd.R_lt (by (with_reducible repeat (first | apply Kd.R_alloc | apply Kd.R_drewN | apply Kd.R_drew)); exact HO224.out)) k_ hk, Kd.fresh' (Kd.R_lt (by (with_reducible repeat (first | apply Kd.R_alloc | apply Kd.R_drewN | apply Kd.R_drew)); exact HO229.out)) k_ hk⟩)); (case aO => exact (by (with_reducible repeat (first | apply Kd.R_alloc | apply Kd.R_drewN | apply Kd.R_drew)); exact HO235.out)); (case aS => exact (below_size (by repeat (first | (with_reducible first | exact HB.out | apply below_alloc | apply pw_below_drewN | apply below_drew1) | exact HB.out)))); (case aL => have := LMc29.out; omega); intro v237 w32 ho hb hg hat; rw [← Ny236.out] at ho; have n0_ := Aside0.mk (Kd.R_after (ok := (fun k_ => some k_ ≠ (.slice (some ad226) y222.length co16 : Value).ownBlock ∧ some k_ ≠ (v228 : Value).ownBlock)) (by (with_reducible repeat (first | apply Kd.R_alloc | apply Kd.R_drewN | apply Kd.R_drew)); exact HO_4.out) hg hat); have n1_ := Aside0.mk (Kd.R_after (ok := (fun k_ => some k_ ≠ (.slice Ao31 x4_1.length co31 : Value).ownBlock ∧ some k_ ≠ (v228 : Value).ownBlock)) (by (with_reducible repeat (first | apply Kd.R_alloc | apply Kd.R_drewN | apply Kd.R_drew)); exact HO224.out) hg hat); have n2_ := Aside0.mk (Kd.R_after (ok := (fun k_ => some k_ ≠ (.slice Ao31 x4_1.length co31 : Value).ownBlock ∧ some k_ ≠ (.slice (some ad226) y222.length co16 : Value).ownBlock)) (by (with_reducible repeat (first | apply Kd.R_alloc | apply Kd.R_drewN | apply Kd.R_drew)); exact HO229.out) hg hat); have n3_ := Aside0.mk (hb); have n4_ := Aside0.mk (ho); clear HO_4; clear HO224; clear HO229; clear HB; clear HO235; have HO_4 := n0_; have HO224 := n1_; have HO229 := n2_; have HB := n3_; have HO238 := n4_; clear n0_ n1_ n2_ n3_ n4_; clear ho hb hg hat)); try go_wp2_with (first | ((with_reducible refine gate_builtin (b := .append) (xs := #[.const (.slice none 0 0), .tmp 33]) rfl ?_); (try (refine gate_guard (by rfl) ?_; dsimp only)); at_builtin; refine Kd.R_append_rows Kd.string (w0 := w) w.heap.size rfl (.const (.slice none 0 0)) (.tmp 33) 23 9 (.string ⟨#[]⟩) 16 rfl Tryd.underlying23 info9 rfl (by decide) (by omega) (.slice none 0 0) ([] : List ByteArray) x4_1 _ _ _ (fun k_ => some k_ ≠ (.slice Ao31 x4_1.length co31 : Value).ownBlock ∧ some k_ ≠ (.slice (some ad226) y222.length co16 : Value).ownBlock ∧ some k_ ≠ (v228 : Value).ownBlock) (fun _ => False) rfl rfl ?aO ?aR (fun _ _ h => h) (fun _ h => h.elim) ?aF ?aB ?aS ?aL ?_; (case aR => repeat (first | exact (Kd.R_reads' HO_4.out).2.2 | (with_reducible refine Kd.C_alloc ?_ _) | (with_reducible refine Kd.C_drewN ?_ _) | (with_reducible refine Kd.C_drew ?_))); (case aB => exact (by repeat (first | (with_reducible first | exact HB.out | apply below_alloc | apply pw_below_drewN | apply below_drew1) | exact HB.out))); (case aF => exact (fun k_ hk => ⟨Kd.fresh' (Kd.R_lt (by (with_reducible repeat (first | apply Kd.R_alloc | apply Kd.R_drewN | apply Kd.R_drew)); exact HO_4.out)) k_ hk, Kd.fresh' (Kd.R_lt (by (with_reducible repeat (first | apply Kd.R_alloc | apply Kd.R_drewN | apply Kd.R_drew)); exact HO224.out)) k_ hk, Kd.fresh' (Kd.R_lt (by (with_reducible repeat (first | apply Kd.R_alloc | apply Kd.R_drewN | apply Kd.R_drew)); exact HO229.out)) k_ hk⟩)); (case aO => exact ((Kd.R_nil _ _ _ _ (fun k_ => some k_ ≠ (.slice Ao31 x4_1.length co31 : Value).ownBlock ∧ some k_ ≠ (.slice (some ad226) y222.length co16 : Value).ownBlock ∧ some k_ ≠ (v228 : Value).ownBlock)))); (case aS => exact (below_size (by repeat (first | (with_reducible first | exact HB.out | apply below_alloc | apply pw_below_drewN | apply below_drew1) | exact HB.out)))); (case aL => have := LMc28.out; omega); intro v234 w30 ho hb hg hat; rw [← Ny233.out] at ho; have n0_ := Aside0.mk (Kd.R_after (Kd.R_apart_nil (by (with_reducible repeat (first | apply Kd.R_alloc | apply Kd.R_drewN | apply Kd.R_drew)); exact HO_4.out)) hg hat); have n1_ := Aside0.mk (Kd.R_after (Kd.R_apart_nil (by (with_reducible repeat (first | apply Kd.R_alloc | apply Kd.R_drewN | apply Kd.R_drew)); exact HO224.out)) hg hat); have n2_ := Aside0.mk (Kd.R_after (Kd.R_apart_nil (by (with_reducible repeat (first | apply Kd.R_alloc | apply Kd.R_drewN | apply Kd.R_drew)); exact HO229.out)) hg hat); have n3_ := Aside0.mk (hb); have n4_ := Aside0.mk (ho); clear HO_4; clear HO224; clear HO229; clear HB; have HO_4 := n0_; have HO224 := n1_; have HO229 := n2_; have HB := n3_; have HO235 := n4_; clear n0_ n1_ n2_ n3_ n4_; clear ho hb hg hat) | ((with_reducible refine gate_builtin (b := .append) (xs := #[.tmp 34, .tmp 36]) rfl ?_); (try (refine gate_guard (by rfl) ?_; dsimp only)); at_builtin; refine Kd.R_append Kd.string (w0 := w) w.heap.size rfl (.tmp 34) (.tmp 36) 23 9 (.string ⟨#[]⟩) 16 rfl Tryd.underlying23 info9 rfl (by decide) (by omega) v234 y233 (rdOf ByteArray.empty y222 (ji9)) [.string (rdOf ByteArray.empty y222 (ji9))] (fun k_ => some k_ ≠ (.slice Ao31 x4_1.length co31 : Value).ownBlock ∧ some k_ ≠ (.slice (some ad226) y222.length co16 : Value).ownBlock ∧ some k_ ≠ (v228 : Value).ownBlock) (fun _ => False) rfl rfl ?aP (fun _ hk => hk.elim) ?aF ?aO ?aB ?aS ?aL ?_; (case aP => exact rfl); (case aB => exact (by repeat (first | (with_reducible first | exact HB.out | apply below_alloc | apply pw_below_drewN | apply below_drew1) | exact HB.out))); (case aF => exact (fun k_ hk => ⟨Kd.fresh' (Kd.R_lt (by (with_reducible repeat (first | apply Kd.R_alloc | apply Kd.R_drewN | apply Kd.R_drew)); exact HO_4.out)) k_ hk, Kd.fresh' (Kd.R_lt (by (with_reducible repeat (first | apply Kd.R_alloc | apply Kd.R_drewN | apply Kd.R_drew)); exact HO224.out)) k_ hk, Kd.fresh' (Kd.R_lt (by (with_reducible repeat (first | apply Kd.R_alloc | apply Kd.R_drewN | apply Kd.R_drew)); exact HO229.out)) k_ hk⟩)); (case aO => exact (by (with_reducible repeat (first | apply Kd.R_alloc | apply Kd.R_drewN | apply Kd.R_drew)); exact HO235.out)); (case aS => exact (below_size (by repeat (first | (with_reducible first | exact HB.out | apply below_alloc | apply pw_below_drewN | apply below_drew1) | exact HB.out)))); (case aL => have := LMc29.out; omega); intro v237 w32 ho hb hg hat; rw [← Ny236.out] at ho; have n0_ := Aside0.mk (Kd.R_after (ok := (fun k_ => some k_ ≠ (.slice (some ad226) y222.length co16 : Value).ownBlock ∧ some k_ ≠ (v228 : Value).ownBlock)) (by (with_reducible repeat (first | apply Kd.R_alloc | apply Kd.R_drewN | apply Kd.R_drew)); exact HO_4.out) hg hat); have n1_ := Aside0.mk (Kd.R_after (ok := (fun k_ => some k_ ≠ (.slice Ao31 x4_1.length co31 : Value).ownBlock ∧ some k_ ≠ (v228 : Value).ownBlock)) (by (with_reducible repeat (first | apply Kd.R_alloc | apply Kd.R_drewN | apply Kd.R_drew)); exact HO224.out) hg hat); have n2_ := Aside0.mk (Kd.R_after (ok := (fun k_ => some k_ ≠ (.slice Ao31 x4_1.length co31 : Value).ownBlock ∧ some k_ ≠ (.slice (some ad226) y222.length co16 : Value).ownBlock)) (by (with_reducible repeat (first | apply Kd.R_alloc | apply Kd.R_drewN | apply Kd.R_drew)); exact HO229.out) hg hat); have n3_ := Aside0.mk (hb); have n4_ := Aside0.mk (ho); clear HO_4; clear HO224; clear HO229; clear HB; clear HO235; have HO_4 := n0_; have HO224 := n1_; have HO229 := n2_; have HB := n3_; have HO238 := n4_; clear n0_ n1_ n2_ n3_ n4_; clear ho hb hg hat)))
                                go_meet
                                case rel => exact ⟨_, (y236), H', ⟨by have := HK1.out; first | omega | exact Nat.le_refl _⟩, ⟨by (with_reducible repeat (first | apply Kd.R_alloc | apply Kd.R_drewN | apply Kd.R_drew)); exact Kd.R_mono HO229.out (fun _ hk => (by first | exact hk.2 | exact True.intro))⟩, ⟨by (with_reducible repeat (first | apply Kd.R_alloc | apply Kd.R_drewN | apply Kd.R_drew)); exact Kd.R_mono HO238.out (fun _ hk => hk.2.2)⟩, ⟨by repeat (first | (with_reducible first | exact HB.out | apply below_alloc | apply pw_below_drewN | apply below_drew1) | exact HB.out)⟩⟩
                              · rw [if_neg c29] at H
                                exact absurd H (by simp)
                            · rw [if_neg c28] at H
                              exact absurd H (by simp)
                        case rest =>
                          clear HC26
                          try clear c1
                          try clear c2
                          try clear p2
                          try clear q2
                          try clear hx2
                          try clear c3
                          try clear c4
                          try clear c4b0
                          try clear c4b1
                          try clear c6
                          try clear p6
                          try clear c7
                          try clear c7b0
                          try clear c8
                          try clear c8b0
                          try clear c10
                          try clear c10b0
                          try clear c11
                          try clear c11b0
                          try clear c12
                          try clear c18
                          try clear c18b0
                          try clear c18b1
                          try clear c21
                          try clear c21b0
                          try clear c21b1
                          try clear p22
                          try clear q22
                          try clear hx22
                          try clear c23
                          try clear c23b0
                          try clear c23b1
                          try clear c24
                          try clear c24b0
                          try clear c24b1
                          try clear q25
                          try clear c27
                          try clear c27b0
                          try clear c27b1
                          try clear c28
                          try clear c29
                          try clear hx225_0
                          try clear hx226_0
                          try clear p2
                          try clear p22
                          try clear p225
                          try clear p226
                          try clear p6
                          try clear q2
                          try clear q22
                          try clear q225
                          try clear q226
                          try clear q25
                          obtain ⟨kq, x4_25, HA, HJ25, HO_3, HO_4, HB⟩ := hcut
                          cases kq with
                          | zero => exact absurd HA.out (by simp [parallaxlaw19_PercentUps.j2])
                          | succ kj25 =>
                            have H := HA.out
                            clear HA
                            simp only [parallaxlaw19_PercentUps.j2] at H
                            have H' := Aside0.mk H
                            clear H
                            go_wp2
                            repeat (go_quiet (fail); try go_wp2)
                            go_meet
                            case rel => exact ⟨_, (x4_25), H', ⟨by have := HK1.out; have := HJ25.out; first | omega | exact Nat.le_refl _⟩, ⟨by (with_reducible repeat (first | apply Kd.R_alloc | apply Kd.R_drewN | apply Kd.R_drew)); exact HO_3.out⟩, ⟨by (with_reducible repeat (first | apply Kd.R_alloc | apply Kd.R_drewN | apply Kd.R_drew)); exact HO_4.out⟩, ⟨by repeat (first | (with_reducible first | exact HB.out | apply below_alloc | apply pw_below_drewN | apply below_drew1) | exact HB.out)⟩⟩
                    case rest =>
                      clear HC13
                      try clear c1
                      try clear c2
                      try clear p2
                      try clear q2
                      try clear hx2
                      try clear c3
                      try clear c4
                      try clear c4b0
                      try clear c4b1
                      try clear c6
                      try clear p6
                      try clear c7
                      try clear c7b0
                      try clear c8
                      try clear c8b0
                      try clear c10
                      try clear c10b0
                      try clear c11
                      try clear c11b0
                      try clear c12
                      try clear c18
                      try clear c18b0
                      try clear c18b1
                      try clear c21
                      try clear c21b0
                      try clear c21b1
                      try clear p22
                      try clear q22
                      try clear hx22
                      try clear c23
                      try clear c23b0
                      try clear c23b1
                      try clear c24
                      try clear c24b0
                      try clear c24b1
                      try clear q25
                      try clear c27
                      try clear c27b0
                      try clear c27b1
                      try clear c28
                      try clear c29
                      try clear hx225_0
                      try clear hx226_0
                      try clear p2
                      try clear p22
                      try clear p225
                      try clear p226
                      try clear p6
                      try clear q2
                      try clear q22
                      try clear q225
                      try clear q226
                      try clear q25
                      obtain ⟨kq, x4_12, HA, HJ12, HO_3, HO_4, HB⟩ := hcut
                      cases kq with
                      | zero => exact absurd HA.out (by simp [parallaxlaw19_PercentUps.j3])
                      | succ kj12 =>
                        have H := HA.out
                        clear HA
                        simp only [parallaxlaw19_PercentUps.j3] at H
                        have H' := Aside0.mk H
                        clear H
                        go_wp2
                        repeat (go_quiet (fail); try go_wp2)
                        go_roundg kj12
                        case measure => have := HK1.out; have := HJ12.out; omega
                        case rel => exact ⟨(y227), (x4_12), (wrap64 (x5_1 + 1)), (by first | rfl | (simp; done) | (simp [*]; done)), H', ⟨by have := HK1.out; have := HJ12.out; omega⟩, ⟨by (with_reducible repeat (first | apply Kd.R_alloc | apply Kd.R_drewN | apply Kd.R_drew)); exact HO_3.out⟩, ⟨by (with_reducible repeat (first | apply Kd.R_alloc | apply Kd.R_drewN | apply Kd.R_drew)); exact HO_4.out⟩, ⟨by repeat (first | (with_reducible first | exact HB.out | apply below_alloc | apply pw_below_drewN | apply below_drew1) | exact HB.out)⟩⟩
                  · rw [if_neg c12] at H
                    exact absurd H (by simp)
                · rw [if_neg c11] at H
                  exact absurd H (by simp)
              · rw [if_neg c10] at H
                exact absurd H (by simp)
            · rw [if_neg c8] at H
              exact absurd H (by simp)
          · rw [if_neg c7] at H
            have c7b0 : decide (x5_1 < (l0.length : Int)) = false := decide_eq_false c7
            clear c7
            replace H := Option.bind_eq_some_iff.mp H
            obtain ⟨t239, A330, H⟩ := H
            (try dsimp only at H)
            have A33 := Aside0.mk A330
            clear A330
            have HC34 := Aside0.mk H
            clear H
            obtain ⟨Ao35, co35, eo35⟩ := Kd.R_slice HO_3.out
            subst eo35
            go_upto_region 18 with (first | (go_at_call 16; (with_reducible refine (percent_Dots.calls k1 _ _ x3_1 t239 _ ?side1 ?side2 A33.out).mono ?_); (case side1 => repeat (first | exact (Kd.R_reads' HO_3.out).2.2 | (with_reducible refine Kd.C_alloc ?_ _) | (with_reducible refine Kd.C_drewN ?_ _) | (with_reducible refine Kd.C_drew ?_))); (case side2 => exact (Kd.R_reads' HO_3.out).2.1); rintro e w36 ⟨v240, rfl, ho0, hb⟩; have n0_ := Aside0.mk (Kd.R_elder' (by (with_reducible repeat (first | apply Kd.R_alloc | apply Kd.R_drewN | apply Kd.R_drew)); exact HO_3.out) (Kd.R_base ho0) hb); have n1_ := Aside0.mk (Kd.R_elder' (by (with_reducible repeat (first | apply Kd.R_alloc | apply Kd.R_drewN | apply Kd.R_drew)); exact HO_4.out) (Kd.R_base ho0) hb); have n2_ := Aside0.mk (Kd.R_lower (Kd.R_new' (Kd.R_new' ho0 (Kd.R_lt (by (with_reducible repeat (first | apply Kd.R_alloc | apply Kd.R_drewN | apply Kd.R_drew)); exact HO_3.out))) (Kd.R_lt (by (with_reducible repeat (first | apply Kd.R_alloc | apply Kd.R_drewN | apply Kd.R_drew)); exact HO_4.out))) (below_size (by repeat (first | (with_reducible first | exact HB.out | apply below_alloc | apply pw_below_drewN | apply below_drew1) | exact HB.out)))); have n3_ := Aside0.mk (below_step (by repeat (first | (with_reducible first | exact HB.out | apply below_alloc | apply pw_below_drewN | apply below_drew1) | exact HB.out)) hb); clear HO_3; clear HO_4; clear HB; have HO_3 := n0_; have HO_4 := n1_; have HO241 := n2_; have HB := n3_; clear n0_ n1_ n2_ n3_; (try clear hb); (try clear hb2); (try clear hk); (try clear hi); (try clear ho0)))
            repeat (go_quiet (first | (go_at_call 16; (with_reducible refine (percent_Dots.calls k1 _ _ x3_1 t239 _ ?side1 ?side2 A33.out).mono ?_); (case side1 => repeat (first | exact (Kd.R_reads' HO_3.out).2.2 | (with_reducible refine Kd.C_alloc ?_ _) | (with_reducible refine Kd.C_drewN ?_ _) | (with_reducible refine Kd.C_drew ?_))); (case side2 => exact (Kd.R_reads' HO_3.out).2.1); rintro e w36 ⟨v240, rfl, ho0, hb⟩; have n0_ := Aside0.mk (Kd.R_elder' (by (with_reducible repeat (first | apply Kd.R_alloc | apply Kd.R_drewN | apply Kd.R_drew)); exact HO_3.out) (Kd.R_base ho0) hb); have n1_ := Aside0.mk (Kd.R_elder' (by (with_reducible repeat (first | apply Kd.R_alloc | apply Kd.R_drewN | apply Kd.R_drew)); exact HO_4.out) (Kd.R_base ho0) hb); have n2_ := Aside0.mk (Kd.R_lower (Kd.R_new' (Kd.R_new' ho0 (Kd.R_lt (by (with_reducible repeat (first | apply Kd.R_alloc | apply Kd.R_drewN | apply Kd.R_drew)); exact HO_3.out))) (Kd.R_lt (by (with_reducible repeat (first | apply Kd.R_alloc | apply Kd.R_drewN | apply Kd.R_drew)); exact HO_4.out))) (below_size (by repeat (first | (with_reducible first | exact HB.out | apply below_alloc | apply pw_below_drewN | apply below_drew1) | exact HB.out)))); have n3_ := Aside0.mk (below_step (by repeat (first | (with_reducible first | exact HB.out | apply below_alloc | apply pw_below_drewN | apply below_drew1) | exact HB.out)) hb); clear HO_3; clear HO_4; clear HB; have HO_3 := n0_; have HO_4 := n1_; have HO241 := n2_; have HB := n3_; clear n0_ n1_ n2_ n3_; (try clear hb); (try clear hb2); (try clear hk); (try clear hi); (try clear ho0))); go_upto_region 18 with (first | (go_at_call 16; (with_reducible refine (percent_Dots.calls k1 _ _ x3_1 t239 _ ?side1 ?side2 A33.out).mono ?_); (case side1 => repeat (first | exact (Kd.R_reads' HO_3.out).2.2 | (with_reducible refine Kd.C_alloc ?_ _) | (with_reducible refine Kd.C_drewN ?_ _) | (with_reducible refine Kd.C_drew ?_))); (case side2 => exact (Kd.R_reads' HO_3.out).2.1); rintro e w36 ⟨v240, rfl, ho0, hb⟩; have n0_ := Aside0.mk (Kd.R_elder' (by (with_reducible repeat (first | apply Kd.R_alloc | apply Kd.R_drewN | apply Kd.R_drew)); exact HO_3.out) (Kd.R_base ho0) hb); have n1_ := Aside0.mk (Kd.R_elder' (by (with_reducible repeat (first | apply Kd.R_alloc | apply Kd.R_drewN | apply Kd.R_drew)); exact HO_4.out) (Kd.R_base ho0) hb); have n2_ := Aside0.mk (Kd.R_lower (Kd.R_new' (Kd.R_new' ho0 (Kd.R_lt (by (with_reducible repeat (first | apply Kd.R_alloc | apply Kd.R_drewN | apply Kd.R_drew)); exact HO_3.out))) (Kd.R_lt (by (with_reducible repeat (first | apply Kd.R_alloc | apply Kd.R_drewN | apply Kd.R_drew)); exact HO_4.out))) (below_size (by repeat (first | (with_reducible first | exact HB.out | apply below_alloc | apply pw_below_drewN | apply below_drew1) | exact HB.out)))); have n3_ := Aside0.mk (below_step (by repeat (first | (with_reducible first | exact HB.out | apply below_alloc | apply pw_below_drewN | apply below_drew1) | exact HB.out)) hb); clear HO_3; clear HO_4; clear HB; have HO_3 := n0_; have HO_4 := n1_; have HO241 := n2_; have HB := n3_; clear n0_ n1_ n2_ n3_; (try clear hb); (try clear hb2); (try clear hk); (try clear hi); (try clear ho0))))
            (try simp only [Act.put, List.setIfInBounds_toArray, List.set_cons_zero, List.set_cons_succ])
            go_cut [74] (fun v74 wc => ∃ (kq : Nat) (x74_33 : Bool), v74 = .bool x74_33 ∧ Aside0 (parallaxlaw19_PercentUps.j4 kq x4_1 t239 x74_33 = some r) ∧ Aside0 (kq ≤ k1) ∧ Aside0 (Kd.R Kd.string 9 wc w.heap.size (fun k_ => some k_ ≠ (v240 : Value).ownBlock) u4 x4_1) ∧ Aside0 (Kd.R Kd.string 9 wc w.heap.size (fun k_ => some k_ ≠ (u4 : Value).ownBlock) v240 t239) ∧ Aside0 (Below w.heap.size w wc))
            case first =>
              have H := HC34.out
              clear HC34
              by_cases c37 : (l0.length : Int) = 0
              · rw [if_pos c37] at H
                have c37b0 : ((l0.length : Int) == 0) = true := beq_iff_eq.mpr c37
                have c37b1 : ((l0.length : Int) != 0) = false := bne_eq_false_iff_eq.mpr c37
                clear c37
                (first | rw [c37b0] | (simp only [i64_w, i32_w]; rw [c37b0]) | skip)
                have H' := Aside0.mk H
                clear H
                go_wp2
                repeat (go_quiet (fail); try go_wp2)
                go_meet
                case rel => exact ⟨_, (true), (by first | rfl | (simp; done) | (simp [*]; done)), H', ⟨by have := HK1.out; first | omega | exact Nat.le_refl _⟩, ⟨by (with_reducible repeat (first | apply Kd.R_alloc | apply Kd.R_drewN | apply Kd.R_drew)); exact Kd.R_mono HO_4.out (fun _ hk => (by first | exact hk.2 | exact True.intro))⟩, ⟨by (with_reducible repeat (first | apply Kd.R_alloc | apply Kd.R_drewN | apply Kd.R_drew)); exact Kd.R_mono HO241.out (fun _ hk => (by first | exact hk.2 | exact True.intro))⟩, ⟨by repeat (first | (with_reducible first | exact HB.out | apply below_alloc | apply pw_below_drewN | apply below_drew1) | exact HB.out)⟩⟩
              · rw [if_neg c37] at H
                have c37b0 : ((l0.length : Int) == 0) = false := beq_eq_false_iff_ne.mpr c37
                have c37b1 : ((l0.length : Int) != 0) = true := bne_iff_ne.mpr c37
                have c37b2 : ¬ (l0 = []) := fun h_ => c37 (by rw [h_]; rfl)
                (first | rw [c37b0] | (simp only [i64_w, i32_w]; rw [c37b0]) | skip)
                obtain ⟨ji38, hji38⟩ : ∃ j_ : Int, (wrap64 ((l0.length : Int) - 1)) = j_ := ⟨_, rfl⟩
                replace H : (if 0 ≤ (ji38) then (if (ji38) < (l0.length : Int) then (if (Int.tmod (rd l0 (ji38)) 5) = 2 then (parallaxlaw19_PercentUps.j4 k1 x4_1 t239 true) else (parallaxlaw19_PercentUps.j4 k1 x4_1 t239 ((Int.tmod (rd l0 (ji38)) 5) == 3))) else (none)) else (none)) = some r := by first | (rw [hji38] at H; exact H) | (simp only [hji38] at H ⊢; exact H)
                have hji38w : (IntKind.i64.wrap ((l0.length : Int) - 1)) = ji38 := (i64_w _).trans hji38
                by_cases c39 : 0 ≤ (ji38)
                · rw [if_pos c39] at H
                  have c39b0 : decide (0 ≤ (ji38)) = true := decide_eq_true c39
                  clear c39
                  by_cases c40 : (ji38) < (l0.length : Int)
                  · rw [if_pos c40] at H
                    have c40b0 : decide ((ji38) < (l0.length : Int)) = true := decide_eq_true c40
                    clear c40
                    by_cases c41 : (Int.tmod (rd l0 (ji38)) 5) = 2
                    · rw [if_pos c41] at H
                      have c41b0 : ((Int.tmod (rd l0 (ji38)) 5) == 2) = true := beq_iff_eq.mpr c41
                      have c41b1 : ((Int.tmod (rd l0 (ji38)) 5) != 2) = false := bne_eq_false_iff_eq.mpr c41
                      clear c41
                      have H' := Aside0.mk H
                      clear H
                      have p242 : 0 ≤ ((ji38) : Int) := of_decide_eq_true (by first | (with_reducible assumption) | assumption)
                      have q242 : (ji38) < (l0.length : Int) := of_decide_eq_true (by first | (with_reducible assumption) | assumption)
                      obtain ⟨ad242, e242, hx242_0⟩ := Kd.at_int HR0.out (ji38) p242 q242
                      cases e242
                      replace hx242_0 := (HB.out.cell (World.block_lt_of_cell? w _ hx242_0)).trans hx242_0
                      replace p242 := eq_true p242
                      replace q242 := eq_true q242
                      go_wp2
                      repeat (go_quiet (fail); try go_wp2)
                      go_meet
                      case rel => exact ⟨_, (true), (by first | rfl | (simp; done) | (simp [*]; done)), H', ⟨by have := HK1.out; first | omega | exact Nat.le_refl _⟩, ⟨by (with_reducible repeat (first | apply Kd.R_alloc | apply Kd.R_drewN | apply Kd.R_drew)); exact Kd.R_mono HO_4.out (fun _ hk => (by first | exact hk.2 | exact True.intro))⟩, ⟨by (with_reducible repeat (first | apply Kd.R_alloc | apply Kd.R_drewN | apply Kd.R_drew)); exact Kd.R_mono HO241.out (fun _ hk => (by first | exact hk.2 | exact True.intro))⟩, ⟨by repeat (first | (with_reducible first | exact HB.out | apply below_alloc | apply pw_below_drewN | apply below_drew1) | exact HB.out)⟩⟩
                    · rw [if_neg c41] at H
                      have c41b0 : ((Int.tmod (rd l0 (ji38)) 5) == 2) = false := beq_eq_false_iff_ne.mpr c41
                      have c41b1 : ((Int.tmod (rd l0 (ji38)) 5) != 2) = true := bne_iff_ne.mpr c41
                      have H' := Aside0.mk H
                      clear H
                      have p242 : 0 ≤ ((ji38) : Int) := of_decide_eq_true (by first | (with_reducible assumption) | assumption)
                      have q242 : (ji38) < (l0.length : Int) := of_decide_eq_true (by first | (with_reducible assumption) | assumption)
                      obtain ⟨ad242, e242, hx242_0⟩ := Kd.at_int HR0.out (ji38) p242 q242
                      cases e242
                      replace hx242_0 := (HB.out.cell (World.block_lt_of_cell? w _ hx242_0)).trans hx242_0
                      replace p242 := eq_true p242
                      replace q242 := eq_true q242
                      have p243 : 0 ≤ ((ji38) : Int) := of_decide_eq_true (by first | (with_reducible assumption) | assumption)
                      have q243 : (ji38) < (l0.length : Int) := of_decide_eq_true (by first | (with_reducible assumption) | assumption)
                      obtain ⟨ad243, e243, hx243_0⟩ := Kd.at_int HR0.out (ji38) p243 q243
                      obtain rfl : ad242 = ad243 := (by injection e243)
                      replace hx243_0 := (HB.out.cell (World.block_lt_of_cell? w _ hx243_0)).trans hx243_0
                      replace p243 := eq_true p243
                      replace q243 := eq_true q243
                      go_wp2
                      repeat (go_quiet (fail); try go_wp2)
                      go_meet
                      case rel => exact ⟨_, (((Int.tmod (rd l0 (ji38)) 5) == 3)), (by first | rfl | (simp; done) | (simp only [← hji38] <;> (first | rfl | simp)) | (simp [*]; done)), H', ⟨by have := HK1.out; first | omega | exact Nat.le_refl _⟩, ⟨by (with_reducible repeat (first | apply Kd.R_alloc | apply Kd.R_drewN | apply Kd.R_drew)); exact Kd.R_mono HO_4.out (fun _ hk => (by first | exact hk.2 | exact True.intro))⟩, ⟨by (with_reducible repeat (first | apply Kd.R_alloc | apply Kd.R_drewN | apply Kd.R_drew)); exact Kd.R_mono HO241.out (fun _ hk => (by first | exact hk.2 | exact True.intro))⟩, ⟨by repeat (first | (with_reducible first | exact HB.out | apply below_alloc | apply pw_below_drewN | apply below_drew1) | exact HB.out)⟩⟩
                  · rw [if_neg c40] at H
                    exact absurd H (by simp)
                · rw [if_neg c39] at H
                  exact absurd H (by simp)
            case rest =>
              clear HC34
              try clear c1
              try clear c2
              try clear p2
              try clear q2
              try clear hx2
              try clear c3
              try clear c4
              try clear c4b0
              try clear c4b1
              try clear c6
              try clear p6
              try clear c7
              try clear c7b0
              try clear c8
              try clear c8b0
              try clear c10
              try clear c10b0
              try clear c11
              try clear c11b0
              try clear c12
              try clear c18
              try clear c18b0
              try clear c18b1
              try clear c21
              try clear c21b0
              try clear c21b1
              try clear p22
              try clear q22
              try clear hx22
              try clear c23
              try clear c23b0
              try clear c23b1
              try clear c24
              try clear c24b0
              try clear c24b1
              try clear p24
              try clear q24
              try clear hx24
              try clear q25
              try clear c27
              try clear c27b0
              try clear c27b1
              try clear c28
              try clear c29
              try clear c37
              try clear c37b0
              try clear c37b1
              try clear c37b2
              try clear c39
              try clear c39b0
              try clear c40
              try clear c40b0
              try clear c41
              try clear c41b0
              try clear c41b1
              try clear hx225_0
              try clear hx226_0
              try clear hx242_0
              try clear hx243_0
              try clear p2
              try clear p22
              try clear p225
              try clear p226
              try clear p242
              try clear p243
              try clear p6
              try clear q2
              try clear q22
              try clear q225
              try clear q226
              try clear q242
              try clear q243
              try clear q25
              obtain ⟨kq, x74_33, rfl, HA, HJ33, HO_4, HO_7, HB⟩ := hcut
              cases kq with
              | zero => exact absurd HA.out (by simp [parallaxlaw19_PercentUps.j4])
              | succ kj33 =>
                have H := HA.out
                clear HA
                simp only [parallaxlaw19_PercentUps.j4] at H
                have HC42 := Aside0.mk H
                clear H
                go_upto_if 74 with (fail)
                repeat (go_quiet (fail); go_upto_if 74 with (fail))
                go_cut [4] (fun v4 wc => ∃ (kq : Nat) (x4_41 : List ByteArray), Aside0 (parallaxlaw19_PercentUps.j5 kq x4_41 t239 = some r) ∧ Aside0 (kq ≤ kj33) ∧ Aside0 (Kd.R Kd.string 9 wc w.heap.size (fun k_ => some k_ ≠ (v240 : Value).ownBlock) v4 x4_41) ∧ Aside0 (Kd.R Kd.string 9 wc w.heap.size (fun k_ => some k_ ≠ (v4 : Value).ownBlock) v240 t239) ∧ Aside0 (Below w.heap.size w wc))
                case first =>
                  have H := HC42.out
                  clear HC42
                  by_cases c43 : x74_33 = true
                  · subst c43
                    rw [if_pos rfl] at H
                    by_cases c44 : ([] : List ByteArray).length + x4_1.length < 8796093022208
                    · rw [if_pos c44] at H
                      have LMc44 := Aside0.mk c44
                      clear c44
                      obtain ⟨y244, hy244⟩ : ∃ y_ : List ByteArray, y_ = (([] : List ByteArray) ++ x4_1) := ⟨_, rfl⟩
                      replace H : (if y244.length < 8796093022208 then (parallaxlaw19_PercentUps.j5 kj33 (y244 ++ [(⟨#[]⟩ : ByteArray)]) t239) else (none)) = some r := by first | (rw [hy244]; with_reducible exact H) | (have H2_ := (Option.bind_some _ _).symm.trans H; rw [hy244]; with_reducible exact H2_) | (have H2_ := (Option.bind_some _ _).symm.trans H; with_reducible exact H2_) | with_reducible exact H | (rw [hy244]; exact H) | exact H
                      have Ny244 := Aside0.mk hy244
                      clear hy244
                      by_cases c45 : y244.length < 8796093022208
                      · rw [if_pos c45] at H
                        have LMc45 := Aside0.mk c45
                        clear c45
                        obtain ⟨y247, hy247⟩ : ∃ y_ : List ByteArray, y_ = (y244 ++ [(⟨#[]⟩ : ByteArray)]) := ⟨_, rfl⟩
                        replace H : (parallaxlaw19_PercentUps.j5 kj33 y247 t239) = some r := by first | (rw [hy247]; with_reducible exact H) | (have H2_ := (Option.bind_some _ _).symm.trans H; rw [hy247]; with_reducible exact H2_) | (have H2_ := (Option.bind_some _ _).symm.trans H; with_reducible exact H2_) | with_reducible exact H | (rw [hy247]; exact H) | exact H
                        have Ny247 := Aside0.mk hy247
                        clear hy247
                        have H' := Aside0.mk H
                        clear H
                        obtain ⟨Ao47, co47, eo47⟩ := Kd.R_slice HO_4.out
                        subst eo47
                        go_wp2_with (first | ((with_reducible refine gate_builtin (b := .append) (xs := #[.const (.slice none 0 0), .tmp 75]) rfl ?_); (try (refine gate_guard (by rfl) ?_; dsimp only)); at_builtin; refine Kd.R_append_rows Kd.string (w0 := w) w.heap.size rfl (.const (.slice none 0 0)) (.tmp 75) 23 9 (.string ⟨#[]⟩) 16 rfl Tryd.underlying23 info9 rfl (by decide) (by omega) (.slice none 0 0) ([] : List ByteArray) x4_1 _ _ _ (fun k_ => some k_ ≠ (.slice Ao47 x4_1.length co47 : Value).ownBlock ∧ some k_ ≠ (v240 : Value).ownBlock) (fun _ => False) rfl rfl ?aO ?aR (fun _ _ h => h) (fun _ h => h.elim) ?aF ?aB ?aS ?aL ?_; (case aR => repeat (first | exact (Kd.R_reads' HO_4.out).2.2 | (with_reducible refine Kd.C_alloc ?_ _) | (with_reducible refine Kd.C_drewN ?_ _) | (with_reducible refine Kd.C_drew ?_))); (case aB => exact (by repeat (first | (with_reducible first | exact HB.out | apply below_alloc | apply pw_below_drewN | apply below_drew1) | exact HB.out))); (case aF => exact (fun k_ hk => ⟨Kd.fresh' (Kd.R_lt (by (with_reducible repeat (first | apply Kd.R_alloc | apply Kd.R_drewN | apply Kd.R_drew)); exact HO_4.out)) k_ hk, Kd.fresh' (Kd.R_lt (by (with_reducible repeat (first | apply Kd.R_alloc | apply Kd.R_drewN | apply Kd.R_drew)); exact HO_7.out)) k_ hk⟩)); (case aO => exact ((Kd.R_nil _ _ _ _ (fun k_ => some k_ ≠ (.slice Ao47 x4_1.length co47 : Value).ownBlock ∧ some k_ ≠ (v240 : Value).ownBlock)))); (case aS => exact (below_size (by repeat (first | (with_reducible first | exact HB.out | apply below_alloc | apply pw_below_drewN | apply below_drew1) | exact HB.out)))); (case aL => have := LMc44.out; omega); intro v245 w46 ho hb hg hat; rw [← Ny244.out] at ho; have n0_ := Aside0.mk (Kd.R_after (Kd.R_apart_nil (by (with_reducible repeat (first | apply Kd.R_alloc | apply Kd.R_drewN | apply Kd.R_drew)); exact HO_4.out)) hg hat); have n1_ := Aside0.mk (Kd.R_after (Kd.R_apart_nil (by (with_reducible repeat (first | apply Kd.R_alloc | apply Kd.R_drewN | apply Kd.R_drew)); exact HO_7.out)) hg hat); have n2_ := Aside0.mk (hb); have n3_ := Aside0.mk (ho); clear HO_4; clear HO_7; clear HB; have HO_4 := n0_; have HO_7 := n1_; have HB := n2_; have HO246 := n3_; clear n0_ n1_ n2_ n3_; clear ho hb hg hat) | ((with_reducible refine gate_builtin (b := .append) (xs := #[.tmp 76, .tmp 77]) rfl ?_); (try (refine gate_guard (by rfl) ?_; dsimp only)); at_builtin; refine Kd.R_append Kd.string (w0 := w) w.heap.size rfl (.tmp 76) (.tmp 77) 23 9 (.string ⟨#[]⟩) 16 rfl Tryd.underlying23 info9 rfl (by decide) (by omega) v245 y244 (⟨#[]⟩ : ByteArray) [.string (⟨#[]⟩ : ByteArray)] (fun k_ => some k_ ≠ (.slice Ao47 x4_1.length co47 : Value).ownBlock ∧ some k_ ≠ (v240 : Value).ownBlock) (fun _ => False) rfl rfl ?aP (fun _ hk => hk.elim) ?aF ?aO ?aB ?aS ?aL ?_; (case aP => exact rfl); (case aB => exact (by repeat (first | (with_reducible first | exact HB.out | apply below_alloc | apply pw_below_drewN | apply below_drew1) | exact HB.out))); (case aF => exact (fun k_ hk => ⟨Kd.fresh' (Kd.R_lt (by (with_reducible repeat (first | apply Kd.R_alloc | apply Kd.R_drewN | apply Kd.R_drew)); exact HO_4.out)) k_ hk, Kd.fresh' (Kd.R_lt (by (with_reducible repeat (first | apply Kd.R_alloc | apply Kd.R_drewN | apply Kd.R_drew)); exact HO_7.out)) k_ hk⟩)); (case aO => exact (by (with_reducible repeat (first | apply Kd.R_alloc | apply Kd.R_drewN | apply Kd.R_drew)); exact HO246.out)); (case aS => exact (below_size (by repeat (first | (with_reducible first | exact HB.out | apply below_alloc | apply pw_below_drewN | apply below_drew1) | exact HB.out)))); (case aL => have := LMc45.out; omega); intro v248 w48 ho hb hg hat; rw [← Ny247.out] at ho; have n0_ := Aside0.mk (Kd.R_after (ok := (fun k_ => some k_ ≠ (v240 : Value).ownBlock)) (by (with_reducible repeat (first | apply Kd.R_alloc | apply Kd.R_drewN | apply Kd.R_drew)); exact HO_4.out) hg hat); have n1_ := Aside0.mk (Kd.R_after (ok := (fun k_ => some k_ ≠ (.slice Ao47 x4_1.length co47 : Value).ownBlock)) (by (with_reducible repeat (first | apply Kd.R_alloc | apply Kd.R_drewN | apply Kd.R_drew)); exact HO_7.out) hg hat); have n2_ := Aside0.mk (hb); have n3_ := Aside0.mk (ho); clear HO_4; clear HO_7; clear HB; clear HO246; have HO_4 := n0_; have HO_7 := n1_; have HB := n2_; have HO249 := n3_; clear n0_ n1_ n2_ n3_; clear ho hb hg hat))
                        repeat (go_quiet (first | ((with_reducible refine gate_builtin (b := .append) (xs := #[.const (.slice none 0 0), .tmp 75]) rfl ?_); (try (refine gate_guard (by rfl) ?_; dsimp only)); at_builtin; refine Kd.R_append_rows Kd.string (w0 := w) w.heap.size rfl (.const (.slice none 0 0)) (.tmp 75) 23 9 (.string ⟨#[]⟩) 16 rfl Tryd.underlying23 info9 rfl (by decide) (by omega) (.slice none 0 0) ([] : List ByteArray) x4_1 _ _ _ (fun k_ => some k_ ≠ (.slice Ao47 x4_1.length co47 : Value).ownBlock ∧ some k_ ≠ (v240 : Value).ownBlock) (fun _ => False) rfl rfl ?aO ?aR (fun _ _ h => h) (fun _ h => h.elim) ?aF ?aB ?aS ?aL ?_; (case aR => repeat (first | exact (Kd.R_reads' HO_4.out).2.2 | (with_reducible refine Kd.C_alloc ?_ _) | (with_reducible refine Kd.C_drewN ?_ _) | (with_reducible refine Kd.C_drew ?_))); (case aB => exact (by repeat (first | (with_reducible first | exact HB.out | apply below_alloc | apply pw_below_drewN | apply below_drew1) | exact HB.out))); (case aF => exact (fun k_ hk => ⟨Kd.fresh' (Kd.R_lt (by (with_reducible repeat (first | apply Kd.R_alloc | apply Kd.R_drewN | apply Kd.R_drew)); exact HO_4.out)) k_ hk, Kd.fresh' (Kd.R_lt (by (with_reducible repeat (first | apply Kd.R_alloc | apply Kd.R_drewN | apply Kd.R_drew)); exact HO_7.out)) k_ hk⟩)); (case aO => exact ((Kd.R_nil _ _ _ _ (fun k_ => some k_ ≠ (.slice Ao47 x4_1.length co47 : Value).ownBlock ∧ some k_ ≠ (v240 : Value).ownBlock)))); (case aS => exact (below_size (by repeat (first | (with_reducible first | exact HB.out | apply below_alloc | apply pw_below_drewN | apply below_drew1) | exact HB.out)))); (case aL => have := LMc44.out; omega); intro v245 w46 ho hb hg hat; rw [← Ny244.out] at ho; have n0_ := Aside0.mk (Kd.R_after (Kd.R_apart_nil (by (with_reducible repeat (first | apply Kd.R_alloc | apply Kd.R_drewN | apply Kd.R_drew)); exact HO_4.out)) hg hat); have n1_ := Aside0.mk (Kd.R_after (Kd.R_apart_nil (by (with_reducible repeat (first | apply Kd.R_alloc | apply Kd.R_drewN | apply Kd.R_drew)); exact HO_7.out)) hg hat); have n2_ := Aside0.mk (hb); have n3_ := Aside0.mk (ho); clear HO_4; clear HO_7; clear HB; have HO_4 := n0_; have HO_7 := n1_; have HB := n2_; have HO246 := n3_; clear n0_ n1_ n2_ n3_; clear ho hb hg hat) | ((with_reducible refine gate_builtin (b := .append) (xs := #[.tmp 76, .tmp 77]) rfl ?_); (try (refine gate_guard (by rfl) ?_; dsimp only)); at_builtin; refine Kd.R_append Kd.string (w0 := w) w.heap.size rfl (.tmp 76) (.tmp 77) 23 9 (.string ⟨#[]⟩) 16 rfl Tryd.underlying23 info9 rfl (by decide) (by omega) v245 y244 (⟨#[]⟩ : ByteArray) [.string (⟨#[]⟩ : ByteArray)] (fun k_ => some k_ ≠ (.slice Ao47 x4_1.length co47 : Value).ownBlock ∧ some k_ ≠ (v240 : Value).ownBlock) (fun _ => False) rfl rfl ?aP (fun _ hk => hk.elim) ?aF ?aO ?aB ?aS ?aL ?_; (case aP => exact rfl); (case aB => exact (by repeat (first | (with_reducible first | exact HB.out | apply below_alloc | apply pw_below_drewN | apply below_drew1) | exact HB.out))); (case aF => exact (fun k_ hk => ⟨Kd.fresh' (Kd.R_lt (by (with_reducible repeat (first | apply Kd.R_alloc | apply Kd.R_drewN | apply Kd.R_drew)); exact HO_4.out)) k_ hk, Kd.fresh' (Kd.R_lt (by (with_reducible repeat (first | apply Kd.R_alloc | apply Kd.R_drewN | apply Kd.R_drew)); exact HO_7.out)) k_ hk⟩)); (case aO => exact (by (with_reducible repeat (first | apply Kd.R_alloc | apply Kd.R_drewN | apply Kd.R_drew)); exact HO246.out)); (case aS => exact (below_size (by repeat (first | (with_reducible first | exact HB.out | apply below_alloc | apply pw_below_drewN | apply below_drew1) | exact HB.out)))); (case aL => have := LMc45.out; omega); intro v248 w48 ho hb hg hat; rw [← Ny247.out] at ho; have n0_ := Aside0.mk (Kd.R_after (ok := (fun k_ => some k_ ≠ (v240 : Value).ownBlock)) (by (with_reducible repeat (first | apply Kd.R_alloc | apply Kd.R_drewN | apply Kd.R_drew)); exact HO_4.out) hg hat); have n1_ := Aside0.mk (Kd.R_after (ok := (fun k_ => some k_ ≠ (.slice Ao47 x4_1.length co47 : Value).ownBlock)) (by (with_reducible repeat (first | apply Kd.R_alloc | apply Kd.R_drewN | apply Kd.R_drew)); exact HO_7.out) hg hat); have n2_ := Aside0.mk (hb); have n3_ := Aside0.mk (ho); clear HO_4; clear HO_7; clear HB; clear HO246; have HO_4 := n0_; have HO_7 := n1_; have HB := n2_; have HO249 := n3_; clear n0_ n1_ n2_ n3_; clear ho hb hg hat)); try go_wp2_with (first | ((with_reducible refine gate_builtin (b := .append) (xs := #[.const (.slice none 0 0), .tmp 75]) rfl ?_); (try (refine gate_guard (by rfl) ?_; dsimp only)); at_builtin; refine Kd.R_append_rows Kd.string (w0 := w) w.heap.size rfl (.const (.slice none 0 0)) (.tmp 75) 23 9 (.string ⟨#[]⟩) 16 rfl Tryd.underlying23 info9 rfl (by decide) (by omega) (.slice none 0 0) ([] : List ByteArray) x4_1 _ _ _ (fun k_ => some k_ ≠ (.slice Ao47 x4_1.length co47 : Value).ownBlock ∧ some k_ ≠ (v240 : Value).ownBlock) (fun _ => False) rfl rfl ?aO ?aR (fun _ _ h => h) (fun _ h => h.elim) ?aF ?aB ?aS ?aL ?_; (case aR => repeat (first | exact (Kd.R_reads' HO_4.out).2.2 | (with_reducible refine Kd.C_alloc ?_ _) | (with_reducible refine Kd.C_drewN ?_ _) | (with_reducible refine Kd.C_drew ?_))); (case aB => exact (by repeat (first | (with_reducible first | exact HB.out | apply below_alloc | apply pw_below_drewN | apply below_drew1) | exact HB.out))); (case aF => exact (fun k_ hk => ⟨Kd.fresh' (Kd.R_lt (by (with_reducible repeat (first | apply Kd.R_alloc | apply Kd.R_drewN | apply Kd.R_drew)); exact HO_4.out)) k_ hk, Kd.fresh' (Kd.R_lt (by (with_reducible repeat (first | apply Kd.R_alloc | apply Kd.R_drewN | apply Kd.R_drew)); exact HO_7.out)) k_ hk⟩)); (case aO => exact ((Kd.R_nil _ _ _ _ (fun k_ => some k_ ≠ (.slice Ao47 x4_1.length co47 : Value).ownBlock ∧ some k_ ≠ (v240 : Value).ownBlock)))); (case aS => exact (below_size (by repeat (first | (with_reducible first | exact HB.out | apply below_alloc | apply pw_below_drewN | apply below_drew1) | exact HB.out)))); (case aL => have := LMc44.out; omega); intro v245 w46 ho hb hg hat; rw [← Ny244.out] at ho; have n0_ := Aside0.mk (Kd.R_after (Kd.R_apart_nil (by (with_reducible repeat (first | apply Kd.R_alloc | apply Kd.R_drewN | apply Kd.R_drew)); exact HO_4.out)) hg hat); have n1_ := Aside0.mk (Kd.R_after (Kd.R_apart_nil (by (with_reducible repeat (first | apply Kd.R_alloc | apply Kd.R_drewN | apply Kd.R_drew)); exact HO_7.out)) hg hat); have n2_ := Aside0.mk (hb); have n3_ := Aside0.mk (ho); clear HO_4; clear HO_7; clear HB; have HO_4 := n0_; have HO_7 := n1_; have HB := n2_; have HO246 := n3_; clear n0_ n1_ n2_ n3_; clear ho hb hg hat) | ((with_reducible refine gate_builtin (b := .append) (xs := #[.tmp 76, .tmp 77]) rfl ?_); (try (refine gate_guard (by rfl) ?_; dsimp only)); at_builtin; refine Kd.R_append Kd.string (w0 := w) w.heap.size rfl (.tmp 76) (.tmp 77) 23 9 (.string ⟨#[]⟩) 16 rfl Tryd.underlying23 info9 rfl (by decide) (by omega) v245 y244 (⟨#[]⟩ : ByteArray) [.string (⟨#[]⟩ : ByteArray)] (fun k_ => some k_ ≠ (.slice Ao47 x4_1.length co47 : Value).ownBlock ∧ some k_ ≠ (v240 : Value).ownBlock) (fun _ => False) rfl rfl ?aP (fun _ hk => hk.elim) ?aF ?aO ?aB ?aS ?aL ?_; (case aP => exact rfl); (case aB => exact (by repeat (first | (with_reducible first | exact HB.out | apply below_alloc | apply pw_below_drewN | apply below_drew1) | exact HB.out))); (case aF => exact (fun k_ hk => ⟨Kd.fresh' (Kd.R_lt (by (with_reducible repeat (first | apply Kd.R_alloc | apply Kd.R_drewN | apply Kd.R_drew)); exact HO_4.out)) k_ hk, Kd.fresh' (Kd.R_lt (by (with_reducible repeat (first | apply Kd.R_alloc | apply Kd.R_drewN | apply Kd.R_drew)); exact HO_7.out)) k_ hk⟩)); (case aO => exact (by (with_reducible repeat (first | apply Kd.R_alloc | apply Kd.R_drewN | apply Kd.R_drew)); exact HO246.out)); (case aS => exact (below_size (by repeat (first | (with_reducible first | exact HB.out | apply below_alloc | apply pw_below_drewN | apply below_drew1) | exact HB.out)))); (case aL => have := LMc45.out; omega); intro v248 w48 ho hb hg hat; rw [← Ny247.out] at ho; have n0_ := Aside0.mk (Kd.R_after (ok := (fun k_ => some k_ ≠ (v240 : Value).ownBlock)) (by (with_reducible repeat (first | apply Kd.R_alloc | apply Kd.R_drewN | apply Kd.R_drew)); exact HO_4.out) hg hat); have n1_ := Aside0.mk (Kd.R_after (ok := (fun k_ => some k_ ≠ (.slice Ao47 x4_1.length co47 : Value).ownBlock)) (by (with_reducible repeat (first | apply Kd.R_alloc | apply Kd.R_drewN | apply Kd.R_drew)); exact HO_7.out) hg hat); have n2_ := Aside0.mk (hb); have n3_ := Aside0.mk (ho); clear HO_4; clear HO_7; clear HB; clear HO246; have HO_4 := n0_; have HO_7 := n1_; have HB := n2_; have HO249 := n3_; clear n0_ n1_ n2_ n3_; clear ho hb hg hat)))
                        go_meet
                        case rel => exact ⟨_, (y247), H', ⟨by have := HK1.out; have := HJ33.out; first | omega | exact Nat.le_refl _⟩, ⟨by (with_reducible repeat (first | apply Kd.R_alloc | apply Kd.R_drewN | apply Kd.R_drew)); exact Kd.R_mono HO249.out (fun _ hk => (by first | exact hk.2 | exact True.intro))⟩, ⟨by (with_reducible repeat (first | apply Kd.R_alloc | apply Kd.R_drewN | apply Kd.R_drew)); exact Kd.R_mono HO_7.out (fun _ hk => (by first | exact hk.2 | exact True.intro))⟩, ⟨by repeat (first | (with_reducible first | exact HB.out | apply below_alloc | apply pw_below_drewN | apply below_drew1) | exact HB.out)⟩⟩
                      · rw [if_neg c45] at H
                        exact absurd H (by simp)
                    · rw [if_neg c44] at H
                      exact absurd H (by simp)
                  · replace c43 := Bool.eq_false_iff.mpr c43
                    subst c43
                    rw [if_neg (show ¬ (false = true) by decide)] at H
                    have H' := Aside0.mk H
                    clear H
                    go_wp2
                    repeat (go_quiet (fail); try go_wp2)
                    go_meet
                    case rel => exact ⟨_, (x4_1), H', ⟨by have := HK1.out; have := HJ33.out; first | omega | exact Nat.le_refl _⟩, ⟨by (with_reducible repeat (first | apply Kd.R_alloc | apply Kd.R_drewN | apply Kd.R_drew)); exact HO_4.out⟩, ⟨by (with_reducible repeat (first | apply Kd.R_alloc | apply Kd.R_drewN | apply Kd.R_drew)); exact HO_7.out⟩, ⟨by repeat (first | (with_reducible first | exact HB.out | apply below_alloc | apply pw_below_drewN | apply below_drew1) | exact HB.out)⟩⟩
                case rest =>
                  clear HC42
                  try clear c1
                  try clear c2
                  try clear p2
                  try clear q2
                  try clear hx2
                  try clear c3
                  try clear c4
                  try clear c4b0
                  try clear c4b1
                  try clear c6
                  try clear p6
                  try clear c7
                  try clear c7b0
                  try clear c8
                  try clear c8b0
                  try clear c10
                  try clear c10b0
                  try clear c11
                  try clear c11b0
                  try clear c12
                  try clear c18
                  try clear c18b0
                  try clear c18b1
                  try clear c21
                  try clear c21b0
                  try clear c21b1
                  try clear p22
                  try clear q22
                  try clear hx22
                  try clear c23
                  try clear c23b0
                  try clear c23b1
                  try clear c24
                  try clear c24b0
                  try clear c24b1
                  try clear p24
                  try clear q24
                  try clear hx24
                  try clear q25
                  try clear c27
                  try clear c27b0
                  try clear c27b1
                  try clear c28
                  try clear c29
                  try clear c37
                  try clear c37b0
                  try clear c37b1
                  try clear c37b2
                  try clear c39
                  try clear c39b0
                  try clear c40
                  try clear c40b0
                  try clear c41
                  try clear c41b0
                  try clear c41b1
                  try clear c43
                  try clear c44
                  try clear c45
                  try clear hx225_0
                  try clear hx226_0
                  try clear hx242_0
                  try clear hx243_0
                  try clear p2
                  try clear p22
                  try clear p225
                  try clear p226
                  try clear p24
                  try clear p242
                  try clear p243
                  try clear p6
                  try clear q2
                  try clear q22
                  try clear q225
                  try clear q226
                  try clear q24
                  try clear q242
                  try clear q243
                  try clear q25
                  obtain ⟨kq, x4_41, HA, HJ41, HO_4, HO_7, HB⟩ := hcut
                  cases kq with
                  | zero => exact absurd HA.out (by simp [parallaxlaw19_PercentUps.j5])
                  | succ kj41 =>
                    have H := HA.out
                    clear HA
                    simp only [parallaxlaw19_PercentUps.j5] at H
                    by_cases c49 : (t239.length : Int) = (x4_41.length : Int)
                    · rw [if_pos c49] at H
                      have c49b0 : ((t239.length : Int) == (x4_41.length : Int)) = true := beq_iff_eq.mpr c49
                      have c49b1 : ((t239.length : Int) != (x4_41.length : Int)) = false := bne_eq_false_iff_eq.mpr c49
                      have c49b2 : (t239.length == x4_41.length) = true := by first | simpa using c49 | (simp at c49 ⊢; omega)
                      clear c49
                      have H' := Aside0.mk H
                      clear H
                      obtain ⟨Ao50, co50, eo50⟩ := Kd.R_slice HO_7.out
                      subst eo50
                      obtain ⟨Ao51, co51, eo51⟩ := Kd.R_slice HO_4.out
                      subst eo51
                      go_wp2
                      repeat (go_quiet (fail); try go_wp2)
                      go_loopg [8] kj41 (fun kq v8 w' => ∃ (x8_4 : Int), v8 = .int .i64 x8_4 ∧ Aside0 (parallaxlaw19_PercentUps.l1 kq x4_41 t239 x8_4 = some r) ∧ Aside0 (kq ≤ kj41) ∧ Aside0 (Kd.R Kd.string 9 w' w.heap.size (fun k_ => some k_ ≠ ((.slice Ao50 t239.length co50) : Value).ownBlock) (.slice Ao51 x4_41.length co51) x4_41) ∧ Aside0 (Kd.R Kd.string 9 w' w.heap.size (fun k_ => some k_ ≠ ((.slice Ao51 x4_41.length co51) : Value).ownBlock) (.slice Ao50 t239.length co50) t239) ∧ Aside0 (Below w.heap.size w w'))
                      case atStart => exact ⟨(0), (by first | rfl | (simp; done) | (simp [*]; done)), H', ⟨Nat.le_refl _⟩, ⟨by (with_reducible repeat (first | apply Kd.R_alloc | apply Kd.R_drewN | apply Kd.R_drew)); exact HO_4.out⟩, ⟨by (with_reducible repeat (first | apply Kd.R_alloc | apply Kd.R_drewN | apply Kd.R_drew)); exact HO_7.out⟩, ⟨by repeat (first | (with_reducible first | exact HB.out | apply below_alloc | apply pw_below_drewN | apply below_drew1) | exact HB.out)⟩⟩
                      case round =>
                        clear H'
                        try clear c1
                        try clear c2
                        try clear p2
                        try clear q2
                        try clear hx2
                        try clear c3
                        try clear c4
                        try clear c4b0
                        try clear c4b1
                        try clear c6
                        try clear p6
                        try clear c7
                        try clear c7b0
                        try clear c8
                        try clear c8b0
                        try clear c10
                        try clear c10b0
                        try clear c11
                        try clear c11b0
                        try clear c12
                        try clear c18
                        try clear c18b0
                        try clear c18b1
                        try clear c21
                        try clear c21b0
                        try clear c21b1
                        try clear p22
                        try clear q22
                        try clear hx22
                        try clear c23
                        try clear c23b0
                        try clear c23b1
                        try clear c24
                        try clear c24b0
                        try clear c24b1
                        try clear p24
                        try clear q24
                        try clear hx24
                        try clear q25
                        try clear c27
                        try clear c27b0
                        try clear c27b1
                        try clear c28
                        try clear c29
                        try clear c37
                        try clear c37b0
                        try clear c37b1
                        try clear c37b2
                        try clear c39
                        try clear c39b0
                        try clear c40
                        try clear c40b0
                        try clear c41
                        try clear c41b0
                        try clear c41b1
                        try clear c43
                        try clear c44
                        try clear c45
                        try clear c49
                        try clear c49b0
                        try clear c49b1
                        try clear c49b2
                        try clear hx225_0
                        try clear hx226_0
                        try clear hx242_0
                        try clear hx243_0
                        try clear p2
                        try clear p22
                        try clear p225
                        try clear p226
                        try clear p24
                        try clear p242
                        try clear p243
                        try clear p6
                        try clear q2
                        try clear q22
                        try clear q225
                        try clear q226
                        try clear q24
                        try clear q242
                        try clear q243
                        try clear q25
                        obtain ⟨x8_4, rfl, HA, HK4, HO_4, HO_7, HB⟩ := hrel
                        cases gk with
                        | zero => exact absurd HA.out (by simp [parallaxlaw19_PercentUps.l1])
                        | succ k4 =>
                          have H := HA.out
                          clear HA
                          simp only [parallaxlaw19_PercentUps.l1] at H
                          by_cases c52 : x8_4 < (t239.length : Int)
                          · rw [if_pos c52] at H
                            have c52b0 : decide (x8_4 < (t239.length : Int)) = true := decide_eq_true c52
                            clear c52
                            by_cases c53 : 0 ≤ x8_4
                            · rw [if_pos c53] at H
                              have c53b0 : decide (0 ≤ x8_4) = true := decide_eq_true c53
                              clear c53
                              by_cases c54 : x8_4 < (x4_41.length : Int)
                              · rw [if_pos c54] at H
                                have c54b0 : decide (x8_4 < (x4_41.length : Int)) = true := decide_eq_true c54
                                clear c54
                                by_cases c55 : (rdOf ByteArray.empty t239 x8_4).toList = (rdOf ByteArray.empty x4_41 x8_4).toList
                                · rw [if_pos c55] at H
                                  have c55b0 : ((rdOf ByteArray.empty t239 x8_4).toList == (rdOf ByteArray.empty x4_41 x8_4).toList) = true := beq_iff_eq.mpr c55
                                  have c55b1 : ((rdOf ByteArray.empty t239 x8_4).toList != (rdOf ByteArray.empty x4_41 x8_4).toList) = false := bne_eq_false_iff_eq.mpr c55
                                  clear c55
                                  have H' := Aside0.mk H
                                  clear H
                                  have p250 : 0 ≤ (x8_4 : Int) := of_decide_eq_true (by first | (with_reducible assumption) | assumption)
                                  have q250 : x8_4 < (t239.length : Int) := of_decide_eq_true (by first | (with_reducible assumption) | assumption)
                                  obtain ⟨ad250, e250, hx250_0⟩ := Kd.at_string (Kd.R_reads' HO_7.out).2.2 x8_4 p250 q250
                                  cases e250
                                  replace p250 := eq_true p250
                                  replace q250 := eq_true q250
                                  have p251 : 0 ≤ (x8_4 : Int) := of_decide_eq_true (by first | (with_reducible assumption) | assumption)
                                  have q251 : x8_4 < (x4_41.length : Int) := of_decide_eq_true (by first | (with_reducible assumption) | assumption)
                                  obtain ⟨ad251, e251, hx251_0⟩ := Kd.at_string (Kd.R_reads' HO_4.out).2.2 x8_4 p251 q251
                                  cases e251
                                  replace p251 := eq_true p251
                                  replace q251 := eq_true q251
                                  go_wp2
                                  repeat (go_quiet (fail); try go_wp2)
                                  go_roundg k4
                                  case measure => have := HK1.out; have := HJ33.out; have := HJ41.out; have := HK4.out; omega
                                  case rel => exact ⟨(wrap64 (x8_4 + 1)), (by first | rfl | (simp; done) | (simp [*]; done)), H', ⟨by have := HK1.out; have := HJ33.out; have := HJ41.out; have := HK4.out; omega⟩, ⟨by (with_reducible repeat (first | apply Kd.R_alloc | apply Kd.R_drewN | apply Kd.R_drew)); exact HO_4.out⟩, ⟨by (with_reducible repeat (first | apply Kd.R_alloc | apply Kd.R_drewN | apply Kd.R_drew)); exact HO_7.out⟩, ⟨by repeat (first | (with_reducible first | exact HB.out | apply below_alloc | apply pw_below_drewN | apply below_drew1) | exact HB.out)⟩⟩
                                · rw [if_neg c55] at H
                                  have c55b0 : ((rdOf ByteArray.empty t239 x8_4).toList == (rdOf ByteArray.empty x4_41 x8_4).toList) = false := beq_eq_false_iff_ne.mpr c55
                                  have c55b1 : ((rdOf ByteArray.empty t239 x8_4).toList != (rdOf ByteArray.empty x4_41 x8_4).toList) = true := bne_iff_ne.mpr c55
                                  exact absurd ((Option.some.inj H).trans HT.out) (by decide)
                              · rw [if_neg c54] at H
                                exact absurd H (by simp)
                            · rw [if_neg c53] at H
                              exact absurd H (by simp)
                          · rw [if_neg c52] at H
                            have c52b0 : decide (x8_4 < (t239.length : Int)) = false := decide_eq_false c52
                            clear c52
                            obtain rfl := Option.some.inj H
                            go_wp2
                            repeat (go_quiet (fail); try go_wp2)
                            go_ret
                            exact ⟨by first | rfl | (simp [errW_none, errW_some] <;> rfl) | (simp [*, errW_none, errW_some] <;> rfl), by repeat (first | (with_reducible first | exact HB.out | apply below_alloc | apply pw_below_drewN | apply below_drew1) | exact HB.out)⟩
                    · rw [if_neg c49] at H
                      have c49b0 : ((t239.length : Int) == (x4_41.length : Int)) = false := beq_eq_false_iff_ne.mpr c49
                      have c49b1 : ((t239.length : Int) != (x4_41.length : Int)) = true := bne_iff_ne.mpr c49
                      have c49b2 : (t239.length == x4_41.length) = false := by first | simpa using c49 | (simp at c49 ⊢; omega)
                      exact absurd ((Option.some.inj H).trans HT.out) (by decide)
  · replace c3 := Bool.eq_false_iff.mpr c3
    subst c3
    rw [if_neg (show ¬ (false = true) by decide)] at H
    exact absurd ((Option.some.inj H).trans HT.out) (by decide)

/-- THE ONE PURE STATEMENT of parallaxlaw19_PercentUps: yours. -/
def parallaxlaw19_PercentUps.Pure : Prop := ∀ (l0 : List Int), l0.length ≤ maxLen → l0.length * 1 ≤ 140737488351232 → (∀ x ∈ l0, (Lit.int .u8 x).wf = true) → ∃ k, parallaxlaw19_PercentUps.f k l0 = some true
theorem parallaxlaw19_PercentUps.walk (P : parallaxlaw19_PercentUps.Pure) (a0 : Option Addr) (len0 cap0 : Nat) (z0 : List Int) (w : World) (w0 : (a0 = none ∧ len0 = 0 ∧ cap0 = 0 ∧ z0 = []) ∨ ∃ x, a0 = some x ∧ len0 ≤ cap0 ∧ cap0 ≤ maxLen ∧ z0.length = cap0 ∧ (∀ i, i < z0.length → w.cell? (x.add i) = some (.int .u8 (z0.getD i 0))) ∧ ∀ n ∈ z0, (Lit.int .u8 n).wf = true) (y0 : len0 * 1 ≤ 140737488351232) :
    Calls Tryd.prog 6 #[.slice a0 len0 cap0] w fun e w' => e = .returned (.bool true) ∧ Below w.heap.size w w' := by
  obtain ⟨l0, rfl, hr0, hm0, hw0, hc0⟩ := ReadsInt.ofRowC w0
  obtain ⟨k, h⟩ := P l0 hm0 y0 hw0
  refine (parallaxlaw19_PercentUps.calls k _ _ l0 true w (Kd.C_of_reads (d := (0 : Int)) (h1 := fun _ => rfl) hr0) hc0 rfl h).mono ?_
  rintro e w' ⟨rfl, hd⟩
  exact ⟨rfl, hd⟩

end Go.Proofs.YtljmpmipjdlkaaaDoor.PPercentUps
