-- Written by a program of this session (wip/tools/myprint.sh)
import Derived.Test.YtijcibdpcolfpaaDoorPFieldTellsx0
namespace Go.Proofs.YtijcibdpcolfpaaDoor.PFieldTells
open Go.RowKit Go.Proofs.YtijcibdpcolfpaaDoorW.PrintWords Go.Proofs.YtijcibdpcolfpaaDoorW.PrintLast Go.Proofs.YtijcibdpcolfpaaDoorW.PrintMore
attribute [local go_sem] max2_int min2_int max_two min_two max_three min_three max_four min_four   -- for this text's walks alone
set_option linter.unusedVariables false
set_option linter.unusedSimpArgs false

/-! ### parallaxref9_Put: function 22 -/
def parallaxref9_Put.l0 : Nat → List (S25) → ByteArray → Int → Option (ByteArray)
  | 0, _, _, _ => none
  | k + 1, x0, x3, x4 => if x4 < (x0.length : Int) then (if 0 ≤ x4 then (if x3.size + ((rd_T25 x0 x4).f0).size ≤ 9223372036854775807 then (if (x3 ++ ((rd_T25 x0 x4).f0)).size + 2 ≤ 9223372036854775807 then (if ((x3 ++ ((rd_T25 x0 x4).f0)) ++ (⟨#[58, 32]⟩ : ByteArray)).size + ((rd_T25 x0 x4).f1).size ≤ 9223372036854775807 then (if (((x3 ++ ((rd_T25 x0 x4).f0)) ++ (⟨#[58, 32]⟩ : ByteArray)) ++ ((rd_T25 x0 x4).f1)).size + 2 ≤ 9223372036854775807 then (parallaxref9_Put.l0 k x0 ((((x3 ++ ((rd_T25 x0 x4).f0)) ++ (⟨#[58, 32]⟩ : ByteArray)) ++ ((rd_T25 x0 x4).f1)) ++ (⟨#[13, 10]⟩ : ByteArray)) (wrap64 (x4 + 1))) else (none)) else (none)) else (none)) else (none)) else (none)) else (some x3)
def parallaxref9_Put.f (k : Nat) (l0 : List (S25)) : Option (ByteArray) := parallaxref9_Put.l0 k l0 (⟨#[]⟩ : ByteArray) 0
theorem parallaxref9_Put.mono_l : ∀ k, (∀ y0 y1 y2, LeO (parallaxref9_Put.l0 k y0 y1 y2) (parallaxref9_Put.l0 (k + 1) y0 y1 y2))
  | 0 => fun _ _ _ r h => by simp [parallaxref9_Put.l0] at h
  | k + 1 => by
    have ih0 := parallaxref9_Put.mono_l k
    · intro y0 y1 y2
      unfold parallaxref9_Put.l0
      repeat' first
      | (with_reducible exact ih0 _ _ _)
      | (with_reducible exact LeO.refl _)
      | (with_reducible exact LeO.none _)
      | (with_reducible refine LeO.ite ?_ ?_)
      | (with_reducible refine LeO.bind ?_ (fun _ => ?_))
      | exact ih0 _ _ _
      | exact LeO.none _
      | refine LeO.ite ?_ ?_
      | refine LeO.bind ?_ (fun _ => ?_)
theorem parallaxref9_Put.mono : ∀ a0 k, LeO (parallaxref9_Put.f k a0) (parallaxref9_Put.f (k + 1) a0) := by
  intro a0 k
  have ih0 := parallaxref9_Put.mono_l k
  unfold parallaxref9_Put.f
  repeat' first
      | (with_reducible exact ih0 _ _ _)
      | (with_reducible exact LeO.refl _)
      | (with_reducible exact LeO.none _)
      | (with_reducible refine LeO.ite ?_ ?_)
      | (with_reducible refine LeO.bind ?_ (fun _ => ?_))
      | exact ih0 _ _ _
      | exact LeO.none _
      | refine LeO.ite ?_ ?_
      | refine LeO.bind ?_ (fun _ => ?_)
set_option maxHeartbeats 8000000 in
set_option maxRecDepth 100000 in
theorem parallaxref9_Put.calls (k : Nat) (A0 : Option Addr) (c0 : Nat) (l0 : List (S25)) (r : ByteArray) (w : World) (hr0 : Kd.C k25 w A0 l0.length l0) (hc0 : l0.length ≤ c0) (h : parallaxref9_Put.f k l0 = some r) :
    Calls Tryd.prog 22 #[.slice A0 l0.length c0] w fun e w' => e = .returned (.string r) ∧ Drawn0 w w' := by
  have HR0 := Aside0.mk hr0
  have HC0 := Aside0.mk hc0
  clear hr0 hc0
  have H : (parallaxref9_Put.l0 k l0 (⟨#[]⟩ : ByteArray) 0) = some r := h
  clear h
  have H' := Aside0.mk H
  clear H
  go_enter Tryd.func22, Tryd.ntmps22
  go_wp2
  repeat (go_quiet (fail); try go_wp2)
  go_loopg [3, 4] k (fun kq v3 v4 w' => ∃ (x3_1 : ByteArray) (x4_1 : Int), v3 = .string x3_1 ∧ v4 = .int .i64 x4_1 ∧ Aside0 (parallaxref9_Put.l0 kq l0 x3_1 x4_1 = some r) ∧ Aside0 (kq ≤ k) ∧ Drawn0 w w')
  case atStart => exact ⟨((⟨#[]⟩ : ByteArray)), (0), (by first | rfl | (simp; done) | (simp [*]; done)), (by first | rfl | (simp; done) | (simp [*]; done)), H', ⟨Nat.le_refl _⟩, by repeat (first | exact Drawn0.refl _ | apply Drawn0.step)⟩
  case round =>
    clear H'
    obtain ⟨x3_1, x4_1, rfl, rfl, HA, HK1, ⟨m1, rfl⟩⟩ := hrel
    cases gk with
    | zero => exact absurd HA.out (by simp [parallaxref9_Put.l0])
    | succ k1 =>
      have H := HA.out
      clear HA
      simp only [parallaxref9_Put.l0] at H
      by_cases c2 : x4_1 < (l0.length : Int)
      · rw [if_pos c2] at H
        have c2b0 : decide (x4_1 < (l0.length : Int)) = true := decide_eq_true c2
        clear c2
        by_cases c3 : 0 ≤ x4_1
        · rw [if_pos c3] at H
          have c3b0 : decide (0 ≤ x4_1) = true := decide_eq_true c3
          clear c3
          by_cases c4 : x3_1.size + ((rd_T25 l0 x4_1).f0).size ≤ 9223372036854775807
          · rw [if_pos c4] at H
            have c4b0 := eq_true c4
            have c4b1 : decide (x3_1.size + ((rd_T25 l0 x4_1).f0).size ≤ 9223372036854775807) = true := decide_eq_true c4
            try have c4b2 : (9223372036854775807 < x3_1.size + ((rd_T25 l0 x4_1).f0).size) = False := eq_false (Nat.not_lt.2 c4)
            by_cases c5 : (x3_1 ++ ((rd_T25 l0 x4_1).f0)).size + 2 ≤ 9223372036854775807
            · rw [if_pos c5] at H
              have c5b0 := eq_true c5
              have c5b1 : decide ((x3_1 ++ ((rd_T25 l0 x4_1).f0)).size + 2 ≤ 9223372036854775807) = true := decide_eq_true c5
              try have c5b2 : (9223372036854775807 < (x3_1 ++ ((rd_T25 l0 x4_1).f0)).size + 2) = False := eq_false (Nat.not_lt.2 c5)
              (try (have c5b3 : (9223372036854775807 < x3_1.size + ((rd_T25 l0 x4_1).f0).size + 2) = False := eq_false (by have h_ := c5; simp only [ByteArray.size_append] at h_; exact Nat.not_lt.mpr h_)))
              (try (have c5b4 : decide (x3_1.size + ((rd_T25 l0 x4_1).f0).size + 2 ≤ 9223372036854775807) = true := decide_eq_true (by have h_ := c5; simp only [ByteArray.size_append] at h_; exact h_)))
              by_cases c6 : ((x3_1 ++ ((rd_T25 l0 x4_1).f0)) ++ (⟨#[58, 32]⟩ : ByteArray)).size + ((rd_T25 l0 x4_1).f1).size ≤ 9223372036854775807
              · rw [if_pos c6] at H
                have c6b0 := eq_true c6
                have c6b1 : decide (((x3_1 ++ ((rd_T25 l0 x4_1).f0)) ++ (⟨#[58, 32]⟩ : ByteArray)).size + ((rd_T25 l0 x4_1).f1).size ≤ 9223372036854775807) = true := decide_eq_true c6
                try have c6b2 : (9223372036854775807 < ((x3_1 ++ ((rd_T25 l0 x4_1).f0)) ++ (⟨#[58, 32]⟩ : ByteArray)).size + ((rd_T25 l0 x4_1).f1).size) = False := eq_false (Nat.not_lt.2 c6)
                (try (have c6b3 : (9223372036854775807 < (x3_1.size + ((rd_T25 l0 x4_1).f0).size) + 2 + ((rd_T25 l0 x4_1).f1).size) = False := eq_false (by have h_ := c6; simp only [ByteArray.size_append] at h_; exact Nat.not_lt.mpr h_)))
                (try (have c6b4 : decide ((x3_1.size + ((rd_T25 l0 x4_1).f0).size) + 2 + ((rd_T25 l0 x4_1).f1).size ≤ 9223372036854775807) = true := decide_eq_true (by have h_ := c6; simp only [ByteArray.size_append] at h_; exact h_)))
                by_cases c7 : (((x3_1 ++ ((rd_T25 l0 x4_1).f0)) ++ (⟨#[58, 32]⟩ : ByteArray)) ++ ((rd_T25 l0 x4_1).f1)).size + 2 ≤ 9223372036854775807
                · rw [if_pos c7] at H
                  have c7b0 := eq_true c7
                  have c7b1 : decide ((((x3_1 ++ ((rd_T25 l0 x4_1).f0)) ++ (⟨#[58, 32]⟩ : ByteArray)) ++ ((rd_T25 l0 x4_1).f1)).size + 2 ≤ 9223372036854775807) = true := decide_eq_true c7
                  try have c7b2 : (9223372036854775807 < (((x3_1 ++ ((rd_T25 l0 x4_1).f0)) ++ (⟨#[58, 32]⟩ : ByteArray)) ++ ((rd_T25 l0 x4_1).f1)).size + 2) = False := eq_false (Nat.not_lt.2 c7)
                  (try (have c7b3 : (9223372036854775807 < ((x3_1.size + ((rd_T25 l0 x4_1).f0).size) + 2) + ((rd_T25 l0 x4_1).f1).size + 2) = False := eq_false (by have h_ := c7; simp only [ByteArray.size_append] at h_; exact Nat.not_lt.mpr h_)))
                  (try (have c7b4 : decide (((x3_1.size + ((rd_T25 l0 x4_1).f0).size) + 2) + ((rd_T25 l0 x4_1).f1).size + 2 ≤ 9223372036854775807) = true := decide_eq_true (by have h_ := c7; simp only [ByteArray.size_append] at h_; exact h_)))
                  have H' := Aside0.mk H
                  clear H
                  have p270 : 0 ≤ (x4_1 : Int) := of_decide_eq_true (by first | (with_reducible assumption) | assumption)
                  have q270 : x4_1 < (l0.length : Int) := of_decide_eq_true (by first | (with_reducible assumption) | assumption)
                  obtain ⟨ad270, e270, hx270_0, hx270_1⟩ := at_T25 HR0.out x4_1 p270 q270
                  cases e270
                  replace p270 := eq_true p270
                  replace q270 := eq_true q270
                  have p271 : 0 ≤ (x4_1 : Int) := of_decide_eq_true (by first | (with_reducible assumption) | assumption)
                  have q271 : x4_1 < (l0.length : Int) := of_decide_eq_true (by first | (with_reducible assumption) | assumption)
                  obtain ⟨ad271, e271, hx271_0, hx271_1⟩ := at_T25 HR0.out x4_1 p271 q271
                  obtain rfl : ad270 = ad271 := (by injection e271)
                  replace p271 := eq_true p271
                  replace q271 := eq_true q271
                  go_wp2
                  repeat (go_quiet (fail); try go_wp2)
                  go_roundg k1
                  case measure => have := HK1.out; omega
                  case rel => exact ⟨((((x3_1 ++ ((rd_T25 l0 x4_1).f0)) ++ (⟨#[58, 32]⟩ : ByteArray)) ++ ((rd_T25 l0 x4_1).f1)) ++ (⟨#[13, 10]⟩ : ByteArray)), (wrap64 (x4_1 + 1)), (by first | rfl | (simp; done) | (simp [*]; done)), (by first | rfl | (simp; done) | (simp [*]; done)), H', ⟨by have := HK1.out; omega⟩, by repeat (first | exact Drawn0.refl _ | apply Drawn0.step)⟩
                · rw [if_neg c7] at H
                  exact absurd H (by simp)
              · rw [if_neg c6] at H
                exact absurd H (by simp)
            · rw [if_neg c5] at H
              exact absurd H (by simp)
          · rw [if_neg c4] at H
            exact absurd H (by simp)
        · rw [if_neg c3] at H
          exact absurd H (by simp)
      · rw [if_neg c2] at H
        have c2b0 : decide (x4_1 < (l0.length : Int)) = false := decide_eq_false c2
        clear c2
        obtain rfl := Option.some.inj H
        go_wp2
        repeat (go_quiet (fail); try go_wp2)
        go_ret
        exact ⟨by first | rfl | (simp; done) | (simp [*]; done), by repeat (first | exact Drawn0.refl _ | apply Drawn0.step)⟩

end Go.Proofs.YtijcibdpcolfpaaDoor.PFieldTells
