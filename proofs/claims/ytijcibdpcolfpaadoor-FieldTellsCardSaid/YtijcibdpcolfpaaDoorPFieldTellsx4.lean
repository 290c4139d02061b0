-- Written by a program of this session (wip/tools/myprint.sh)
import Derived.Test.YtijcibdpcolfpaaDoorPFieldTellsx0
namespace Go.Proofs.YtijcibdpcolfpaaDoor.PFieldTells
open Go.RowKit Go.Proofs.YtijcibdpcolfpaaDoorW.PrintWords Go.Proofs.YtijcibdpcolfpaaDoorW.PrintLast Go.Proofs.YtijcibdpcolfpaaDoorW.PrintMore
attribute [local go_sem] max2_int min2_int max_two min_two max_three min_three max_four min_four   -- for this text's walks alone
set_option linter.unusedVariables false
set_option linter.unusedSimpArgs false

/-! ### parallaxhelp_Fields: function 8 -/
def parallaxhelp_Fields.l0 : Nat → List (S25) → Int → Option (Bool)
  | 0, _, _ => none
  | k + 1, x0, x3 => if x3 < (x0.length : Int) then (if 0 ≤ x3 then (if (wrap64 ((((rd_T25 x0 x3).f0).size : Int) + (((rd_T25 x0 x3).f1).size : Int))) > 120 then (some false) else (parallaxhelp_Fields.l0 k x0 (wrap64 (x3 + 1)))) else (none)) else (some true)
def parallaxhelp_Fields.f (k : Nat) (l0 : List (S25)) : Option (Bool) := if (l0.length : Int) > 20 then (some false) else (parallaxhelp_Fields.l0 k l0 0)
theorem parallaxhelp_Fields.mono_l : ∀ k, (∀ y0 y1, LeO (parallaxhelp_Fields.l0 k y0 y1) (parallaxhelp_Fields.l0 (k + 1) y0 y1))
  | 0 => fun _ _ r h => by simp [parallaxhelp_Fields.l0] at h
  | k + 1 => by
    have ih0 := parallaxhelp_Fields.mono_l k
    · intro y0 y1
      unfold parallaxhelp_Fields.l0
      repeat' first
      | (with_reducible exact ih0 _ _)
      | (with_reducible exact LeO.refl _)
      | (with_reducible exact LeO.none _)
      | (with_reducible refine LeO.ite ?_ ?_)
      | (with_reducible refine LeO.bind ?_ (fun _ => ?_))
      | exact ih0 _ _
      | exact LeO.none _
      | refine LeO.ite ?_ ?_
      | refine LeO.bind ?_ (fun _ => ?_)
theorem parallaxhelp_Fields.mono : ∀ a0 k, LeO (parallaxhelp_Fields.f k a0) (parallaxhelp_Fields.f (k + 1) a0) := by
  intro a0 k
  have ih0 := parallaxhelp_Fields.mono_l k
  unfold parallaxhelp_Fields.f
  repeat' first
      | (with_reducible exact ih0 _ _)
      | (with_reducible exact LeO.refl _)
      | (with_reducible exact LeO.none _)
      | (with_reducible refine LeO.ite ?_ ?_)
      | (with_reducible refine LeO.bind ?_ (fun _ => ?_))
      | exact ih0 _ _
      | exact LeO.none _
      | refine LeO.ite ?_ ?_
      | refine LeO.bind ?_ (fun _ => ?_)
set_option maxHeartbeats 8000000 in
set_option maxRecDepth 100000 in
theorem parallaxhelp_Fields.calls (k : Nat) (A0 : Option Addr) (c0 : Nat) (l0 : List (S25)) (r : Bool) (w : World) (hr0 : Kd.C k25 w A0 l0.length l0) (hc0 : l0.length ≤ c0) (h : parallaxhelp_Fields.f k l0 = some r) :
    Calls Tryd.prog 8 #[.slice A0 l0.length c0] w fun e w' => e = .returned (.bool r) ∧ Drawn0 w w' := by
  have HR0 := Aside0.mk hr0
  have HC0 := Aside0.mk hc0
  clear hr0 hc0
  have H : (if (l0.length : Int) > 20 then (some false) else (parallaxhelp_Fields.l0 k l0 0)) = some r := h
  clear h
  by_cases c2 : (l0.length : Int) > 20
  · rw [if_pos c2] at H
    have c2b0 : decide (20 < (l0.length : Int)) = true := decide_eq_true c2
    have c2b1 : decide (20 < l0.length) = true := decide_eq_true (by omega)
    clear c2
    obtain rfl := Option.some.inj H
    go_enter Tryd.func8, Tryd.ntmps8
    go_wp2
    repeat (go_quiet (fail); try go_wp2)
    go_ret
    exact ⟨by first | rfl | (simp; done) | (simp [*]; done), by repeat (first | exact Drawn0.refl _ | apply Drawn0.step)⟩
  · rw [if_neg c2] at H
    have c2b0 : decide (20 < (l0.length : Int)) = false := decide_eq_false c2
    have c2b1 : decide (20 < l0.length) = false := decide_eq_false (by omega)
    clear c2
    have H' := Aside0.mk H
    clear H
    go_enter Tryd.func8, Tryd.ntmps8
    go_wp2
    repeat (go_quiet (fail); try go_wp2)
    go_loopg [3] k (fun kq v3 w' => ∃ (x3_1 : Int), v3 = .int .i64 x3_1 ∧ Aside0 (parallaxhelp_Fields.l0 kq l0 x3_1 = some r) ∧ Aside0 (kq ≤ k) ∧ Drawn0 w w')
    case atStart => exact ⟨(0), (by first | rfl | (simp; done) | (simp [*]; done)), H', ⟨Nat.le_refl _⟩, by repeat (first | exact Drawn0.refl _ | apply Drawn0.step)⟩
    case round =>
      clear H'
      try clear c2
      try clear c2b0
      try clear c2b1
      try clear p2
      obtain ⟨x3_1, rfl, HA, HK1, ⟨m1, rfl⟩⟩ := hrel
      cases gk with
      | zero => exact absurd HA.out (by simp [parallaxhelp_Fields.l0])
      | succ k1 =>
        have H := HA.out
        clear HA
        simp only [parallaxhelp_Fields.l0] at H
        by_cases c3 : x3_1 < (l0.length : Int)
        · rw [if_pos c3] at H
          have c3b0 : decide (x3_1 < (l0.length : Int)) = true := decide_eq_true c3
          clear c3
          by_cases c4 : 0 ≤ x3_1
          · rw [if_pos c4] at H
            have c4b0 : decide (0 ≤ x3_1) = true := decide_eq_true c4
            clear c4
            by_cases c5 : (wrap64 ((((rd_T25 l0 x3_1).f0).size : Int) + (((rd_T25 l0 x3_1).f1).size : Int))) > 120
            · rw [if_pos c5] at H
              have c5b0 : decide (120 < (wrap64 ((((rd_T25 l0 x3_1).f0).size : Int) + (((rd_T25 l0 x3_1).f1).size : Int)))) = true := decide_eq_true c5
              clear c5
              obtain rfl := Option.some.inj H
              have p189 : 0 ≤ (x3_1 : Int) := of_decide_eq_true (by first | (with_reducible assumption) | assumption)
              have q189 : x3_1 < (l0.length : Int) := of_decide_eq_true (by first | (with_reducible assumption) | assumption)
              obtain ⟨ad189, e189, hx189_0, hx189_1⟩ := at_T25 HR0.out x3_1 p189 q189
              cases e189
              replace p189 := eq_true p189
              replace q189 := eq_true q189
              have p190 : 0 ≤ (x3_1 : Int) := of_decide_eq_true (by first | (with_reducible assumption) | assumption)
              have q190 : x3_1 < (l0.length : Int) := of_decide_eq_true (by first | (with_reducible assumption) | assumption)
              obtain ⟨ad190, e190, hx190_0, hx190_1⟩ := at_T25 HR0.out x3_1 p190 q190
              obtain rfl : ad189 = ad190 := (by injection e190)
              replace p190 := eq_true p190
              replace q190 := eq_true q190
              go_wp2
              repeat (go_quiet (fail); try go_wp2)
              go_ret
              exact ⟨by first | rfl | (simp; done) | (simp [*]; done), by repeat (first | exact Drawn0.refl _ | apply Drawn0.step)⟩
            · rw [if_neg c5] at H
              have c5b0 : decide (120 < (wrap64 ((((rd_T25 l0 x3_1).f0).size : Int) + (((rd_T25 l0 x3_1).f1).size : Int)))) = false := decide_eq_false c5
              clear c5
              have H' := Aside0.mk H
              clear H
              have p189 : 0 ≤ (x3_1 : Int) := of_decide_eq_true (by first | (with_reducible assumption) | assumption)
              have q189 : x3_1 < (l0.length : Int) := of_decide_eq_true (by first | (with_reducible assumption) | assumption)
              obtain ⟨ad189, e189, hx189_0, hx189_1⟩ := at_T25 HR0.out x3_1 p189 q189
              cases e189
              replace p189 := eq_true p189
              replace q189 := eq_true q189
              have p190 : 0 ≤ (x3_1 : Int) := of_decide_eq_true (by first | (with_reducible assumption) | assumption)
              have q190 : x3_1 < (l0.length : Int) := of_decide_eq_true (by first | (with_reducible assumption) | assumption)
              obtain ⟨ad190, e190, hx190_0, hx190_1⟩ := at_T25 HR0.out x3_1 p190 q190
              obtain rfl : ad189 = ad190 := (by injection e190)
              replace p190 := eq_true p190
              replace q190 := eq_true q190
              go_wp2
              repeat (go_quiet (fail); try go_wp2)
              go_roundg k1
              case measure => have := HK1.out; omega
              case rel => exact ⟨(wrap64 (x3_1 + 1)), (by first | rfl | (simp; done) | (simp [*]; done)), H', ⟨by have := HK1.out; omega⟩, by repeat (first | exact Drawn0.refl _ | apply Drawn0.step)⟩
          · rw [if_neg c4] at H
            exact absurd H (by simp)
        · rw [if_neg c3] at H
          have c3b0 : decide (x3_1 < (l0.length : Int)) = false := decide_eq_false c3
          clear c3
          obtain rfl := Option.some.inj H
          go_wp2
          repeat (go_quiet (fail); try go_wp2)
          go_ret
          exact ⟨by first | rfl | (simp; done) | (simp [*]; done), by repeat (first | exact Drawn0.refl _ | apply Drawn0.step)⟩

/-! ### parallaxref4_Of: function 12 -/
def parallaxref4_Of.l0 : Nat → List Int → Int → Int → Option (Int)
  | 0, _, _, _ => none
  | k + 1, x0, x3, x4 => if x4 < (x0.length : Int) then (if 0 ≤ x4 then (if (rd x0 x4) ≥ 0 then (if (rd x0 x4) < 30 then (if 0 ≤ (rd x0 x4) then (parallaxref4_Of.l0 k x0 (Go.bits .or .u32 x3 (shl .u32 1 (rd x0 x4))) (wrap64 (x4 + 1))) else (none)) else (parallaxref4_Of.l0 k x0 x3 (wrap64 (x4 + 1)))) else (parallaxref4_Of.l0 k x0 x3 (wrap64 (x4 + 1)))) else (none)) else (some x3)
def parallaxref4_Of.f (k : Nat) (l0 : List Int) : Option (Int) := parallaxref4_Of.l0 k l0 0 0
theorem parallaxref4_Of.mono_l : ∀ k, (∀ y0 y1 y2, LeO (parallaxref4_Of.l0 k y0 y1 y2) (parallaxref4_Of.l0 (k + 1) y0 y1 y2))
  | 0 => fun _ _ _ r h => by simp [parallaxref4_Of.l0] at h
  | k + 1 => by
    have ih0 := parallaxref4_Of.mono_l k
    · intro y0 y1 y2
      unfold parallaxref4_Of.l0
      repeat' first
      | (with_reducible exact ih0 _ _ _)
      | (with_reducible exact LeO.refl _)
      | (with_reducible exact LeO.none _)
      | (with_reducible refine LeO.ite ?_ ?_)
      | (with_reducible refine LeO.bind ?_ (fun _ => ?_))
      | exact ih0 _ _ _
      | exact LeO.none _
      | refine LeO.ite ?_ ?_
      | refine LeO.bind ?_ (fun _ => ?_)
theorem parallaxref4_Of.mono : ∀ a0 k, LeO (parallaxref4_Of.f k a0) (parallaxref4_Of.f (k + 1) a0) := by
  intro a0 k
  have ih0 := parallaxref4_Of.mono_l k
  unfold parallaxref4_Of.f
  repeat' first
      | (with_reducible exact ih0 _ _ _)
      | (with_reducible exact LeO.refl _)
      | (with_reducible exact LeO.none _)
      | (with_reducible refine LeO.ite ?_ ?_)
      | (with_reducible refine LeO.bind ?_ (fun _ => ?_))
      | exact ih0 _ _ _
      | exact LeO.none _
      | refine LeO.ite ?_ ?_
      | refine LeO.bind ?_ (fun _ => ?_)
set_option maxHeartbeats 8000000 in
set_option maxRecDepth 100000 in
theorem parallaxref4_Of.calls (k : Nat) (A0 : Option Addr) (c0 : Nat) (l0 : List Int) (r : Int) (w : World) (hr0 : Kd.C (Kd.int .i64) w A0 l0.length l0) (hc0 : l0.length ≤ c0) (h : parallaxref4_Of.f k l0 = some r) :
    Calls Tryd.prog 12 #[.slice A0 l0.length c0] w fun e w' => e = .returned (.int .u32 r) ∧ Drawn0 w w' := by
  have HR0 := Aside0.mk hr0
  have HC0 := Aside0.mk hc0
  clear hr0 hc0
  have H : (parallaxref4_Of.l0 k l0 0 0) = some r := h
  clear h
  have H' := Aside0.mk H
  clear H
  go_enter Tryd.func12, Tryd.ntmps12
  go_wp2
  go_loopg [3, 4] k (fun kq v3 v4 w' => ∃ (x3_1 : Int) (x4_1 : Int), v3 = .int .u32 x3_1 ∧ v4 = .int .i64 x4_1 ∧ Aside0 (parallaxref4_Of.l0 kq l0 x3_1 x4_1 = some r) ∧ Aside0 (kq ≤ k) ∧ Drawn0 w w')
  case atStart => exact ⟨(0), (0), (by first | rfl | (simp; done) | (simp [*]; done)), (by first | rfl | (simp; done) | (simp [*]; done)), H', ⟨Nat.le_refl _⟩, by repeat (first | exact Drawn0.refl _ | apply Drawn0.step)⟩
  case round =>
    clear H'
    try clear c1
    obtain ⟨x3_1, x4_1, rfl, rfl, HA, HK1, ⟨m1, rfl⟩⟩ := hrel
    cases gk with
    | zero => exact absurd HA.out (by simp [parallaxref4_Of.l0])
    | succ k1 =>
      have H := HA.out
      clear HA
      simp only [parallaxref4_Of.l0] at H
      by_cases c2 : x4_1 < (l0.length : Int)
      · rw [if_pos c2] at H
        have c2b0 : decide (x4_1 < (l0.length : Int)) = true := decide_eq_true c2
        clear c2
        by_cases c3 : 0 ≤ x4_1
        · rw [if_pos c3] at H
          have c3b0 : decide (0 ≤ x4_1) = true := decide_eq_true c3
          clear c3
          by_cases c4 : (rd l0 x4_1) ≥ 0
          · rw [if_pos c4] at H
            have c4b0 : decide (0 ≤ (rd l0 x4_1)) = true := decide_eq_true c4
            clear c4
            by_cases c5 : (rd l0 x4_1) < 30
            · rw [if_pos c5] at H
              have c5b0 : decide ((rd l0 x4_1) < 30) = true := decide_eq_true c5
              clear c5
              by_cases c6 : 0 ≤ (rd l0 x4_1)
              · rw [if_pos c6] at H
                have c6b0 := eq_true c6
                have c6b1 : decide (0 ≤ (rd l0 x4_1)) = true := decide_eq_true c6
                clear c6
                obtain ⟨ji7, hji7⟩ : ∃ j_ : Int, (shl .u32 1 (rd l0 x4_1)) = j_ := ⟨_, rfl⟩
                have hji7s := (Mark.shl1_spell (rd l0 x4_1)).trans hji7
                replace H : (parallaxref4_Of.l0 k1 l0 (Go.bits .or .u32 x3_1 (ji7)) (wrap64 (x4_1 + 1))) = some r := by first | (rw [hji7] at H; exact H) | (simp only [hji7] at H ⊢; exact H)
                have hji7_ : (IntKind.u32.wrap (1 * 2 ^ min (rd l0 x4_1).toNat 32)) = ji7 := hji7
                have hji7z : (rd l0 x4_1) ≤ 32 → (IntKind.u32.wrap (1 * 2 ^ (rd l0 x4_1).toNat)) = ji7 := shl_small hji7
                have hji7u : (IntKind.u32.wrap (2 ^ min (rd l0 x4_1).toNat 32)) = ji7 := by have h_ := hji7_; rw [Int.one_mul] at h_; exact h_
                have hji7v : (rd l0 x4_1) ≤ 32 → (IntKind.u32.wrap (2 ^ (rd l0 x4_1).toNat)) = ji7 := fun hle_ => by have h_ := hji7z hle_; rw [Int.one_mul] at h_; exact h_
                have H' := Aside0.mk H
                clear H
                have p191 : 0 ≤ (x4_1 : Int) := of_decide_eq_true (by first | (with_reducible assumption) | assumption)
                have q191 : x4_1 < (l0.length : Int) := of_decide_eq_true (by first | (with_reducible assumption) | assumption)
                obtain ⟨ad191, e191, hx191_0⟩ := Kd.at_int HR0.out x4_1 p191 q191
                cases e191
                replace p191 := eq_true p191
                replace q191 := eq_true q191
                have p192 : 0 ≤ (x4_1 : Int) := of_decide_eq_true (by first | (with_reducible assumption) | assumption)
                have q192 : x4_1 < (l0.length : Int) := of_decide_eq_true (by first | (with_reducible assumption) | assumption)
                obtain ⟨ad192, e192, hx192_0⟩ := Kd.at_int HR0.out x4_1 p192 q192
                obtain rfl : ad191 = ad192 := (by injection e192)
                replace p192 := eq_true p192
                replace q192 := eq_true q192
                have p193 : 0 ≤ (x4_1 : Int) := of_decide_eq_true (by first | (with_reducible assumption) | assumption)
                have q193 : x4_1 < (l0.length : Int) := of_decide_eq_true (by first | (with_reducible assumption) | assumption)
                obtain ⟨ad193, e193, hx193_0⟩ := Kd.at_int HR0.out x4_1 p193 q193
                obtain rfl : ad191 = ad193 := (by injection e193)
                replace p193 := eq_true p193
                replace q193 := eq_true q193
                go_wp2
                go_roundg k1
                case measure => have := HK1.out; omega
                case rel => exact ⟨(Go.bits .or .u32 x3_1 (ji7)), (wrap64 (x4_1 + 1)), (by first | rfl | (simp; done) | (simp only [← hji7] <;> (first | rfl | simp)) | (simp [*]; done)), (by first | rfl | (simp; done) | (simp [*]; done)), H', ⟨by have := HK1.out; omega⟩, by repeat (first | exact Drawn0.refl _ | apply Drawn0.step)⟩
              · rw [if_neg c6] at H
                exact absurd H (by simp)
            · rw [if_neg c5] at H
              have c5b0 : decide ((rd l0 x4_1) < 30) = false := decide_eq_false c5
              clear c5
              have H' := Aside0.mk H
              clear H
              have p191 : 0 ≤ (x4_1 : Int) := of_decide_eq_true (by first | (with_reducible assumption) | assumption)
              have q191 : x4_1 < (l0.length : Int) := of_decide_eq_true (by first | (with_reducible assumption) | assumption)
              obtain ⟨ad191, e191, hx191_0⟩ := Kd.at_int HR0.out x4_1 p191 q191
              cases e191
              replace p191 := eq_true p191
              replace q191 := eq_true q191
              have p192 : 0 ≤ (x4_1 : Int) := of_decide_eq_true (by first | (with_reducible assumption) | assumption)
              have q192 : x4_1 < (l0.length : Int) := of_decide_eq_true (by first | (with_reducible assumption) | assumption)
              obtain ⟨ad192, e192, hx192_0⟩ := Kd.at_int HR0.out x4_1 p192 q192
              obtain rfl : ad191 = ad192 := (by injection e192)
              replace p192 := eq_true p192
              replace q192 := eq_true q192
              go_wp2
              go_roundg k1
              case measure => have := HK1.out; omega
              case rel => exact ⟨(x3_1), (wrap64 (x4_1 + 1)), (by first | rfl | (simp; done) | (simp [*]; done)), (by first | rfl | (simp; done) | (simp [*]; done)), H', ⟨by have := HK1.out; omega⟩, by repeat (first | exact Drawn0.refl _ | apply Drawn0.step)⟩
          · rw [if_neg c4] at H
            have c4b0 : decide (0 ≤ (rd l0 x4_1)) = false := decide_eq_false c4
            clear c4
            have H' := Aside0.mk H
            clear H
            have p191 : 0 ≤ (x4_1 : Int) := of_decide_eq_true (by first | (with_reducible assumption) | assumption)
            have q191 : x4_1 < (l0.length : Int) := of_decide_eq_true (by first | (with_reducible assumption) | assumption)
            obtain ⟨ad191, e191, hx191_0⟩ := Kd.at_int HR0.out x4_1 p191 q191
            cases e191
            replace p191 := eq_true p191
            replace q191 := eq_true q191
            go_wp2
            go_roundg k1
            case measure => have := HK1.out; omega
            case rel => exact ⟨(x3_1), (wrap64 (x4_1 + 1)), (by first | rfl | (simp; done) | (simp [*]; done)), (by first | rfl | (simp; done) | (simp [*]; done)), H', ⟨by have := HK1.out; omega⟩, by repeat (first | exact Drawn0.refl _ | apply Drawn0.step)⟩
        · rw [if_neg c3] at H
          exact absurd H (by simp)
      · rw [if_neg c2] at H
        have c2b0 : decide (x4_1 < (l0.length : Int)) = false := decide_eq_false c2
        clear c2
        obtain rfl := Option.some.inj H
        go_wp2
        go_ret
        exact ⟨by first | rfl | (simp; done) | (simp [*]; done), by repeat (first | exact Drawn0.refl _ | apply Drawn0.step)⟩

/-! ### parallaxseat_Profile: function 9 -/
def parallaxseat_Profile.f (k : Nat) (a0 : Int) (a1 : Int) : Option (Int) := if (Int.tmod a1 4) = 0 then ((parallaxref4_Of.f k (([Int.tmod (wrap64 (Int.tdiv (wrap64 (a1)) 4)) 30] : List Int))).bind fun t197 => (some t197)) else (if (Int.tmod a1 4) = 1 then ((parallaxref4_Of.f k (([Int.tmod (wrap64 (Int.tdiv (wrap64 (a1)) 4)) 30, wrap64 (Int.tmod a0 30)] : List Int))).bind fun t201 => (some t201)) else (if (Int.tmod a1 4) = 2 then (some (Go.bits .and .u32 (Go.bits .and .u32 (Go.bits .and .u32 a0 1073741823) ((Go.bits .and .u32 a0 1073741823) / 128)) ((Go.bits .and .u32 a0 1073741823) / 8192))) else (some (Go.bits .and .u32 a0 1073741823))))
theorem parallaxseat_Profile.mono : ∀ a0 a1 k, LeO (parallaxseat_Profile.f k a0 a1) (parallaxseat_Profile.f (k + 1) a0 a1) := by
  intro a0 a1 k
  unfold parallaxseat_Profile.f
  repeat' first
      | (with_reducible exact parallaxref4_Of.mono _ _)
      | (with_reducible exact LeO.refl _)
      | (with_reducible exact LeO.none _)
      | (with_reducible refine LeO.ite ?_ ?_)
      | (with_reducible refine LeO.bind ?_ (fun _ => ?_))
      | exact parallaxref4_Of.mono _ _
      | exact LeO.none _
      | refine LeO.ite ?_ ?_
      | refine LeO.bind ?_ (fun _ => ?_)
set_option maxHeartbeats 8000000 in
set_option maxRecDepth 100000 in
theorem parallaxseat_Profile.calls (k : Nat) (a0 : Int) (a1 : Int) (r : Int) (w : World) (h : parallaxseat_Profile.f k a0 a1 = some r) :
    Calls Tryd.prog 9 #[.int .u32 a0, .int .u8 a1] w fun e w' => e = .returned (.int .u32 r) ∧ Below w.heap.size w w' := by
  have HB := Aside0.mk (Below.refl w.heap.size w)
  have H : (if (Int.tmod a1 4) = 0 then ((parallaxref4_Of.f k (([Int.tmod (wrap64 (Int.tdiv (wrap64 (a1)) 4)) 30] : List Int))).bind fun t197 => (some t197)) else (if (Int.tmod a1 4) = 1 then ((parallaxref4_Of.f k (([Int.tmod (wrap64 (Int.tdiv (wrap64 (a1)) 4)) 30, wrap64 (Int.tmod a0 30)] : List Int))).bind fun t201 => (some t201)) else (if (Int.tmod a1 4) = 2 then (some (Go.bits .and .u32 (Go.bits .and .u32 (Go.bits .and .u32 a0 1073741823) ((Go.bits .and .u32 a0 1073741823) / 128)) ((Go.bits .and .u32 a0 1073741823) / 8192))) else (some (Go.bits .and .u32 a0 1073741823))))) = some r := h
  clear h
  by_cases c3 : (Int.tmod a1 4) = 0
  · rw [if_pos c3] at H
    have c3b0 : ((Int.tmod a1 4) == 0) = true := beq_iff_eq.mpr c3
    have c3b1 : ((Int.tmod a1 4) != 0) = false := bne_eq_false_iff_eq.mpr c3
    clear c3
    obtain ⟨y194, hy194⟩ : ∃ y_ : List Int, y_ = (([Int.tmod (wrap64 (Int.tdiv (wrap64 (a1)) 4)) 30] : List Int)) := ⟨_, rfl⟩
    replace H : ((parallaxref4_Of.f k y194).bind fun t197 => (some t197)) = some r := by first | (rw [hy194]; with_reducible exact H) | (have H2_ := (Option.bind_some _ _).symm.trans H; rw [hy194]; with_reducible exact H2_) | (have H2_ := (Option.bind_some _ _).symm.trans H; with_reducible exact H2_) | with_reducible exact H | (rw [hy194]; exact H) | exact H
    have Ny194 := Aside0.mk hy194
    clear hy194
    replace H := Option.bind_eq_some_iff.mp H
    obtain ⟨t197, A40, H⟩ := H
    replace H : (some t197) = some r := H
    have A4 := Aside0.mk A40
    clear A40
    obtain rfl := Option.some.inj H
    go_enter Tryd.func9, Tryd.ntmps9
    go_wp2_with (first | ((with_reducible refine gate_dst (N := 16) rfl ?_); refine Kd.R_lit (Kd.int .i64) _ 3 ?hg (N := 16) ?hd (xs := ([Int.tmod (wrap64 (Int.tdiv (wrap64 (a1)) 4)) 30] : List Int)) (inner := [.int .i64 (Int.tmod (wrap64 (Int.tdiv (wrap64 (a1)) 4)) 30)]) (ok := fun _ => True) (okp := fun _ => True) ?hr ?hp (fun _ hk => hk) trivial (Below.refl _ _) (Nat.le_refl _) (by simp) ?_; (case hd => rfl); (case hg => rfl); (case hr => first | (go_simp; done) | (go_simp; rfl)); (case hp => exact (Reps.one (show Kd.M (Kd.int .i64) _ _ _ (Int.tmod (wrap64 (Int.tdiv (wrap64 (a1)) 4)) 30) [.int .i64 (Int.tmod (wrap64 (Int.tdiv (wrap64 (a1)) 4)) 30)] from rfl) (Reps.none _ _))); intro v195 w5 ho6 hb hg_ hnew_; clear hg_ hnew_; (first | rw [← Ny194.out] at ho6 | (simp only [Int.reduceToNat] at ho6; rw [← Ny194.out] at ho6)); have n0_ := Aside0.mk (Kd.R_lower ho6 (below_size (by repeat (first | (with_reducible first | exact HB.out | apply below_alloc | apply pw_below_drewN | apply below_drew1) | exact HB.out)))); have n1_ := Aside0.mk (below_step (by repeat (first | (with_reducible first | exact HB.out | apply below_alloc | apply pw_below_drewN | apply below_drew1) | exact HB.out)) hb); clear HB; have HO196 := n0_; have HB := n1_; clear n0_ n1_; clear hb ho6; obtain ⟨Ao7, co7, eo7⟩ := Kd.R_slice HO196.out; subst eo7) | ((with_reducible refine gate_callee (f := 12) rfl ?_); refine goesL_ (some 17) rfl rfl Tryd.func12 (by kernel_rfl) rfl #[.slice Ao7 y194.length co7] rfl (by (try simp only [List.map_toArray, List.map_cons, List.map_nil]); first | done | rfl | (simp only [List.length_drop, List.length_take]; rfl)) ?_; (with_reducible refine (parallaxref4_Of.calls k _ _ y194 t197 _ ?side1 ?side2 A4.out).mono ?_); (case side1 => repeat (first | exact (Kd.R_reads' HO196.out).2.2 | (with_reducible refine Kd.C_alloc ?_ _) | (with_reducible refine Kd.C_drewN ?_ _) | (with_reducible refine Kd.C_drew ?_))); (case side2 => exact (Kd.R_reads' HO196.out).2.1); rintro e w' ⟨rfl, ⟨nd, rfl⟩⟩; refine ⟨_, rfl, ?_⟩))
    go_ret
    exact ⟨by first | rfl | (simp [errW_none, errW_some] <;> rfl) | (simp [*, errW_none, errW_some] <;> rfl), by repeat (first | (with_reducible first | exact HB.out | apply below_alloc | apply pw_below_drewN | apply below_drew1) | exact HB.out)⟩
  · rw [if_neg c3] at H
    have c3b0 : ((Int.tmod a1 4) == 0) = false := beq_eq_false_iff_ne.mpr c3
    have c3b1 : ((Int.tmod a1 4) != 0) = true := bne_iff_ne.mpr c3
    by_cases c8 : (Int.tmod a1 4) = 1
    · rw [if_pos c8] at H
      have c8b0 : ((Int.tmod a1 4) == 1) = true := beq_iff_eq.mpr c8
      have c8b1 : ((Int.tmod a1 4) != 1) = false := bne_eq_false_iff_eq.mpr c8
      clear c8
      obtain ⟨y198, hy198⟩ : ∃ y_ : List Int, y_ = (([Int.tmod (wrap64 (Int.tdiv (wrap64 (a1)) 4)) 30, wrap64 (Int.tmod a0 30)] : List Int)) := ⟨_, rfl⟩
      replace H : ((parallaxref4_Of.f k y198).bind fun t201 => (some t201)) = some r := by first | (rw [hy198]; with_reducible exact H) | (have H2_ := (Option.bind_some _ _).symm.trans H; rw [hy198]; with_reducible exact H2_) | (have H2_ := (Option.bind_some _ _).symm.trans H; with_reducible exact H2_) | with_reducible exact H | (rw [hy198]; exact H) | exact H
      have Ny198 := Aside0.mk hy198
      clear hy198
      replace H := Option.bind_eq_some_iff.mp H
      obtain ⟨t201, A90, H⟩ := H
      replace H : (some t201) = some r := H
      have A9 := Aside0.mk A90
      clear A90
      obtain rfl := Option.some.inj H
      go_enter Tryd.func9, Tryd.ntmps9
      go_wp2_with (first | ((with_reducible refine gate_dst (N := 27) rfl ?_); refine Kd.R_lit (Kd.int .i64) _ 3 ?hg (N := 27) ?hd (xs := ([Int.tmod (wrap64 (Int.tdiv (wrap64 (a1)) 4)) 30, wrap64 (Int.tmod a0 30)] : List Int)) (inner := [.int .i64 (Int.tmod (wrap64 (Int.tdiv (wrap64 (a1)) 4)) 30), .int .i64 (wrap64 (Int.tmod a0 30))]) (ok := fun _ => True) (okp := fun _ => True) ?hr ?hp (fun _ hk => hk) trivial (Below.refl _ _) (Nat.le_refl _) (by simp) ?_; (case hd => rfl); (case hg => rfl); (case hr => first | (go_simp; done) | (go_simp; rfl)); (case hp => exact (Reps.one (show Kd.M (Kd.int .i64) _ _ _ (Int.tmod (wrap64 (Int.tdiv (wrap64 (a1)) 4)) 30) [.int .i64 (Int.tmod (wrap64 (Int.tdiv (wrap64 (a1)) 4)) 30)] from rfl) (Reps.one (show Kd.M (Kd.int .i64) _ _ _ (wrap64 (Int.tmod a0 30)) [.int .i64 (wrap64 (Int.tmod a0 30))] from rfl) (Reps.none _ _)))); intro v199 w10 ho11 hb hg_ hnew_; clear hg_ hnew_; (first | rw [← Ny198.out] at ho11 | (simp only [Int.reduceToNat] at ho11; rw [← Ny198.out] at ho11)); have n0_ := Aside0.mk (Kd.R_lower ho11 (below_size (by repeat (first | (with_reducible first | exact HB.out | apply below_alloc | apply pw_below_drewN | apply below_drew1) | exact HB.out)))); have n1_ := Aside0.mk (below_step (by repeat (first | (with_reducible first | exact HB.out | apply below_alloc | apply pw_below_drewN | apply below_drew1) | exact HB.out)) hb); clear HB; have HO200 := n0_; have HB := n1_; clear n0_ n1_; clear hb ho11; obtain ⟨Ao12, co12, eo12⟩ := Kd.R_slice HO200.out; subst eo12) | ((with_reducible refine gate_callee (f := 12) rfl ?_); refine goesL_ (some 28) rfl rfl Tryd.func12 (by kernel_rfl) rfl #[.slice Ao12 y198.length co12] rfl (by (try simp only [List.map_toArray, List.map_cons, List.map_nil]); first | done | rfl | (simp only [List.length_drop, List.length_take]; rfl)) ?_; (with_reducible refine (parallaxref4_Of.calls k _ _ y198 t201 _ ?side1 ?side2 A9.out).mono ?_); (case side1 => repeat (first | exact (Kd.R_reads' HO200.out).2.2 | (with_reducible refine Kd.C_alloc ?_ _) | (with_reducible refine Kd.C_drewN ?_ _) | (with_reducible refine Kd.C_drew ?_))); (case side2 => exact (Kd.R_reads' HO200.out).2.1); rintro e w' ⟨rfl, ⟨nd, rfl⟩⟩; refine ⟨_, rfl, ?_⟩))
      go_ret
      exact ⟨by first | rfl | (simp [errW_none, errW_some] <;> rfl) | (simp [*, errW_none, errW_some] <;> rfl), by repeat (first | (with_reducible first | exact HB.out | apply below_alloc | apply pw_below_drewN | apply below_drew1) | exact HB.out)⟩
    · rw [if_neg c8] at H
      have c8b0 : ((Int.tmod a1 4) == 1) = false := beq_eq_false_iff_ne.mpr c8
      have c8b1 : ((Int.tmod a1 4) != 1) = true := bne_iff_ne.mpr c8
      by_cases c13 : (Int.tmod a1 4) = 2
      · rw [if_pos c13] at H
        have c13b0 : ((Int.tmod a1 4) == 2) = true := beq_iff_eq.mpr c13
        have c13b1 : ((Int.tmod a1 4) != 2) = false := bne_eq_false_iff_eq.mpr c13
        clear c13
        obtain rfl := Option.some.inj H
        go_enter Tryd.func9, Tryd.ntmps9
        go_wp2
        go_ret
        exact ⟨by first | rfl | (simp [errW_none, errW_some] <;> rfl) | (simp [*, errW_none, errW_some] <;> rfl), by repeat (first | (with_reducible first | exact HB.out | apply below_alloc | apply pw_below_drewN | apply below_drew1) | exact HB.out)⟩
      · rw [if_neg c13] at H
        have c13b0 : ((Int.tmod a1 4) == 2) = false := beq_eq_false_iff_ne.mpr c13
        have c13b1 : ((Int.tmod a1 4) != 2) = true := bne_iff_ne.mpr c13
        obtain rfl := Option.some.inj H
        go_enter Tryd.func9, Tryd.ntmps9
        go_wp2
        go_ret
        exact ⟨by first | rfl | (simp [errW_none, errW_some] <;> rfl) | (simp [*, errW_none, errW_some] <;> rfl), by repeat (first | (with_reducible first | exact HB.out | apply below_alloc | apply pw_below_drewN | apply below_drew1) | exact HB.out)⟩

/-! ### parallaxlaw9_some: function 10 -/
def parallaxlaw9_some.l0 : Nat → List Int → List ByteArray → ByteArray → Int → Option (ByteArray)
  | 0, _, _, _, _ => none
  | k + 1, x0, x3, x4, x5 => if x5 < (x0.length : Int) then (if 0 ≤ x5 then (if (x3.length : Int) = 0 then (none) else (if 0 ≤ (Int.tmod (wrap64 (rd x0 x5)) (x3.length : Int)) then (if (Int.tmod (wrap64 (rd x0 x5)) (x3.length : Int)) < (x3.length : Int) then (if x4.size + (rdOf ByteArray.empty x3 (Int.tmod (wrap64 (rd x0 x5)) (x3.length : Int))).size ≤ 9223372036854775807 then (parallaxlaw9_some.l0 k x0 x3 (x4 ++ (rdOf ByteArray.empty x3 (Int.tmod (wrap64 (rd x0 x5)) (x3.length : Int)))) (wrap64 (x5 + 1))) else (none)) else (none)) else (none))) else (none)) else (some x4)
def parallaxlaw9_some.f (k : Nat) (l0 : List Int) : Option (ByteArray) := parallaxlaw9_some.l0 k l0 (([(⟨#[65]⟩ : ByteArray), (⟨#[45]⟩ : ByteArray), (⟨#[58]⟩ : ByteArray), (⟨#[32]⟩ : ByteArray), (⟨#[9]⟩ : ByteArray), (⟨#[98]⟩ : ByteArray), (⟨#[0]⟩ : ByteArray), (⟨#[128]⟩ : ByteArray), (⟨#[40]⟩ : ByteArray), (⟨#[72, 111, 115, 116]⟩ : ByteArray), (⟨#[58, 32]⟩ : ByteArray), (⟨#[127]⟩ : ByteArray), (⟨#[]⟩ : ByteArray)] : List ByteArray)) (⟨#[]⟩ : ByteArray) 0
theorem parallaxlaw9_some.mono_l : ∀ k, (∀ y0 y1 y2 y3, LeO (parallaxlaw9_some.l0 k y0 y1 y2 y3) (parallaxlaw9_some.l0 (k + 1) y0 y1 y2 y3))
  | 0 => fun _ _ _ _ r h => by simp [parallaxlaw9_some.l0] at h
  | k + 1 => by
    have ih0 := parallaxlaw9_some.mono_l k
    · intro y0 y1 y2 y3
      unfold parallaxlaw9_some.l0
      repeat' first
      | (with_reducible exact ih0 _ _ _ _)
      | (with_reducible exact LeO.refl _)
      | (with_reducible exact LeO.none _)
      | (with_reducible refine LeO.ite ?_ ?_)
      | (with_reducible refine LeO.bind ?_ (fun _ => ?_))
      | exact ih0 _ _ _ _
      | exact LeO.none _
      | refine LeO.ite ?_ ?_
      | refine LeO.bind ?_ (fun _ => ?_)
theorem parallaxlaw9_some.mono : ∀ a0 k, LeO (parallaxlaw9_some.f k a0) (parallaxlaw9_some.f (k + 1) a0) := by
  intro a0 k
  have ih0 := parallaxlaw9_some.mono_l k
  unfold parallaxlaw9_some.f
  repeat' first
      | (with_reducible exact ih0 _ _ _ _)
      | (with_reducible exact LeO.refl _)
      | (with_reducible exact LeO.none _)
      | (with_reducible refine LeO.ite ?_ ?_)
      | (with_reducible refine LeO.bind ?_ (fun _ => ?_))
      | exact ih0 _ _ _ _
      | exact LeO.none _
      | refine LeO.ite ?_ ?_
      | refine LeO.bind ?_ (fun _ => ?_)
set_option maxHeartbeats 8000000 in
set_option maxRecDepth 100000 in
theorem parallaxlaw9_some.calls (k : Nat) (A0 : Option Addr) (c0 : Nat) (l0 : List Int) (r : ByteArray) (w : World) (hr0 : Kd.C (Kd.int .u8) w A0 l0.length l0) (hc0 : l0.length ≤ c0) (h : parallaxlaw9_some.f k l0 = some r) :
    Calls Tryd.prog 10 #[.slice A0 l0.length c0] w fun e w' => e = .returned (.string r) ∧ Below w.heap.size w w' := by
  have HR0 := Aside0.mk hr0
  have HC0 := Aside0.mk hc0
  clear hr0 hc0
  have HB := Aside0.mk (Below.refl w.heap.size w)
  have H : (parallaxlaw9_some.l0 k l0 (([(⟨#[65]⟩ : ByteArray), (⟨#[45]⟩ : ByteArray), (⟨#[58]⟩ : ByteArray), (⟨#[32]⟩ : ByteArray), (⟨#[9]⟩ : ByteArray), (⟨#[98]⟩ : ByteArray), (⟨#[0]⟩ : ByteArray), (⟨#[128]⟩ : ByteArray), (⟨#[40]⟩ : ByteArray), (⟨#[72, 111, 115, 116]⟩ : ByteArray), (⟨#[58, 32]⟩ : ByteArray), (⟨#[127]⟩ : ByteArray), (⟨#[]⟩ : ByteArray)] : List ByteArray)) (⟨#[]⟩ : ByteArray) 0) = some r := h
  clear h
  obtain ⟨y202, hy202⟩ : ∃ y_ : List ByteArray, y_ = (([(⟨#[65]⟩ : ByteArray), (⟨#[45]⟩ : ByteArray), (⟨#[58]⟩ : ByteArray), (⟨#[32]⟩ : ByteArray), (⟨#[9]⟩ : ByteArray), (⟨#[98]⟩ : ByteArray), (⟨#[0]⟩ : ByteArray), (⟨#[128]⟩ : ByteArray), (⟨#[40]⟩ : ByteArray), (⟨#[72, 111, 115, 116]⟩ : ByteArray), (⟨#[58, 32]⟩ : ByteArray), (⟨#[127]⟩ : ByteArray), (⟨#[]⟩ : ByteArray)] : List ByteArray)) := ⟨_, rfl⟩
  replace H : (parallaxlaw9_some.l0 k l0 y202 (⟨#[]⟩ : ByteArray) 0) = some r := by first | (rw [hy202]; with_reducible exact H) | (have H2_ := (Option.bind_some _ _).symm.trans H; rw [hy202]; with_reducible exact H2_) | (have H2_ := (Option.bind_some _ _).symm.trans H; with_reducible exact H2_) | with_reducible exact H | (rw [hy202]; exact H) | exact H
  have Ny202 := Aside0.mk hy202
  clear hy202
  have H' := Aside0.mk H
  clear H
  go_enter Tryd.func10, Tryd.ntmps10
  go_wp2_with (first | ((with_reducible refine gate_dst (N := 6) rfl ?_); refine Kd.R_lit Kd.string _ 9 ?hg (N := 6) ?hd (xs := ([(⟨#[65]⟩ : ByteArray), (⟨#[45]⟩ : ByteArray), (⟨#[58]⟩ : ByteArray), (⟨#[32]⟩ : ByteArray), (⟨#[9]⟩ : ByteArray), (⟨#[98]⟩ : ByteArray), (⟨#[0]⟩ : ByteArray), (⟨#[128]⟩ : ByteArray), (⟨#[40]⟩ : ByteArray), (⟨#[72, 111, 115, 116]⟩ : ByteArray), (⟨#[58, 32]⟩ : ByteArray), (⟨#[127]⟩ : ByteArray), (⟨#[]⟩ : ByteArray)] : List ByteArray)) (inner := [.string (⟨#[65]⟩ : ByteArray), .string (⟨#[45]⟩ : ByteArray), .string (⟨#[58]⟩ : ByteArray), .string (⟨#[32]⟩ : ByteArray), .string (⟨#[9]⟩ : ByteArray), .string (⟨#[98]⟩ : ByteArray), .string (⟨#[0]⟩ : ByteArray), .string (⟨#[128]⟩ : ByteArray), .string (⟨#[40]⟩ : ByteArray), .string (⟨#[72, 111, 115, 116]⟩ : ByteArray), .string (⟨#[58, 32]⟩ : ByteArray), .string (⟨#[127]⟩ : ByteArray), .string (⟨#[]⟩ : ByteArray)]) (ok := fun _ => True) (okp := fun _ => True) ?hr ?hp (fun _ hk => hk) trivial (Below.refl _ _) (Nat.le_refl _) (by simp) ?_; (case hd => rfl); (case hg => rfl); (case hr => first | (go_simp; done) | (go_simp; rfl)); (case hp => exact (Reps.one (show Kd.M Kd.string _ _ _ (⟨#[65]⟩ : ByteArray) [.string (⟨#[65]⟩ : ByteArray)] from rfl) (Reps.one (show Kd.M Kd.string _ _ _ (⟨#[45]⟩ : ByteArray) [.string (⟨#[45]⟩ : ByteArray)] from rfl) (Reps.one (show Kd.M Kd.string _ _ _ (⟨#[58]⟩ : ByteArray) [.string (⟨#[58]⟩ : ByteArray)] from rfl) (Reps.one (show Kd.M Kd.string _ _ _ (⟨#[32]⟩ : ByteArray) [.string (⟨#[32]⟩ : ByteArray)] from rfl) (Reps.one (show Kd.M Kd.string _ _ _ (⟨#[9]⟩ : ByteArray) [.string (⟨#[9]⟩ : ByteArray)] from rfl) (Reps.one (show Kd.M Kd.string _ _ _ (⟨#[98]⟩ : ByteArray) [.string (⟨#[98]⟩ : ByteArray)] from rfl) (Reps.one (show Kd.M Kd.string _ _ _ (⟨#[0]⟩ : ByteArray) [.string (⟨#[0]⟩ : ByteArray)] from rfl) (Reps.one (show Kd.M Kd.string _ _ _ (⟨#[128]⟩ : ByteArray) [.string (⟨#[128]⟩ : ByteArray)] from rfl) (Reps.one (show Kd.M Kd.string _ _ _ (⟨#[40]⟩ : ByteArray) [.string (⟨#[40]⟩ : ByteArray)] from rfl) (Reps.one (show Kd.M Kd.string _ _ _ (⟨#[72, 111, 115, 116]⟩ : ByteArray) [.string (⟨#[72, 111, 115, 116]⟩ : ByteArray)] from rfl) (Reps.one (show Kd.M Kd.string _ _ _ (⟨#[58, 32]⟩ : ByteArray) [.string (⟨#[58, 32]⟩ : ByteArray)] from rfl) (Reps.one (show Kd.M Kd.string _ _ _ (⟨#[127]⟩ : ByteArray) [.string (⟨#[127]⟩ : ByteArray)] from rfl) (Reps.one (show Kd.M Kd.string _ _ _ (⟨#[]⟩ : ByteArray) [.string (⟨#[]⟩ : ByteArray)] from rfl) (Reps.none _ _))))))))))))))); intro v203 w2 ho3 hb hg_ hnew_; clear hg_ hnew_; (first | rw [← Ny202.out] at ho3 | (simp only [Int.reduceToNat] at ho3; rw [← Ny202.out] at ho3)); have n0_ := Aside0.mk (Kd.R_lower ho3 (below_size (by repeat (first | (with_reducible first | exact HB.out | apply below_alloc | apply pw_below_drewN | apply below_drew1) | exact HB.out)))); have n1_ := Aside0.mk (below_step (by repeat (first | (with_reducible first | exact HB.out | apply below_alloc | apply pw_below_drewN | apply below_drew1) | exact HB.out)) hb); clear HB; have HO204 := n0_; have HB := n1_; clear n0_ n1_; clear hb ho3))
  go_loopg [4, 5] k (fun kq v4 v5 w' => ∃ (x4_1 : ByteArray) (x5_1 : Int), v4 = .string x4_1 ∧ v5 = .int .i64 x5_1 ∧ Aside0 (parallaxlaw9_some.l0 kq l0 y202 x4_1 x5_1 = some r) ∧ Aside0 (kq ≤ k) ∧ Aside0 (Kd.R Kd.string 9 w' w.heap.size (fun _ => True) v203 y202) ∧ Aside0 (Below w.heap.size w w'))
  case atStart => exact ⟨((⟨#[]⟩ : ByteArray)), (0), (by first | rfl | (simp; done) | (simp [*]; done)), (by first | rfl | (simp; done) | (simp [*]; done)), H', ⟨Nat.le_refl _⟩, ⟨by (with_reducible repeat (first | apply Kd.R_alloc | apply Kd.R_drewN | apply Kd.R_drew)); exact HO204.out⟩, ⟨by repeat (first | (with_reducible first | exact HB.out | apply below_alloc | apply pw_below_drewN | apply below_drew1) | exact HB.out)⟩⟩
  case round =>
    clear H'
    try clear c1
    try clear p2
    obtain ⟨x4_1, x5_1, rfl, rfl, HA, HK1, HO_3, HB⟩ := hrel
    cases gk with
    | zero => exact absurd HA.out (by simp [parallaxlaw9_some.l0])
    | succ k1 =>
      have H := HA.out
      clear HA
      simp only [parallaxlaw9_some.l0] at H
      by_cases c4 : x5_1 < (l0.length : Int)
      · rw [if_pos c4] at H
        have c4b0 : decide (x5_1 < (l0.length : Int)) = true := decide_eq_true c4
        clear c4
        by_cases c5 : 0 ≤ x5_1
        · rw [if_pos c5] at H
          have c5b0 : decide (0 ≤ x5_1) = true := decide_eq_true c5
          clear c5
          by_cases c6 : (y202.length : Int) = 0
          · rw [if_pos c6] at H
            exact absurd H (by simp)
          · rw [if_neg c6] at H
            have c6b0 : ((y202.length : Int) == 0) = false := beq_eq_false_iff_ne.mpr c6
            have c6b1 : ((y202.length : Int) != 0) = true := bne_iff_ne.mpr c6
            have c6b2 : ¬ (y202 = []) := fun h_ => c6 (by rw [h_]; rfl)
            obtain ⟨ji7, hji7⟩ : ∃ j_ : Int, (Int.tmod (wrap64 (rd l0 x5_1)) (y202.length : Int)) = j_ := ⟨_, rfl⟩
            replace H : (if 0 ≤ (ji7) then (if (ji7) < (y202.length : Int) then (if x4_1.size + (rdOf ByteArray.empty y202 (ji7)).size ≤ 9223372036854775807 then (parallaxlaw9_some.l0 k1 l0 y202 (x4_1 ++ (rdOf ByteArray.empty y202 (ji7))) (wrap64 (x5_1 + 1))) else (none)) else (none)) else (none)) = some r := by first | (rw [hji7] at H; exact H) | (simp only [hji7] at H ⊢; exact H)
            by_cases c8 : 0 ≤ (ji7)
            · rw [if_pos c8] at H
              have c8b0 : decide (0 ≤ (ji7)) = true := decide_eq_true c8
              clear c8
              by_cases c9 : (ji7) < (y202.length : Int)
              · rw [if_pos c9] at H
                have c9b0 : decide ((ji7) < (y202.length : Int)) = true := decide_eq_true c9
                clear c9
                by_cases c10 : x4_1.size + (rdOf ByteArray.empty y202 (ji7)).size ≤ 9223372036854775807
                · rw [if_pos c10] at H
                  have c10b0 := eq_true c10
                  have c10b1 : decide (x4_1.size + (rdOf ByteArray.empty y202 (ji7)).size ≤ 9223372036854775807) = true := decide_eq_true c10
                  try have c10b2 : (9223372036854775807 < x4_1.size + (rdOf ByteArray.empty y202 (ji7)).size) = False := eq_false (Nat.not_lt.2 c10)
                  have H' := Aside0.mk H
                  clear H
                  have p205 : 0 ≤ (x5_1 : Int) := of_decide_eq_true (by first | (with_reducible assumption) | assumption)
                  have q205 : x5_1 < (l0.length : Int) := of_decide_eq_true (by first | (with_reducible assumption) | assumption)
                  obtain ⟨ad205, e205, hx205_0⟩ := Kd.at_int HR0.out x5_1 p205 q205
                  cases e205
                  replace hx205_0 := (HB.out.cell (World.block_lt_of_cell? w _ hx205_0)).trans hx205_0
                  replace p205 := eq_true p205
                  replace q205 := eq_true q205
                  obtain ⟨Ao11, co11, eo11⟩ := Kd.R_slice HO_3.out
                  subst eo11
                  have p206 : 0 ≤ ((ji7) : Int) := of_decide_eq_true (by first | (with_reducible assumption) | assumption)
                  have q206 : (ji7) < (y202.length : Int) := of_decide_eq_true (by first | (with_reducible assumption) | assumption)
                  obtain ⟨ad206, e206, hx206_0⟩ := Kd.at_string (Kd.R_reads' HO_3.out).2.2 (ji7) p206 q206
                  cases e206
                  replace p206 := eq_true p206
                  replace q206 := eq_true q206
                  go_wp2
                  go_roundg k1
                  case measure => have := HK1.out; omega
                  case rel => exact ⟨(x4_1 ++ (rdOf ByteArray.empty y202 (ji7))), (wrap64 (x5_1 + 1)), (by first | rfl | (simp; done) | (simp only [← hji7] <;> (first | rfl | simp)) | (simp [*]; done)), (by first | rfl | (simp; done) | (simp [*]; done)), H', ⟨by have := HK1.out; omega⟩, ⟨by (with_reducible repeat (first | apply Kd.R_alloc | apply Kd.R_drewN | apply Kd.R_drew)); exact HO_3.out⟩, ⟨by repeat (first | (with_reducible first | exact HB.out | apply below_alloc | apply pw_below_drewN | apply below_drew1) | exact HB.out)⟩⟩
                · rw [if_neg c10] at H
                  exact absurd H (by simp)
              · rw [if_neg c9] at H
                exact absurd H (by simp)
            · rw [if_neg c8] at H
              exact absurd H (by simp)
        · rw [if_neg c5] at H
          exact absurd H (by simp)
      · rw [if_neg c4] at H
        have c4b0 : decide (x5_1 < (l0.length : Int)) = false := decide_eq_false c4
        clear c4
        obtain rfl := Option.some.inj H
        go_wp2
        go_ret
        exact ⟨by first | rfl | (simp [errW_none, errW_some] <;> rfl) | (simp [*, errW_none, errW_some] <;> rfl), by repeat (first | (with_reducible first | exact HB.out | apply below_alloc | apply pw_below_drewN | apply below_drew1) | exact HB.out)⟩

/-! ### parallaxseat_Field: function 11 -/
def parallaxseat_Field.f (a0 : Int) (a1 : Int) : Option (ByteArray) := (some (([(⟨#[72, 111, 115, 116, 58, 32, 104, 46, 111, 114, 103]⟩ : ByteArray), (⟨#[72, 111, 115, 116, 58, 32, 97]⟩ : ByteArray), (⟨#[65, 58, 32, 98]⟩ : ByteArray), (⟨#[88, 45, 89, 58, 32, 32, 122, 32]⟩ : ByteArray), (⟨#[65, 99, 99, 101, 112, 116, 58, 32, 42, 47, 42]⟩ : ByteArray), (⟨#[79, 114, 105, 103, 105, 110, 58, 32, 104, 116, 116, 112, 58, 47, 47, 111, 46, 111, 114, 103]⟩ : ByteArray), (⟨#[65, 117, 116, 104, 111, 114, 105, 122, 97, 116, 105, 111, 110, 58, 32, 66, 97, 115, 105, 99, 32, 100, 84, 112, 119]⟩ : ByteArray), (⟨#[67, 111, 110, 110, 101, 99, 116, 105, 111, 110, 58, 32, 107, 101, 101, 112, 45, 97, 108, 105, 118, 101]⟩ : ByteArray), (⟨#[67, 111, 111, 107, 105, 101, 58, 32, 97, 61, 49, 44, 32, 98, 61, 50]⟩ : ByteArray), (⟨#[69, 120, 112, 101, 99, 116, 58, 32, 49, 48, 48, 45, 99, 111, 110, 116, 105, 110, 117, 101]⟩ : ByteArray), (⟨#[85, 112, 103, 114, 97, 100, 101, 58, 32, 120]⟩ : ByteArray), (⟨#[88, 45, 70, 111, 114, 119, 97, 114, 100, 101, 100, 45, 70, 111, 114, 58, 32, 49, 46, 50, 46, 51, 46, 52]⟩ : ByteArray), (⟨#[67, 111, 110, 110, 101, 99, 116, 105, 111, 110, 58, 32, 88, 45, 89]⟩ : ByteArray), (⟨#[84, 69, 58, 32, 116, 114, 97, 105, 108, 101, 114, 115]⟩ : ByteArray), (⟨#[86, 105, 97, 58, 32, 49, 46, 48, 32, 113]⟩ : ByteArray), (⟨#[65, 99, 99, 101, 115, 115, 45, 67, 111, 110, 116, 114, 111, 108, 45, 82, 101, 113, 117, 101, 115, 116, 45, 77, 101, 116, 104, 111, 100, 58, 32, 80, 85, 84]⟩ : ByteArray)] : List ByteArray) : List ByteArray)).bind fun y207 => ((some (([(⟨#[72, 111, 115, 116, 32, 58, 32, 97]⟩ : ByteArray), (⟨#[40, 120, 58, 32, 49]⟩ : ByteArray), (⟨#[110, 111, 118, 97, 108, 117, 101]⟩ : ByteArray), (⟨#[58, 32, 110, 97, 109, 101, 108, 101, 115, 115]⟩ : ByteArray), (⟨#[32, 102, 111, 108, 100, 101, 100]⟩ : ByteArray), (⟨#[9, 102, 111, 108, 100, 101, 100, 58, 32, 116, 111, 111]⟩ : ByteArray), (⟨#[86, 58, 32, 97, 1, 98]⟩ : ByteArray), (⟨#[84, 114, 97, 110, 115, 102, 101, 114, 45, 69, 110, 99, 111, 100, 105, 110, 103, 58, 32, 103, 122, 105, 112]⟩ : ByteArray), (⟨#[84, 114, 97, 110, 115, 102, 101, 114, 45, 69, 110, 99, 111, 100, 105, 110, 103, 58, 32, 103, 122, 105, 112, 44, 32, 99, 104, 117, 110, 107, 101, 100]⟩ : ByteArray), (⟨#[84, 114, 97, 110, 115, 102, 101, 114, 45, 69, 110, 99, 111, 100, 105, 110, 103, 58, 32, 11, 99, 104, 117, 110, 107, 101, 100]⟩ : ByteArray), (⟨#[84, 114, 97, 110, 115, 102, 101, 114, 45, 69, 110, 99, 111, 100, 105, 110, 103, 58, 32, 67, 104, 117, 110, 107, 101, 100]⟩ : ByteArray), (⟨#[67, 111, 110, 116, 101, 110, 116, 45, 76, 101, 110, 103, 116, 104, 58, 32, 43, 51]⟩ : ByteArray), (⟨#[67, 111, 110, 116, 101, 110, 116, 45, 76, 101, 110, 103, 116, 104, 58, 32, 51, 44, 32, 51]⟩ : ByteArray), (⟨#[67, 111, 110, 116, 101, 110, 116, 45, 76, 101, 110, 103, 116, 104, 58, 32, 51]⟩ : ByteArray), (⟨#[67, 111, 110, 116, 101, 110, 116, 45, 76, 101, 110, 103, 116, 104, 58, 32, 48]⟩ : ByteArray), (⟨#[67, 111, 110, 116, 101, 110, 116, 45, 76, 101, 110, 103, 116, 104, 58, 32, 48, 51]⟩ : ByteArray), (⟨#[72, 111, 115, 116, 58, 32, 98]⟩ : ByteArray), (⟨#[72, 111, 115, 116, 58, 32, 97, 58, 57, 57, 57, 57, 57]⟩ : ByteArray), (⟨#[67, 111, 110, 110, 101, 99, 116, 105, 111, 110, 58, 32, 99, 108, 111, 115, 101]⟩ : ByteArray), (⟨#[67, 111, 110, 116, 101, 110, 116, 45, 76, 101, 110, 103, 116, 104, 58, 32, 57, 57, 57, 57, 57, 57, 57, 57, 57, 57, 57, 57, 57, 57, 57, 57, 57, 57, 57, 57]⟩ : ByteArray), (⟨#[86, 58, 32, 255, 128]⟩ : ByteArray), (⟨#[84, 114, 97, 110, 115, 102, 101, 114, 45, 69, 110, 99, 111, 100, 105, 110, 103, 58, 32, 99, 104, 117, 110, 107, 101, 100, 44, 32, 99, 104, 117, 110, 107, 101, 100]⟩ : ByteArray)] : List ByteArray) : List ByteArray)).bind fun y210 => (if a0 < 150 then (if (y207.length : Int) = 0 then (none) else (if 0 ≤ (Int.tmod (wrap64 (a1)) (y207.length : Int)) then (if (Int.tmod (wrap64 (a1)) (y207.length : Int)) < (y207.length : Int) then (some (rdOf ByteArray.empty y207 (Int.tmod (wrap64 (a1)) (y207.length : Int)))) else (none)) else (none))) else (if (y210.length : Int) = 0 then (none) else (if 0 ≤ (Int.tmod (wrap64 (a1)) (y210.length : Int)) then (if (Int.tmod (wrap64 (a1)) (y210.length : Int)) < (y210.length : Int) then (some (rdOf ByteArray.empty y210 (Int.tmod (wrap64 (a1)) (y210.length : Int)))) else (none)) else (none)))))
set_option maxHeartbeats 8000000 in
set_option maxRecDepth 100000 in
theorem parallaxseat_Field.calls (a0 : Int) (a1 : Int) (r : ByteArray) (w : World) (h : parallaxseat_Field.f a0 a1 = some r) :
    Calls Tryd.prog 11 #[.int .u8 a0, .int .u8 a1] w fun e w' => e = .returned (.string r) ∧ Below w.heap.size w w' := by
  have HB := Aside0.mk (Below.refl w.heap.size w)
  have H : ((some (([(⟨#[72, 111, 115, 116, 58, 32, 104, 46, 111, 114, 103]⟩ : ByteArray), (⟨#[72, 111, 115, 116, 58, 32, 97]⟩ : ByteArray), (⟨#[65, 58, 32, 98]⟩ : ByteArray), (⟨#[88, 45, 89, 58, 32, 32, 122, 32]⟩ : ByteArray), (⟨#[65, 99, 99, 101, 112, 116, 58, 32, 42, 47, 42]⟩ : ByteArray), (⟨#[79, 114, 105, 103, 105, 110, 58, 32, 104, 116, 116, 112, 58, 47, 47, 111, 46, 111, 114, 103]⟩ : ByteArray), (⟨#[65, 117, 116, 104, 111, 114, 105, 122, 97, 116, 105, 111, 110, 58, 32, 66, 97, 115, 105, 99, 32, 100, 84, 112, 119]⟩ : ByteArray), (⟨#[67, 111, 110, 110, 101, 99, 116, 105, 111, 110, 58, 32, 107, 101, 101, 112, 45, 97, 108, 105, 118, 101]⟩ : ByteArray), (⟨#[67, 111, 111, 107, 105, 101, 58, 32, 97, 61, 49, 44, 32, 98, 61, 50]⟩ : ByteArray), (⟨#[69, 120, 112, 101, 99, 116, 58, 32, 49, 48, 48, 45, 99, 111, 110, 116, 105, 110, 117, 101]⟩ : ByteArray), (⟨#[85, 112, 103, 114, 97, 100, 101, 58, 32, 120]⟩ : ByteArray), (⟨#[88, 45, 70, 111, 114, 119, 97, 114, 100, 101, 100, 45, 70, 111, 114, 58, 32, 49, 46, 50, 46, 51, 46, 52]⟩ : ByteArray), (⟨#[67, 111, 110, 110, 101, 99, 116, 105, 111, 110, 58, 32, 88, 45, 89]⟩ : ByteArray), (⟨#[84, 69, 58, 32, 116, 114, 97, 105, 108, 101, 114, 115]⟩ : ByteArray), (⟨#[86, 105, 97, 58, 32, 49, 46, 48, 32, 113]⟩ : ByteArray), (⟨#[65, 99, 99, 101, 115, 115, 45, 67, 111, 110, 116, 114, 111, 108, 45, 82, 101, 113, 117, 101, 115, 116, 45, 77, 101, 116, 104, 111, 100, 58, 32, 80, 85, 84]⟩ : ByteArray)] : List ByteArray) : List ByteArray)).bind fun y207 => ((some (([(⟨#[72, 111, 115, 116, 32, 58, 32, 97]⟩ : ByteArray), (⟨#[40, 120, 58, 32, 49]⟩ : ByteArray), (⟨#[110, 111, 118, 97, 108, 117, 101]⟩ : ByteArray), (⟨#[58, 32, 110, 97, 109, 101, 108, 101, 115, 115]⟩ : ByteArray), (⟨#[32, 102, 111, 108, 100, 101, 100]⟩ : ByteArray), (⟨#[9, 102, 111, 108, 100, 101, 100, 58, 32, 116, 111, 111]⟩ : ByteArray), (⟨#[86, 58, 32, 97, 1, 98]⟩ : ByteArray), (⟨#[84, 114, 97, 110, 115, 102, 101, 114, 45, 69, 110, 99, 111, 100, 105, 110, 103, 58, 32, 103, 122, 105, 112]⟩ : ByteArray), (⟨#[84, 114, 97, 110, 115, 102, 101, 114, 45, 69, 110, 99, 111, 100, 105, 110, 103, 58, 32, 103, 122, 105, 112, 44, 32, 99, 104, 117, 110, 107, 101, 100]⟩ : ByteArray), (⟨#[84, 114, 97, 110, 115, 102, 101, 114, 45, 69, 110, 99, 111, 100, 105, 110, 103, 58, 32, 11, 99, 104, 117, 110, 107, 101, 100]⟩ : ByteArray), (⟨#[84, 114, 97, 110, 115, 102, 101, 114, 45, 69, 110, 99, 111, 100, 105, 110, 103, 58, 32, 67, 104, 117, 110, 107, 101, 100]⟩ : ByteArray), (⟨#[67, 111, 110, 116, 101, 110, 116, 45, 76, 101, 110, 103, 116, 104, 58, 32, 43, 51]⟩ : ByteArray), (⟨#[67, 111, 110, 116, 101, 110, 116, 45, 76, 101, 110, 103, 116, 104, 58, 32, 51, 44, 32, 51]⟩ : ByteArray), (⟨#[67, 111, 110, 116, 101, 110, 116, 45, 76, 101, 110, 103, 116, 104, 58, 32, 51]⟩ : ByteArray), (⟨#[67, 111, 110, 116, 101, 110, 116, 45, 76, 101, 110, 103, 116, 104, 58, 32, 48]⟩ : ByteArray), (⟨#[67, 111, 110, 116, 101, 110, 116, 45, 76, 101, 110, 103, 116, 104, 58, 32, 48, 51]⟩ : ByteArray), (⟨#[72, 111, 115, 116, 58, 32, 98]⟩ : ByteArray), (⟨#[72, 111, 115, 116, 58, 32, 97, 58, 57, 57, 57, 57, 57]⟩ : ByteArray), (⟨#[67, 111, 110, 110, 101, 99, 116, 105, 111, 110, 58, 32, 99, 108, 111, 115, 101]⟩ : ByteArray), (⟨#[67, 111, 110, 116, 101, 110, 116, 45, 76, 101, 110, 103, 116, 104, 58, 32, 57, 57, 57, 57, 57, 57, 57, 57, 57, 57, 57, 57, 57, 57, 57, 57, 57, 57, 57, 57]⟩ : ByteArray), (⟨#[86, 58, 32, 255, 128]⟩ : ByteArray), (⟨#[84, 114, 97, 110, 115, 102, 101, 114, 45, 69, 110, 99, 111, 100, 105, 110, 103, 58, 32, 99, 104, 117, 110, 107, 101, 100, 44, 32, 99, 104, 117, 110, 107, 101, 100]⟩ : ByteArray)] : List ByteArray) : List ByteArray)).bind fun y210 => (if a0 < 150 then (if (y207.length : Int) = 0 then (none) else (if 0 ≤ (Int.tmod (wrap64 (a1)) (y207.length : Int)) then (if (Int.tmod (wrap64 (a1)) (y207.length : Int)) < (y207.length : Int) then (some (rdOf ByteArray.empty y207 (Int.tmod (wrap64 (a1)) (y207.length : Int)))) else (none)) else (none))) else (if (y210.length : Int) = 0 then (none) else (if 0 ≤ (Int.tmod (wrap64 (a1)) (y210.length : Int)) then (if (Int.tmod (wrap64 (a1)) (y210.length : Int)) < (y210.length : Int) then (some (rdOf ByteArray.empty y210 (Int.tmod (wrap64 (a1)) (y210.length : Int)))) else (none)) else (none)))))) = some r := h
  clear h
  obtain ⟨y207, hy207⟩ : ∃ y_ : List ByteArray, y_ = (([(⟨#[72, 111, 115, 116, 58, 32, 104, 46, 111, 114, 103]⟩ : ByteArray), (⟨#[72, 111, 115, 116, 58, 32, 97]⟩ : ByteArray), (⟨#[65, 58, 32, 98]⟩ : ByteArray), (⟨#[88, 45, 89, 58, 32, 32, 122, 32]⟩ : ByteArray), (⟨#[65, 99, 99, 101, 112, 116, 58, 32, 42, 47, 42]⟩ : ByteArray), (⟨#[79, 114, 105, 103, 105, 110, 58, 32, 104, 116, 116, 112, 58, 47, 47, 111, 46, 111, 114, 103]⟩ : ByteArray), (⟨#[65, 117, 116, 104, 111, 114, 105, 122, 97, 116, 105, 111, 110, 58, 32, 66, 97, 115, 105, 99, 32, 100, 84, 112, 119]⟩ : ByteArray), (⟨#[67, 111, 110, 110, 101, 99, 116, 105, 111, 110, 58, 32, 107, 101, 101, 112, 45, 97, 108, 105, 118, 101]⟩ : ByteArray), (⟨#[67, 111, 111, 107, 105, 101, 58, 32, 97, 61, 49, 44, 32, 98, 61, 50]⟩ : ByteArray), (⟨#[69, 120, 112, 101, 99, 116, 58, 32, 49, 48, 48, 45, 99, 111, 110, 116, 105, 110, 117, 101]⟩ : ByteArray), (⟨#[85, 112, 103, 114, 97, 100, 101, 58, 32, 120]⟩ : ByteArray), (⟨#[88, 45, 70, 111, 114, 119, 97, 114, 100, 101, 100, 45, 70, 111, 114, 58, 32, 49, 46, 50, 46, 51, 46, 52]⟩ : ByteArray), (⟨#[67, 111, 110, 110, 101, 99, 116, 105, 111, 110, 58, 32, 88, 45, 89]⟩ : ByteArray), (⟨#[84, 69, 58, 32, 116, 114, 97, 105, 108, 101, 114, 115]⟩ : ByteArray), (⟨#[86, 105, 97, 58, 32, 49, 46, 48, 32, 113]⟩ : ByteArray), (⟨#[65, 99, 99, 101, 115, 115, 45, 67, 111, 110, 116, 114, 111, 108, 45, 82, 101, 113, 117, 101, 115, 116, 45, 77, 101, 116, 104, 111, 100, 58, 32, 80, 85, 84]⟩ : ByteArray)] : List ByteArray)) := ⟨_, rfl⟩
  replace H : ((some (([(⟨#[72, 111, 115, 116, 32, 58, 32, 97]⟩ : ByteArray), (⟨#[40, 120, 58, 32, 49]⟩ : ByteArray), (⟨#[110, 111, 118, 97, 108, 117, 101]⟩ : ByteArray), (⟨#[58, 32, 110, 97, 109, 101, 108, 101, 115, 115]⟩ : ByteArray), (⟨#[32, 102, 111, 108, 100, 101, 100]⟩ : ByteArray), (⟨#[9, 102, 111, 108, 100, 101, 100, 58, 32, 116, 111, 111]⟩ : ByteArray), (⟨#[86, 58, 32, 97, 1, 98]⟩ : ByteArray), (⟨#[84, 114, 97, 110, 115, 102, 101, 114, 45, 69, 110, 99, 111, 100, 105, 110, 103, 58, 32, 103, 122, 105, 112]⟩ : ByteArray), (⟨#[84, 114, 97, 110, 115, 102, 101, 114, 45, 69, 110, 99, 111, 100, 105, 110, 103, 58, 32, 103, 122, 105, 112, 44, 32, 99, 104, 117, 110, 107, 101, 100]⟩ : ByteArray), (⟨#[84, 114, 97, 110, 115, 102, 101, 114, 45, 69, 110, 99, 111, 100, 105, 110, 103, 58, 32, 11, 99, 104, 117, 110, 107, 101, 100]⟩ : ByteArray), (⟨#[84, 114, 97, 110, 115, 102, 101, 114, 45, 69, 110, 99, 111, 100, 105, 110, 103, 58, 32, 67, 104, 117, 110, 107, 101, 100]⟩ : ByteArray), (⟨#[67, 111, 110, 116, 101, 110, 116, 45, 76, 101, 110, 103, 116, 104, 58, 32, 43, 51]⟩ : ByteArray), (⟨#[67, 111, 110, 116, 101, 110, 116, 45, 76, 101, 110, 103, 116, 104, 58, 32, 51, 44, 32, 51]⟩ : ByteArray), (⟨#[67, 111, 110, 116, 101, 110, 116, 45, 76, 101, 110, 103, 116, 104, 58, 32, 51]⟩ : ByteArray), (⟨#[67, 111, 110, 116, 101, 110, 116, 45, 76, 101, 110, 103, 116, 104, 58, 32, 48]⟩ : ByteArray), (⟨#[67, 111, 110, 116, 101, 110, 116, 45, 76, 101, 110, 103, 116, 104, 58, 32, 48, 51]⟩ : ByteArray), (⟨#[72, 111, 115, 116, 58, 32, 98]⟩ : ByteArray), (⟨#[72, 111, 115, 116, 58, 32, 97, 58, 57, 57, 57, 57, 57]⟩ : ByteArray), (⟨#[67, 111, 110, 110, 101, 99, 116, 105, 111, 110, 58, 32, 99, 108, 111, 115, 101]⟩ : ByteArray), (⟨#[67, 111, 110, 116, 101, 110, 116, 45, 76, 101, 110, 103, 116, 104, 58, 32, 57, 57, 57, 57, 57, 57, 57, 57, 57, 57, 57, 57, 57, 57, 57, 57, 57, 57, 57, 57]⟩ : ByteArray), (⟨#[86, 58, 32, 255, 128]⟩ : ByteArray), (⟨#[84, 114, 97, 110, 115, 102, 101, 114, 45, 69, 110, 99, 111, 100, 105, 110, 103, 58, 32, 99, 104, 117, 110, 107, 101, 100, 44, 32, 99, 104, 117, 110, 107, 101, 100]⟩ : ByteArray)] : List ByteArray) : List ByteArray)).bind fun y210 => (if a0 < 150 then (if (y207.length : Int) = 0 then (none) else (if 0 ≤ (Int.tmod (wrap64 (a1)) (y207.length : Int)) then (if (Int.tmod (wrap64 (a1)) (y207.length : Int)) < (y207.length : Int) then (some (rdOf ByteArray.empty y207 (Int.tmod (wrap64 (a1)) (y207.length : Int)))) else (none)) else (none))) else (if (y210.length : Int) = 0 then (none) else (if 0 ≤ (Int.tmod (wrap64 (a1)) (y210.length : Int)) then (if (Int.tmod (wrap64 (a1)) (y210.length : Int)) < (y210.length : Int) then (some (rdOf ByteArray.empty y210 (Int.tmod (wrap64 (a1)) (y210.length : Int)))) else (none)) else (none))))) = some r := by first | (rw [hy207]; with_reducible exact H) | (have H2_ := (Option.bind_some _ _).symm.trans H; rw [hy207]; with_reducible exact H2_) | (have H2_ := (Option.bind_some _ _).symm.trans H; with_reducible exact H2_) | with_reducible exact H | (rw [hy207]; exact H) | exact H
  have Ny207 := Aside0.mk hy207
  clear hy207
  obtain ⟨y210, hy210⟩ : ∃ y_ : List ByteArray, y_ = (([(⟨#[72, 111, 115, 116, 32, 58, 32, 97]⟩ : ByteArray), (⟨#[40, 120, 58, 32, 49]⟩ : ByteArray), (⟨#[110, 111, 118, 97, 108, 117, 101]⟩ : ByteArray), (⟨#[58, 32, 110, 97, 109, 101, 108, 101, 115, 115]⟩ : ByteArray), (⟨#[32, 102, 111, 108, 100, 101, 100]⟩ : ByteArray), (⟨#[9, 102, 111, 108, 100, 101, 100, 58, 32, 116, 111, 111]⟩ : ByteArray), (⟨#[86, 58, 32, 97, 1, 98]⟩ : ByteArray), (⟨#[84, 114, 97, 110, 115, 102, 101, 114, 45, 69, 110, 99, 111, 100, 105, 110, 103, 58, 32, 103, 122, 105, 112]⟩ : ByteArray), (⟨#[84, 114, 97, 110, 115, 102, 101, 114, 45, 69, 110, 99, 111, 100, 105, 110, 103, 58, 32, 103, 122, 105, 112, 44, 32, 99, 104, 117, 110, 107, 101, 100]⟩ : ByteArray), (⟨#[84, 114, 97, 110, 115, 102, 101, 114, 45, 69, 110, 99, 111, 100, 105, 110, 103, 58, 32, 11, 99, 104, 117, 110, 107, 101, 100]⟩ : ByteArray), (⟨#[84, 114, 97, 110, 115, 102, 101, 114, 45, 69, 110, 99, 111, 100, 105, 110, 103, 58, 32, 67, 104, 117, 110, 107, 101, 100]⟩ : ByteArray), (⟨#[67, 111, 110, 116, 101, 110, 116, 45, 76, 101, 110, 103, 116, 104, 58, 32, 43, 51]⟩ : ByteArray), (⟨#[67, 111, 110, 116, 101, 110, 116, 45, 76, 101, 110, 103, 116, 104, 58, 32, 51, 44, 32, 51]⟩ : ByteArray), (⟨#[67, 111, 110, 116, 101, 110, 116, 45, 76, 101, 110, 103, 116, 104, 58, 32, 51]⟩ : ByteArray), (⟨#[67, 111, 110, 116, 101, 110, 116, 45, 76, 101, 110, 103, 116, 104, 58, 32, 48]⟩ : ByteArray), (⟨#[67, 111, 110, 116, 101, 110, 116, 45, 76, 101, 110, 103, 116, 104, 58, 32, 48, 51]⟩ : ByteArray), (⟨#[72, 111, 115, 116, 58, 32, 98]⟩ : ByteArray), (⟨#[72, 111, 115, 116, 58, 32, 97, 58, 57, 57, 57, 57, 57]⟩ : ByteArray), (⟨#[67, 111, 110, 110, 101, 99, 116, 105, 111, 110, 58, 32, 99, 108, 111, 115, 101]⟩ : ByteArray), (⟨#[67, 111, 110, 116, 101, 110, 116, 45, 76, 101, 110, 103, 116, 104, 58, 32, 57, 57, 57, 57, 57, 57, 57, 57, 57, 57, 57, 57, 57, 57, 57, 57, 57, 57, 57, 57]⟩ : ByteArray), (⟨#[86, 58, 32, 255, 128]⟩ : ByteArray), (⟨#[84, 114, 97, 110, 115, 102, 101, 114, 45, 69, 110, 99, 111, 100, 105, 110, 103, 58, 32, 99, 104, 117, 110, 107, 101, 100, 44, 32, 99, 104, 117, 110, 107, 101, 100]⟩ : ByteArray)] : List ByteArray)) := ⟨_, rfl⟩
  replace H : (if a0 < 150 then (if (y207.length : Int) = 0 then (none) else (if 0 ≤ (Int.tmod (wrap64 (a1)) (y207.length : Int)) then (if (Int.tmod (wrap64 (a1)) (y207.length : Int)) < (y207.length : Int) then (some (rdOf ByteArray.empty y207 (Int.tmod (wrap64 (a1)) (y207.length : Int)))) else (none)) else (none))) else (if (y210.length : Int) = 0 then (none) else (if 0 ≤ (Int.tmod (wrap64 (a1)) (y210.length : Int)) then (if (Int.tmod (wrap64 (a1)) (y210.length : Int)) < (y210.length : Int) then (some (rdOf ByteArray.empty y210 (Int.tmod (wrap64 (a1)) (y210.length : Int)))) else (none)) else (none)))) = some r := by first | (rw [hy210]; with_reducible exact H) | (have H2_ := (Option.bind_some _ _).symm.trans H; rw [hy210]; with_reducible exact H2_) | (have H2_ := (Option.bind_some _ _).symm.trans H; with_reducible exact H2_) | with_reducible exact H | (rw [hy210]; exact H) | exact H
  have Ny210 := Aside0.mk hy210
  clear hy210
  by_cases c3 : a0 < 150
  · rw [if_pos c3] at H
    have c3b0 : decide (a0 < 150) = true := decide_eq_true c3
    clear c3
    by_cases c4 : (y207.length : Int) = 0
    · rw [if_pos c4] at H
      exact absurd H (by simp)
    · rw [if_neg c4] at H
      have c4b0 : ((y207.length : Int) == 0) = false := beq_eq_false_iff_ne.mpr c4
      have c4b1 : ((y207.length : Int) != 0) = true := bne_iff_ne.mpr c4
      have c4b2 : ¬ (y207 = []) := fun h_ => c4 (by rw [h_]; rfl)
      obtain ⟨ji5, hji5⟩ : ∃ j_ : Int, (Int.tmod (wrap64 (a1)) (y207.length : Int)) = j_ := ⟨_, rfl⟩
      replace H : (if 0 ≤ (ji5) then (if (ji5) < (y207.length : Int) then (some (rdOf ByteArray.empty y207 (ji5))) else (none)) else (none)) = some r := by first | (rw [hji5] at H; exact H) | (simp only [hji5] at H ⊢; exact H)
      by_cases c6 : 0 ≤ (ji5)
      · rw [if_pos c6] at H
        have c6b0 : decide (0 ≤ (ji5)) = true := decide_eq_true c6
        clear c6
        by_cases c7 : (ji5) < (y207.length : Int)
        · rw [if_pos c7] at H
          have c7b0 : decide ((ji5) < (y207.length : Int)) = true := decide_eq_true c7
          clear c7
          obtain rfl := Option.some.inj H
          go_enter Tryd.func11, Tryd.ntmps11
          go_wp2_with (first | ((with_reducible refine gate_dst (N := 7) rfl ?_); refine Kd.R_lit Kd.string _ 9 ?hg (N := 7) ?hd (xs := ([(⟨#[72, 111, 115, 116, 58, 32, 104, 46, 111, 114, 103]⟩ : ByteArray), (⟨#[72, 111, 115, 116, 58, 32, 97]⟩ : ByteArray), (⟨#[65, 58, 32, 98]⟩ : ByteArray), (⟨#[88, 45, 89, 58, 32, 32, 122, 32]⟩ : ByteArray), (⟨#[65, 99, 99, 101, 112, 116, 58, 32, 42, 47, 42]⟩ : ByteArray), (⟨#[79, 114, 105, 103, 105, 110, 58, 32, 104, 116, 116, 112, 58, 47, 47, 111, 46, 111, 114, 103]⟩ : ByteArray), (⟨#[65, 117, 116, 104, 111, 114, 105, 122, 97, 116, 105, 111, 110, 58, 32, 66, 97, 115, 105, 99, 32, 100, 84, 112, 119]⟩ : ByteArray), (⟨#[67, 111, 110, 110, 101, 99, 116, 105, 111, 110, 58, 32, 107, 101, 101, 112, 45, 97, 108, 105, 118, 101]⟩ : ByteArray), (⟨#[67, 111, 111, 107, 105, 101, 58, 32, 97, 61, 49, 44, 32, 98, 61, 50]⟩ : ByteArray), (⟨#[69, 120, 112, 101, 99, 116, 58, 32, 49, 48, 48, 45, 99, 111, 110, 116, 105, 110, 117, 101]⟩ : ByteArray), (⟨#[85, 112, 103, 114, 97, 100, 101, 58, 32, 120]⟩ : ByteArray), (⟨#[88, 45, 70, 111, 114, 119, 97, 114, 100, 101, 100, 45, 70, 111, 114, 58, 32, 49, 46, 50, 46, 51, 46, 52]⟩ : ByteArray), (⟨#[67, 111, 110, 110, 101, 99, 116, 105, 111, 110, 58, 32, 88, 45, 89]⟩ : ByteArray), (⟨#[84, 69, 58, 32, 116, 114, 97, 105, 108, 101, 114, 115]⟩ : ByteArray), (⟨#[86, 105, 97, 58, 32, 49, 46, 48, 32, 113]⟩ : ByteArray), (⟨#[65, 99, 99, 101, 115, 115, 45, 67, 111, 110, 116, 114, 111, 108, 45, 82, 101, 113, 117, 101, 115, 116, 45, 77, 101, 116, 104, 111, 100, 58, 32, 80, 85, 84]⟩ : ByteArray)] : List ByteArray)) (inner := [.string (⟨#[72, 111, 115, 116, 58, 32, 104, 46, 111, 114, 103]⟩ : ByteArray), .string (⟨#[72, 111, 115, 116, 58, 32, 97]⟩ : ByteArray), .string (⟨#[65, 58, 32, 98]⟩ : ByteArray), .string (⟨#[88, 45, 89, 58, 32, 32, 122, 32]⟩ : ByteArray), .string (⟨#[65, 99, 99, 101, 112, 116, 58, 32, 42, 47, 42]⟩ : ByteArray), .string (⟨#[79, 114, 105, 103, 105, 110, 58, 32, 104, 116, 116, 112, 58, 47, 47, 111, 46, 111, 114, 103]⟩ : ByteArray), .string (⟨#[65, 117, 116, 104, 111, 114, 105, 122, 97, 116, 105, 111, 110, 58, 32, 66, 97, 115, 105, 99, 32, 100, 84, 112, 119]⟩ : ByteArray), .string (⟨#[67, 111, 110, 110, 101, 99, 116, 105, 111, 110, 58, 32, 107, 101, 101, 112, 45, 97, 108, 105, 118, 101]⟩ : ByteArray), .string (⟨#[67, 111, 111, 107, 105, 101, 58, 32, 97, 61, 49, 44, 32, 98, 61, 50]⟩ : ByteArray), .string (⟨#[69, 120, 112, 101, 99, 116, 58, 32, 49, 48, 48, 45, 99, 111, 110, 116, 105, 110, 117, 101]⟩ : ByteArray), .string (⟨#[85, 112, 103, 114, 97, 100, 101, 58, 32, 120]⟩ : ByteArray), .string (⟨#[88, 45, 70, 111, 114, 119, 97, 114, 100, 101, 100, 45, 70, 111, 114, 58, 32, 49, 46, 50, 46, 51, 46, 52]⟩ : ByteArray), .string (⟨#[67, 111, 110, 110, 101, 99, 116, 105, 111, 110, 58, 32, 88, 45, 89]⟩ : ByteArray), .string (⟨#[84, 69, 58, 32, 116, 114, 97, 105, 108, 101, 114, 115]⟩ : ByteArray), .string (⟨#[86, 105, 97, 58, 32, 49, 46, 48, 32, 113]⟩ : ByteArray), .string (⟨#[65, 99, 99, 101, 115, 115, 45, 67, 111, 110, 116, 114, 111, 108, 45, 82, 101, 113, 117, 101, 115, 116, 45, 77, 101, 116, 104, 111, 100, 58, 32, 80, 85, 84]⟩ : ByteArray)]) (ok := fun _ => True) (okp := fun _ => True) ?hr ?hp (fun _ hk => hk) trivial (Below.refl _ _) (Nat.le_refl _) (by simp) ?_; (case hd => rfl); (case hg => rfl); (case hr => first | (go_simp; done) | (go_simp; rfl)); (case hp => exact (Reps.one (show Kd.M Kd.string _ _ _ (⟨#[72, 111, 115, 116, 58, 32, 104, 46, 111, 114, 103]⟩ : ByteArray) [.string (⟨#[72, 111, 115, 116, 58, 32, 104, 46, 111, 114, 103]⟩ : ByteArray)] from rfl) (Reps.one (show Kd.M Kd.string _ _ _ (⟨#[72, 111, 115, 116, 58, 32, 97]⟩ : ByteArray) [.string (⟨#[72, 111, 115, 116, 58, 32, 97]⟩ : ByteArray)] from rfl) (Reps.one (show Kd.M Kd.string _ _ _ (⟨#[65, 58, 32, 98]⟩ : ByteArray) [.string (⟨#[65, 58, 32, 98]⟩ : ByteArray)] from rfl) (Reps.one (show Kd.M Kd.string _ _ _ (⟨#[88, 45, 89, 58, 32, 32, 122, 32]⟩ : ByteArray) [.string (⟨#[88, 45, 89, 58, 32, 32, 122, 32]⟩ : ByteArray)] from rfl) (Reps.one (show Kd.M Kd.string _ _ _ (⟨#[65, 99, 99, 101, 112, 116, 58, 32, 42, 47, 42]⟩ : ByteArray) [.string (⟨#[65, 99, 99, 101, 112, 116, 58, 32, 42, 47, 42]⟩ : ByteArray)] from rfl) (Reps.one (show Kd.M Kd.string _ _ _ (⟨#[79, 114, 105, 103, 105, 110, 58, 32, 104, 116, 116, 112, 58, 47, 47, 111, 46, 111, 114, 103]⟩ : ByteArray) [.string (⟨#[79, 114, 105, 103, 105, 110, 58, 32, 104, 116, 116, 112, 58, 47, 47, 111, 46, 111, 114, 103]⟩ : ByteArray)] from rfl) (Reps.one (show Kd.M Kd.string _ _ _ (⟨#[65, 117, 116, 104, 111, 114, 105, 122, 97, 116, 105, 111, 110, 58, 32, 66, 97, 115, 105, 99, 32, 100, 84, 112, 119]⟩ : ByteArray) [.string (⟨#[65, 117, 116, 104, 111, 114, 105, 122, 97, 116, 105, 111, 110, 58, 32, 66, 97, 115, 105, 99, 32, 100, 84, 112, 119]⟩ : ByteArray)] from rfl) (Reps.one (show Kd.M Kd.string _ _ _ (⟨#[67, 111, 110, 110, 101, 99, 116, 105, 111, 110, 58, 32, 107, 101, 101, 112, 45, 97, 108, 105, 118, 101]⟩ : ByteArray) [.string (⟨#[67, 111, 110, 110, 101, 99, 116, 105, 111, 110, 58, 32, 107, 101, 101, 112, 45, 97, 108, 105, 118, 101]⟩ : ByteArray)] from rfl) (Reps.one (show Kd.M Kd.string _ _ _ (⟨#[67, 111, 111, 107, 105, 101, 58, 32, 97, 61, 49, 44, 32, 98, 61, 50]⟩ : ByteArray) [.string (⟨#[67, 111, 111, 107, 105, 101, 58, 32, 97, 61, 49, 44, 32, 98, 61, 50]⟩ : ByteArray)] from rfl) (Reps.one (show Kd.M Kd.string _ _ _ (⟨#[69, 120, 112, 101, 99, 116, 58, 32, 49, 48, 48, 45, 99, 111, 110, 116, 105, 110, 117, 101]⟩ : ByteArray) [.string (⟨#[69, 120, 112, 101, 99, 116, 58, 32, 49, 48, 48, 45, 99, 111, 110, 116, 105, 110, 117, 101]⟩ : ByteArray)] from rfl) (Reps.one (show Kd.M Kd.string _ _ _ (⟨#[85, 112, 103, 114, 97, 100, 101, 58, 32, 120]⟩ : ByteArray) [.string (⟨#[85, 112, 103, 114, 97, 100, 101, 58, 32, 120]⟩ : ByteArray)] from rfl) (Reps.one (show Kd.M Kd.string _ _ _ (⟨#[88, 45, 70, 111, 114, 119, 97, 114, 100, 101, 100, 45, 70, 111, 114, 58, 32, 49, 46, 50, 46, 51, 46, 52]⟩ : ByteArray) [.string (⟨#[88, 45, 70, 111, 114, 119, 97, 114, 100, 101, 100, 45, 70, 111, 114, 58, 32, 49, 46, 50, 46, 51, 46, 52]⟩ : ByteArray)] from rfl) (Reps.one (show Kd.M Kd.string _ _ _ (⟨#[67, 111, 110, 110, 101, 99, 116, 105, 111, 110, 58, 32, 88, 45, 89]⟩ : ByteArray) [.string (⟨#[67, 111, 110, 110, 101, 99, 116, 105, 111, 110, 58, 32, 88, 45, 89]⟩ : ByteArray)] from rfl) (Reps.one (show Kd.M Kd.string _ _ _ (⟨#[84, 69, 58, 32, 116, 114, 97, 105, 108, 101, 114, 115]⟩ : ByteArray) [.string (⟨#[84, 69, 58, 32, 116, 114, 97, 105, 108, 101, 114, 115]⟩ : ByteArray)] from rfl) (Reps.one (show Kd.M Kd.string _ _ _ (⟨#[86, 105, 97, 58, 32, 49, 46, 48, 32, 113]⟩ : ByteArray) [.string (⟨#[86, 105, 97, 58, 32, 49, 46, 48, 32, 113]⟩ : ByteArray)] from rfl) (Reps.one (show Kd.M Kd.string _ _ _ (⟨#[65, 99, 99, 101, 115, 115, 45, 67, 111, 110, 116, 114, 111, 108, 45, 82, 101, 113, 117, 101, 115, 116, 45, 77, 101, 116, 104, 111, 100, 58, 32, 80, 85, 84]⟩ : ByteArray) [.string (⟨#[65, 99, 99, 101, 115, 115, 45, 67, 111, 110, 116, 114, 111, 108, 45, 82, 101, 113, 117, 101, 115, 116, 45, 77, 101, 116, 104, 111, 100, 58, 32, 80, 85, 84]⟩ : ByteArray)] from rfl) (Reps.none _ _)))))))))))))))))); intro v208 w8 ho9 hb hg_ hnew_; clear hg_ hnew_; (first | rw [← Ny207.out] at ho9 | (simp only [Int.reduceToNat] at ho9; rw [← Ny207.out] at ho9)); have n0_ := Aside0.mk (Kd.R_lower ho9 (below_size (by repeat (first | (with_reducible first | exact HB.out | apply below_alloc | apply pw_below_drewN | apply below_drew1) | exact HB.out)))); have n1_ := Aside0.mk (below_step (by repeat (first | (with_reducible first | exact HB.out | apply below_alloc | apply pw_below_drewN | apply below_drew1) | exact HB.out)) hb); clear HB; have HO209 := n0_; have HB := n1_; clear n0_ n1_; clear hb ho9) | ((with_reducible refine gate_dst (N := 8) rfl ?_); refine Kd.R_lit Kd.string _ 9 ?hg (N := 8) ?hd (xs := ([(⟨#[72, 111, 115, 116, 32, 58, 32, 97]⟩ : ByteArray), (⟨#[40, 120, 58, 32, 49]⟩ : ByteArray), (⟨#[110, 111, 118, 97, 108, 117, 101]⟩ : ByteArray), (⟨#[58, 32, 110, 97, 109, 101, 108, 101, 115, 115]⟩ : ByteArray), (⟨#[32, 102, 111, 108, 100, 101, 100]⟩ : ByteArray), (⟨#[9, 102, 111, 108, 100, 101, 100, 58, 32, 116, 111, 111]⟩ : ByteArray), (⟨#[86, 58, 32, 97, 1, 98]⟩ : ByteArray), (⟨#[84, 114, 97, 110, 115, 102, 101, 114, 45, 69, 110, 99, 111, 100, 105, 110, 103, 58, 32, 103, 122, 105, 112]⟩ : ByteArray), (⟨#[84, 114, 97, 110, 115, 102, 101, 114, 45, 69, 110, 99, 111, 100, 105, 110, 103, 58, 32, 103, 122, 105, 112, 44, 32, 99, 104, 117, 110, 107, 101, 100]⟩ : ByteArray), (⟨#[84, 114, 97, 110, 115, 102, 101, 114, 45, 69, 110, 99, 111, 100, 105, 110, 103, 58, 32, 11, 99, 104, 117, 110, 107, 101, 100]⟩ : ByteArray), (⟨#[84, 114, 97, 110, 115, 102, 101, 114, 45, 69, 110, 99, 111, 100, 105, 110, 103, 58, 32, 67, 104, 117, 110, 107, 101, 100]⟩ : ByteArray), (⟨#[67, 111, 110, 116, 101, 110, 116, 45, 76, 101, 110, 103, 116, 104, 58, 32, 43, 51]⟩ : ByteArray), (⟨#[67, 111, 110, 116, 101, 110, 116, 45, 76, 101, 110, 103, 116, 104, 58, 32, 51, 44, 32, 51]⟩ : ByteArray), (⟨#[67, 111, 110, 116, 101, 110, 116, 45, 76, 101, 110, 103, 116, 104, 58, 32, 51]⟩ : ByteArray), (⟨#[67, 111, 110, 116, 101, 110, 116, 45, 76, 101, 110, 103, 116, 104, 58, 32, 48]⟩ : ByteArray), (⟨#[67, 111, 110, 116, 101, 110, 116, 45, 76, 101, 110, 103, 116, 104, 58, 32, 48, 51]⟩ : ByteArray), (⟨#[72, 111, 115, 116, 58, 32, 98]⟩ : ByteArray), (⟨#[72, 111, 115, 116, 58, 32, 97, 58, 57, 57, 57, 57, 57]⟩ : ByteArray), (⟨#[67, 111, 110, 110, 101, 99, 116, 105, 111, 110, 58, 32, 99, 108, 111, 115, 101]⟩ : ByteArray), (⟨#[67, 111, 110, 116, 101, 110, 116, 45, 76, 101, 110, 103, 116, 104, 58, 32, 57, 57, 57, 57, 57, 57, 57, 57, 57, 57, 57, 57, 57, 57, 57, 57, 57, 57, 57, 57]⟩ : ByteArray), (⟨#[86, 58, 32, 255, 128]⟩ : ByteArray), (⟨#[84, 114, 97, 110, 115, 102, 101, 114, 45, 69, 110, 99, 111, 100, 105, 110, 103, 58, 32, 99, 104, 117, 110, 107, 101, 100, 44, 32, 99, 104, 117, 110, 107, 101, 100]⟩ : ByteArray)] : List ByteArray)) (inner := [.string (⟨#[72, 111, 115, 116, 32, 58, 32, 97]⟩ : ByteArray), .string (⟨#[40, 120, 58, 32, 49]⟩ : ByteArray), .string (⟨#[110, 111, 118, 97, 108, 117, 101]⟩ : ByteArray), .string (⟨#[58, 32, 110, 97, 109, 101, 108, 101, 115, 115]⟩ : ByteArray), .string (⟨#[32, 102, 111, 108, 100, 101, 100]⟩ : ByteArray), .string (⟨#[9, 102, 111, 108, 100, 101, 100, 58, 32, 116, 111, 111]⟩ : ByteArray), .string (⟨#[86, 58, 32, 97, 1, 98]⟩ : ByteArray), .string (⟨#[84, 114, 97, 110, 115, 102, 101, 114, 45, 69, 110, 99, 111, 100, 105, 110, 103, 58, 32, 103, 122, 105, 112]⟩ : ByteArray), .string (⟨#[84, 114, 97, 110, 115, 102, 101, 114, 45, 69, 110, 99, 111, 100, 105, 110, 103, 58, 32, 103, 122, 105, 112, 44, 32, 99, 104, 117, 110, 107, 101, 100]⟩ : ByteArray), .string (⟨#[84, 114, 97, 110, 115, 102, 101, 114, 45, 69, 110, 99, 111, 100, 105, 110, 103, 58, 32, 11, 99, 104, 117, 110, 107, 101, 100]⟩ : ByteArray), .string (⟨#[84, 114, 97, 110, 115, 102, 101, 114, 45, 69, 110, 99, 111, 100, 105, 110, 103, 58, 32, 67, 104, 117, 110, 107, 101, 100]⟩ : ByteArray), .string (⟨#[67, 111, 110, 116, 101, 110, 116, 45, 76, 101, 110, 103, 116, 104, 58, 32, 43, 51]⟩ : ByteArray), .string (⟨#[67, 111, 110, 116, 101, 110, 116, 45, 76, 101, 110, 103, 116, 104, 58, 32, 51, 44, 32, 51]⟩ : ByteArray), .string (⟨#[67, 111, 110, 116, 101, 110, 116, 45, 76, 101, 110, 103, 116, 104, 58, 32, 51]⟩ : ByteArray), .string (⟨#[67, 111, 110, 116, 101, 110, 116, 45, 76, 101, 110, 103, 116, 104, 58, 32, 48]⟩ : ByteArray), .string (⟨#[67, 111, 110, 116, 101, 110, 116, 45, 76, 101, 110, 103, 116, 104, 58, 32, 48, 51]⟩ : ByteArray), .string (⟨#[72, 111, 115, 116, 58, 32, 98]⟩ : ByteArray), .string (⟨#[72, 111, 115, 116, 58, 32, 97, 58, 57, 57, 57, 57, 57]⟩ : ByteArray), .string (⟨#[67, 111, 110, 110, 101, 99, 116, 105, 111, 110, 58, 32, 99, 108, 111, 115, 101]⟩ : ByteArray), .string (⟨#[67, 111, 110, 116, 101, 110, 116, 45, 76, 101, 110, 103, 116, 104, 58, 32, 57, 57, 57, 57, 57, 57, 57, 57, 57, 57, 57, 57, 57, 57, 57, 57, 57, 57, 57, 57]⟩ : ByteArray), .string (⟨#[86, 58, 32, 255, 128]⟩ : ByteArray), .string (⟨#[84, 114, 97, 110, 115, 102, 101, 114, 45, 69, 110, 99, 111, 100, 105, 110, 103, 58, 32, 99, 104, 117, 110, 107, 101, 100, 44, 32, 99, 104, 117, 110, 107, 101, 100]⟩ : ByteArray)]) (ok := fun _ => True) (okp := fun _ => True) ?hr ?hp (fun _ hk => hk) trivial (Below.refl _ _) (Nat.le_refl _) (by simp) ?_; (case hd => rfl); (case hg => rfl); (case hr => first | (go_simp; done) | (go_simp; rfl)); (case hp => exact (Reps.one (show Kd.M Kd.string _ _ _ (⟨#[72, 111, 115, 116, 32, 58, 32, 97]⟩ : ByteArray) [.string (⟨#[72, 111, 115, 116, 32, 58, 32, 97]⟩ : ByteArray)] from rfl) (Reps.one (show Kd.M Kd.string _ _ _ (⟨#[40, 120, 58, 32, 49]⟩ : ByteArray) [.string (⟨#[40, 120, 58, 32, 49]⟩ : ByteArray)] from rfl) (Reps.one (show Kd.M Kd.string _ _ _ (⟨#[110, 111, 118, 97, 108, 117, 101]⟩ : ByteArray) [.string (⟨#[110, 111, 118, 97, 108, 117, 101]⟩ : ByteArray)] from rfl) (Reps.one (show Kd.M Kd.string _ _ _ (⟨#[58, 32, 110, 97, 109, 101, 108, 101, 115, 115]⟩ : ByteArray) [.string (⟨#[58, 32, 110, 97, 109, 101, 108, 101, 115, 115]⟩ : ByteArray)] from rfl) (Reps.one (show Kd.M Kd.string _ _ _ (⟨#[32, 102, 111, 108, 100, 101, 100]⟩ : ByteArray) [.string (⟨#[32, 102, 111, 108, 100, 101, 100]⟩ : ByteArray)] from rfl) (Reps.one (show Kd.M Kd.string _ _ _ (⟨#[9, 102, 111, 108, 100, 101, 100, 58, 32, 116, 111, 111]⟩ : ByteArray) [.string (⟨#[9, 102, 111, 108, 100, 101, 100, 58, 32, 116, 111, 111]⟩ : ByteArray)] from rfl) (Reps.one (show Kd.M Kd.string _ _ _ (⟨#[86, 58, 32, 97, 1, 98]⟩ : ByteArray) [.string (⟨#[86, 58, 32, 97, 1, 98]⟩ : ByteArray)] from rfl) (Reps.one (show Kd.M Kd.string _ _ _ (⟨#[84, 114, 97, 110, 115, 102, 101, 114, 45, 69, 110, 99, 111, 100, 105, 110, 103, 58, 32, 103, 122, 105, 112]⟩ : ByteArray) [.string (⟨#[84, 114, 97, 110, 115, 102, 101, 114, 45, 69, 110, 99, 111, 100, 105, 110, 103, 58, 32, 103, 122, 105, 112]⟩ : ByteArray)] from rfl) (Reps.one (show Kd.M Kd.string _ _ _ (⟨#[84, 114, 97, 110, 115, 102, 101, 114, 45, 69, 110, 99, 111, 100, 105, 110, 103, 58, 32, 103, 122, 105, 112, 44, 32, 99, 104, 117, 110, 107, 101, 100]⟩ : ByteArray) [.string (⟨#[84, 114, 97, 110, 115, 102, 101, 114, 45, 69, 110, 99, 111, 100, 105, 110, 103, 58, 32, 103, 122, 105, 112, 44, 32, 99, 104, 117, 110, 107, 101, 100]⟩ : ByteArray)] from rfl) (Reps.one (show Kd.M Kd.string _ _ _ (⟨#[84, 114, 97, 110, 115, 102, 101, 114, 45, 69, 110, 99, 111, 100, 105, 110, 103, 58, 32, 11, 99, 104, 117, 110, 107, 101, 100]⟩ : ByteArray) [.string (⟨#[84, 114, 97, 110, 115, 102, 101, 114, 45, 69, 110, 99, 111, 100, 105, 110, 103, 58, 32, 11, 99, 104, 117, 110, 107, 101, 100]⟩ : ByteArray)] from rfl) (Reps.one (show Kd.M Kd.string _ _ _ (⟨#[84, 114, 97, 110, 115, 102, 101, 114, 45, 69, 110, 99, 111, 100, 105, 110, 103, 58, 32, 67, 104, 117, 110, 107, 101, 100]⟩ : ByteArray) [.string (⟨#[84, 114, 97, 110, 115, 102, 101, 114, 45, 69, 110, 99, 111, 100, 105, 110, 103, 58, 32, 67, 104, 117, 110, 107, 101, 100]⟩ : ByteArray)] from rfl) (Reps.one (show Kd.M Kd.string _ _ _ (⟨#[67, 111, 110, 116, 101, 110, 116, 45, 76, 101, 110, 103, 116, 104, 58, 32, 43, 51]⟩ : ByteArray) [.string (⟨#[67, 111, 110, 116, 101, 110, 116, 45, 76, 101, 110, 103, 116, 104, 58, 32, 43, 51]⟩ : ByteArray)] from rfl) (Reps.one (show Kd.M Kd.string _ _ _ (⟨#[67, 111, 110, 116, 101, 110, 116, 45, 76, 101, 110, 103, 116, 104, 58, 32, 51, 44, 32, 51]⟩ : ByteArray) [.string (⟨#[67, 111, 110, 116, 101, 110, 116, 45, 76, 101, 110, 103, 116, 104, 58, 32, 51, 44, 32, 51]⟩ : ByteArray)] from rfl) (Reps.one (show Kd.M Kd.string _ _ _ (⟨#[67, 111, 110, 116, 101, 110, 116, 45, 76, 101, 110, 103, 116, 104, 58, 32, 51]⟩ : ByteArray) [.string (⟨#[67, 111, 110, 116, 101, 110, 116, 45, 76, 101, 110, 103, 116, 104, 58, 32, 51]⟩ : ByteArray)] from rfl) (Reps.one (show Kd.M Kd.string _ _ _ (⟨#[67, 111, 110, 116, 101, 110, 116, 45, 76, 101, 110, 103, 116, 104, 58, 32, 48]⟩ : ByteArray) [.string (⟨#[67, 111, 110, 116, 101, 110, 116, 45, 76, 101, 110, 103, 116, 104, 58, 32, 48]⟩ : ByteArray)] from rfl) (Reps.one (show Kd.M Kd.string _ _ _ (⟨#[67, 111, 110, 116, 101, 110, 116, 45, 76, 101, 110, 103, 116, 104, 58, 32, 48, 51]⟩ : ByteArray) [.string (⟨#[67, 111, 110, 116, 101, 110, 116, 45, 76, 101, 110, 103, 116, 104, 58, 32, 48, 51]⟩ : ByteArray)] from rfl) (Reps.one (show Kd.M Kd.string _ _ _ (⟨#[72, 111, 115, 116, 58, 32, 98]⟩ : ByteArray) [.string (⟨#[72, 111, 115, 116, 58, 32, 98]⟩ : ByteArray)] from rfl) (Reps.one (show Kd.M Kd.string _ _ _ (⟨#[72, 111, 115, 116, 58, 32, 97, 58, 57, 57, 57, 57, 57]⟩ : ByteArray) [.string (⟨#[72, 111, 115, 116, 58, 32, 97, 58, 57, 57, 57, 57, 57]⟩ : ByteArray)] from rfl) (Reps.one (show Kd.M Kd.string _ _ _ (⟨#[67, 111, 110, 110, 101, 99, 116, 105, 111, 110, 58, 32, 99, 108, 111, 115, 101]⟩ : ByteArray) [.string (⟨#[67, 111, 110, 110, 101, 99, 116, 105, 111, 110, 58, 32, 99, 108, 111, 115, 101]⟩ : ByteArray)] from rfl) (Reps.one (show Kd.M Kd.string _ _ _ (⟨#[67, 111, 110, 116, 101, 110, 116, 45, 76, 101, 110, 103, 116, 104, 58, 32, 57, 57, 57, 57, 57, 57, 57, 57, 57, 57, 57, 57, 57, 57, 57, 57, 57, 57, 57, 57]⟩ : ByteArray) [.string (⟨#[67, 111, 110, 116, 101, 110, 116, 45, 76, 101, 110, 103, 116, 104, 58, 32, 57, 57, 57, 57, 57, 57, 57, 57, 57, 57, 57, 57, 57, 57, 57, 57, 57, 57, 57, 57]⟩ : ByteArray)] from rfl) (Reps.one (show Kd.M Kd.string _ _ _ (⟨#[86, 58, 32, 255, 128]⟩ : ByteArray) [.string (⟨#[86, 58, 32, 255, 128]⟩ : ByteArray)] from rfl) (Reps.one (show Kd.M Kd.string _ _ _ (⟨#[84, 114, 97, 110, 115, 102, 101, 114, 45, 69, 110, 99, 111, 100, 105, 110, 103, 58, 32, 99, 104, 117, 110, 107, 101, 100, 44, 32, 99, 104, 117, 110, 107, 101, 100]⟩ : ByteArray) [.string (⟨#[84, 114, 97, 110, 115, 102, 101, 114, 45, 69, 110, 99, 111, 100, 105, 110, 103, 58, 32, 99, 104, 117, 110, 107, 101, 100, 44, 32, 99, 104, 117, 110, 107, 101, 100]⟩ : ByteArray)] from rfl) (Reps.none _ _)))))))))))))))))))))))); intro v211 w10 ho11 hb hg_ hnew_; clear hg_ hnew_; (first | rw [← Ny210.out] at ho11 | (simp only [Int.reduceToNat] at ho11; rw [← Ny210.out] at ho11)); have n0_ := Aside0.mk (Kd.R_elder' (by (with_reducible repeat (first | apply Kd.R_alloc | apply Kd.R_drewN | apply Kd.R_drew)); exact HO209.out) (Kd.R_base ho11) hb); have n1_ := Aside0.mk (Kd.R_lower (Kd.R_new' ho11 (Kd.R_lt (by (with_reducible repeat (first | apply Kd.R_alloc | apply Kd.R_drewN | apply Kd.R_drew)); exact HO209.out))) (below_size (by repeat (first | (with_reducible first | exact HB.out | apply below_alloc | apply pw_below_drewN | apply below_drew1) | exact HB.out)))); have n2_ := Aside0.mk (below_step (by repeat (first | (with_reducible first | exact HB.out | apply below_alloc | apply pw_below_drewN | apply below_drew1) | exact HB.out)) hb); clear HO209; clear HB; have HO209 := n0_; have HO212 := n1_; have HB := n2_; clear n0_ n1_ n2_; clear hb ho11; obtain ⟨Ao12, co12, eo12⟩ := Kd.R_slice HO209.out; subst eo12; have p213 : 0 ≤ ((ji5) : Int) := of_decide_eq_true (by first | (with_reducible assumption) | assumption); have q213 : (ji5) < (y207.length : Int) := of_decide_eq_true (by first | (with_reducible assumption) | assumption); obtain ⟨ad213, e213, hx213_0⟩ := Kd.at_string (Kd.R_reads' HO209.out).2.2 (ji5) p213 q213; cases e213; replace p213 := eq_true p213; replace q213 := eq_true q213))
          go_ret
          exact ⟨by first | rfl | (simp [errW_none, errW_some] <;> rfl) | (simp only [← hji5]; first | rfl | (simp [errW_none, errW_some] <;> rfl)) | (simp [*, errW_none, errW_some] <;> rfl), by repeat (first | (with_reducible first | exact HB.out | apply below_alloc | apply pw_below_drewN | apply below_drew1) | exact HB.out)⟩
        · rw [if_neg c7] at H
          exact absurd H (by simp)
      · rw [if_neg c6] at H
        exact absurd H (by simp)
  · rw [if_neg c3] at H
    have c3b0 : decide (a0 < 150) = false := decide_eq_false c3
    clear c3
    by_cases c13 : (y210.length : Int) = 0
    · rw [if_pos c13] at H
      exact absurd H (by simp)
    · rw [if_neg c13] at H
      have c13b0 : ((y210.length : Int) == 0) = false := beq_eq_false_iff_ne.mpr c13
      have c13b1 : ((y210.length : Int) != 0) = true := bne_iff_ne.mpr c13
      have c13b2 : ¬ (y210 = []) := fun h_ => c13 (by rw [h_]; rfl)
      obtain ⟨ji14, hji14⟩ : ∃ j_ : Int, (Int.tmod (wrap64 (a1)) (y210.length : Int)) = j_ := ⟨_, rfl⟩
      replace H : (if 0 ≤ (ji14) then (if (ji14) < (y210.length : Int) then (some (rdOf ByteArray.empty y210 (ji14))) else (none)) else (none)) = some r := by first | (rw [hji14] at H; exact H) | (simp only [hji14] at H ⊢; exact H)
      by_cases c15 : 0 ≤ (ji14)
      · rw [if_pos c15] at H
        have c15b0 : decide (0 ≤ (ji14)) = true := decide_eq_true c15
        clear c15
        by_cases c16 : (ji14) < (y210.length : Int)
        · rw [if_pos c16] at H
          have c16b0 : decide ((ji14) < (y210.length : Int)) = true := decide_eq_true c16
          clear c16
          obtain rfl := Option.some.inj H
          go_enter Tryd.func11, Tryd.ntmps11
          go_wp2_with (first | ((with_reducible refine gate_dst (N := 7) rfl ?_); refine Kd.R_lit Kd.string _ 9 ?hg (N := 7) ?hd (xs := ([(⟨#[72, 111, 115, 116, 58, 32, 104, 46, 111, 114, 103]⟩ : ByteArray), (⟨#[72, 111, 115, 116, 58, 32, 97]⟩ : ByteArray), (⟨#[65, 58, 32, 98]⟩ : ByteArray), (⟨#[88, 45, 89, 58, 32, 32, 122, 32]⟩ : ByteArray), (⟨#[65, 99, 99, 101, 112, 116, 58, 32, 42, 47, 42]⟩ : ByteArray), (⟨#[79, 114, 105, 103, 105, 110, 58, 32, 104, 116, 116, 112, 58, 47, 47, 111, 46, 111, 114, 103]⟩ : ByteArray), (⟨#[65, 117, 116, 104, 111, 114, 105, 122, 97, 116, 105, 111, 110, 58, 32, 66, 97, 115, 105, 99, 32, 100, 84, 112, 119]⟩ : ByteArray), (⟨#[67, 111, 110, 110, 101, 99, 116, 105, 111, 110, 58, 32, 107, 101, 101, 112, 45, 97, 108, 105, 118, 101]⟩ : ByteArray), (⟨#[67, 111, 111, 107, 105, 101, 58, 32, 97, 61, 49, 44, 32, 98, 61, 50]⟩ : ByteArray), (⟨#[69, 120, 112, 101, 99, 116, 58, 32, 49, 48, 48, 45, 99, 111, 110, 116, 105, 110, 117, 101]⟩ : ByteArray), (⟨#[85, 112, 103, 114, 97, 100, 101, 58, 32, 120]⟩ : ByteArray), (⟨#[88, 45, 70, 111, 114, 119, 97, 114, 100, 101, 100, 45, 70, 111, 114, 58, 32, 49, 46, 50, 46, 51, 46, 52]⟩ : ByteArray), (⟨#[67, 111, 110, 110, 101, 99, 116, 105, 111, 110, 58, 32, 88, 45, 89]⟩ : ByteArray), (⟨#[84, 69, 58, 32, 116, 114, 97, 105, 108, 101, 114, 115]⟩ : ByteArray), (⟨#[86, 105, 97, 58, 32, 49, 46, 48, 32, 113]⟩ : ByteArray), (⟨#[65, 99, 99, 101, 115, 115, 45, 67, 111, 110, 116, 114, 111, 108, 45, 82, 101, 113, 117, 101, 115, 116, 45, 77, 101, 116, 104, 111, 100, 58, 32, 80, 85, 84]⟩ : ByteArray)] : List ByteArray)) (inner := [.string (⟨#[72, 111, 115, 116, 58, 32, 104, 46, 111, 114, 103]⟩ : ByteArray), .string (⟨#[72, 111, 115, 116, 58, 32, 97]⟩ : ByteArray), .string (⟨#[65, 58, 32, 98]⟩ : ByteArray), .string (⟨#[88, 45, 89, 58, 32, 32, 122, 32]⟩ : ByteArray), .string (⟨#[65, 99, 99, 101, 112, 116, 58, 32, 42, 47, 42]⟩ : ByteArray), .string (⟨#[79, 114, 105, 103, 105, 110, 58, 32, 104, 116, 116, 112, 58, 47, 47, 111, 46, 111, 114, 103]⟩ : ByteArray), .string (⟨#[65, 117, 116, 104, 111, 114, 105, 122, 97, 116, 105, 111, 110, 58, 32, 66, 97, 115, 105, 99, 32, 100, 84, 112, 119]⟩ : ByteArray), .string (⟨#[67, 111, 110, 110, 101, 99, 116, 105, 111, 110, 58, 32, 107, 101, 101, 112, 45, 97, 108, 105, 118, 101]⟩ : ByteArray), .string (⟨#[67, 111, 111, 107, 105, 101, 58, 32, 97, 61, 49, 44, 32, 98, 61, 50]⟩ : ByteArray), .string (⟨#[69, 120, 112, 101, 99, 116, 58, 32, 49, 48, 48, 45, 99, 111, 110, 116, 105, 110, 117, 101]⟩ : ByteArray), .string (⟨#[85, 112, 103, 114, 97, 100, 101, 58, 32, 120]⟩ : ByteArray), .string (⟨#[88, 45, 70, 111, 114, 119, 97, 114, 100, 101, 100, 45, 70, 111, 114, 58, 32, 49, 46, 50, 46, 51, 46, 52]⟩ : ByteArray), .string (⟨#[67, 111, 110, 110, 101, 99, 116, 105, 111, 110, 58, 32, 88, 45, 89]⟩ : ByteArray), .string (⟨#[84, 69, 58, 32, 116, 114, 97, 105, 108, 101, 114, 115]⟩ : ByteArray), .string (⟨#[86, 105, 97, 58, 32, 49, 46, 48, 32, 113]⟩ : ByteArray), .string (⟨#[65, 99, 99, 101, 115, 115, 45, 67, 111, 110, 116, 114, 111, 108, 45, 82, 101, 113, 117, 101, 115, 116, 45, 77, 101, 116, 104, 111, 100, 58, 32, 80, 85, 84]⟩ : ByteArray)]) (ok := fun _ => True) (okp := fun _ => True) ?hr ?hp (fun _ hk => hk) trivial (Below.refl _ _) (Nat.le_refl _) (by simp) ?_; (case hd => rfl); (case hg => rfl); (case hr => first | (go_simp; done) | (go_simp; rfl)); (case hp => exact (Reps.one (show Kd.M Kd.string _ _ _ (⟨#[72, 111, 115, 116, 58, 32, 104, 46, 111, 114, 103]⟩ : ByteArray) [.string (⟨#[72, 111, 115, 116, 58, 32, 104, 46, 111, 114, 103]⟩ : ByteArray)] from rfl) (Reps.one (show Kd.M Kd.string _ _ _ (⟨#[72, 111, 115, 116, 58, 32, 97]⟩ : ByteArray) [.string (⟨#[72, 111, 115, 116, 58, 32, 97]⟩ : ByteArray)] from rfl) (Reps.one (show Kd.M Kd.string _ _ _ (⟨#[65, 58, 32, 98]⟩ : ByteArray) [.string (⟨#[65, 58, 32, 98]⟩ : ByteArray)] from rfl) (Reps.one (show Kd.M Kd.string _ _ _ (⟨#[88, 45, 89, 58, 32, 32, 122, 32]⟩ : ByteArray) [.string (⟨#[88, 45, 89, 58, 32, 32, 122, 32]⟩ : ByteArray)] from rfl) (Reps.one (show Kd.M Kd.string _ _ _ (⟨#[65, 99, 99, 101, 112, 116, 58, 32, 42, 47, 42]⟩ : ByteArray) [.string (⟨#[65, 99, 99, 101, 112, 116, 58, 32, 42, 47, 42]⟩ : ByteArray)] from rfl) (Reps.one (show Kd.M Kd.string _ _ _ (⟨#[79, 114, 105, 103, 105, 110, 58, 32, 104, 116, 116, 112, 58, 47, 47, 111, 46, 111, 114, 103]⟩ : ByteArray) [.string (⟨#[79, 114, 105, 103, 105, 110, 58, 32, 104, 116, 116, 112, 58, 47, 47, 111, 46, 111, 114, 103]⟩ : ByteArray)] from rfl) (Reps.one (show Kd.M Kd.string _ _ _ (⟨#[65, 117, 116, 104, 111, 114, 105, 122, 97, 116, 105, 111, 110, 58, 32, 66, 97, 115, 105, 99, 32, 100, 84, 112, 119]⟩ : ByteArray) [.string (⟨#[65, 117, 116, 104, 111, 114, 105, 122, 97, 116, 105, 111, 110, 58, 32, 66, 97, 115, 105, 99, 32, 100, 84, 112, 119]⟩ : ByteArray)] from rfl) (Reps.one (show Kd.M Kd.string _ _ _ (⟨#[67, 111, 110, 110, 101, 99, 116, 105, 111, 110, 58, 32, 107, 101, 101, 112, 45, 97, 108, 105, 118, 101]⟩ : ByteArray) [.string (⟨#[67, 111, 110, 110, 101, 99, 116, 105, 111, 110, 58, 32, 107, 101, 101, 112, 45, 97, 108, 105, 118, 101]⟩ : ByteArray)] from rfl) (Reps.one (show Kd.M Kd.string _ _ _ (⟨#[67, 111, 111, 107, 105, 101, 58, 32, 97, 61, 49, 44, 32, 98, 61, 50]⟩ : ByteArray) [.string (⟨#[67, 111, 111, 107, 105, 101, 58, 32, 97, 61, 49, 44, 32, 98, 61, 50]⟩ : ByteArray)] from rfl) (Reps.one (show Kd.M Kd.string _ _ _ (⟨#[69, 120, 112, 101, 99, 116, 58, 32, 49, 48, 48, 45, 99, 111, 110, 116, 105, 110, 117, 101]⟩ : ByteArray) [.string (⟨#[69, 120, 112, 101, 99, 116, 58, 32, 49, 48, 48, 45, 99, 111, 110, 116, 105, 110, 117, 101]⟩ : ByteArray)] from rfl) (Reps.one (show Kd.M Kd.string _ _ _ (⟨#[85, 112, 103, 114, 97, 100, 101, 58, 32, 120]⟩ : ByteArray) [.string (⟨#[85, 112, 103, 114, 97, 100, 101, 58, 32, 120]⟩ : ByteArray)] from rfl) (Reps.one (show Kd.M Kd.string _ _ _ (⟨#[88, 45, 70, 111, 114, 119, 97, 114, 100, 101, 100, 45, 70, 111, 114, 58, 32, 49, 46, 50, 46, 51, 46, 52]⟩ : ByteArray) [.string (⟨#[88, 45, 70, 111, 114, 119, 97, 114, 100, 101, 100, 45, 70, 111, 114, 58, 32, 49, 46, 50, 46, 51, 46, 52]⟩ : ByteArray)] from rfl) (Reps.one (show Kd.M Kd.string _ _ _ (⟨#[67, 111, 110, 110, 101, 99, 116, 105, 111, 110, 58, 32, 88, 45, 89]⟩ : ByteArray) [.string (⟨#[67, 111, 110, 110, 101, 99, 116, 105, 111, 110, 58, 32, 88, 45, 89]⟩ : ByteArray)] from rfl) (Reps.one (show Kd.M Kd.string _ _ _ (⟨#[84, 69, 58, 32, 116, 114, 97, 105, 108, 101, 114, 115]⟩ : ByteArray) [.string (⟨#[84, 69, 58, 32, 116, 114, 97, 105, 108, 101, 114, 115]⟩ : ByteArray)] from rfl) (Reps.one (show Kd.M Kd.string _ _ _ (⟨#[86, 105, 97, 58, 32, 49, 46, 48, 32, 113]⟩ : ByteArray) [.string (⟨#[86, 105, 97, 58, 32, 49, 46, 48, 32, 113]⟩ : ByteArray)] from rfl) (Reps.one (show Kd.M Kd.string _ _ _ (⟨#[65, 99, 99, 101, 115, 115, 45, 67, 111, 110, 116, 114, 111, 108, 45, 82, 101, 113, 117, 101, 115, 116, 45, 77, 101, 116, 104, 111, 100, 58, 32, 80, 85, 84]⟩ : ByteArray) [.string (⟨#[65, 99, 99, 101, 115, 115, 45, 67, 111, 110, 116, 114, 111, 108, 45, 82, 101, 113, 117, 101, 115, 116, 45, 77, 101, 116, 104, 111, 100, 58, 32, 80, 85, 84]⟩ : ByteArray)] from rfl) (Reps.none _ _)))))))))))))))))); intro v208 w17 ho18 hb hg_ hnew_; clear hg_ hnew_; (first | rw [← Ny207.out] at ho18 | (simp only [Int.reduceToNat] at ho18; rw [← Ny207.out] at ho18)); have n0_ := Aside0.mk (Kd.R_lower ho18 (below_size (by repeat (first | (with_reducible first | exact HB.out | apply below_alloc | apply pw_below_drewN | apply below_drew1) | exact HB.out)))); have n1_ := Aside0.mk (below_step (by repeat (first | (with_reducible first | exact HB.out | apply below_alloc | apply pw_below_drewN | apply below_drew1) | exact HB.out)) hb); clear HB; have HO209 := n0_; have HB := n1_; clear n0_ n1_; clear hb ho18) | ((with_reducible refine gate_dst (N := 8) rfl ?_); refine Kd.R_lit Kd.string _ 9 ?hg (N := 8) ?hd (xs := ([(⟨#[72, 111, 115, 116, 32, 58, 32, 97]⟩ : ByteArray), (⟨#[40, 120, 58, 32, 49]⟩ : ByteArray), (⟨#[110, 111, 118, 97, 108, 117, 101]⟩ : ByteArray), (⟨#[58, 32, 110, 97, 109, 101, 108, 101, 115, 115]⟩ : ByteArray), (⟨#[32, 102, 111, 108, 100, 101, 100]⟩ : ByteArray), (⟨#[9, 102, 111, 108, 100, 101, 100, 58, 32, 116, 111, 111]⟩ : ByteArray), (⟨#[86, 58, 32, 97, 1, 98]⟩ : ByteArray), (⟨#[84, 114, 97, 110, 115, 102, 101, 114, 45, 69, 110, 99, 111, 100, 105, 110, 103, 58, 32, 103, 122, 105, 112]⟩ : ByteArray), (⟨#[84, 114, 97, 110, 115, 102, 101, 114, 45, 69, 110, 99, 111, 100, 105, 110, 103, 58, 32, 103, 122, 105, 112, 44, 32, 99, 104, 117, 110, 107, 101, 100]⟩ : ByteArray), (⟨#[84, 114, 97, 110, 115, 102, 101, 114, 45, 69, 110, 99, 111, 100, 105, 110, 103, 58, 32, 11, 99, 104, 117, 110, 107, 101, 100]⟩ : ByteArray), (⟨#[84, 114, 97, 110, 115, 102, 101, 114, 45, 69, 110, 99, 111, 100, 105, 110, 103, 58, 32, 67, 104, 117, 110, 107, 101, 100]⟩ : ByteArray), (⟨#[67, 111, 110, 116, 101, 110, 116, 45, 76, 101, 110, 103, 116, 104, 58, 32, 43, 51]⟩ : ByteArray), (⟨#[67, 111, 110, 116, 101, 110, 116, 45, 76, 101, 110, 103, 116, 104, 58, 32, 51, 44, 32, 51]⟩ : ByteArray), (⟨#[67, 111, 110, 116, 101, 110, 116, 45, 76, 101, 110, 103, 116, 104, 58, 32, 51]⟩ : ByteArray), (⟨#[67, 111, 110, 116, 101, 110, 116, 45, 76, 101, 110, 103, 116, 104, 58, 32, 48]⟩ : ByteArray), (⟨#[67, 111, 110, 116, 101, 110, 116, 45, 76, 101, 110, 103, 116, 104, 58, 32, 48, 51]⟩ : ByteArray), (⟨#[72, 111, 115, 116, 58, 32, 98]⟩ : ByteArray), (⟨#[72, 111, 115, 116, 58, 32, 97, 58, 57, 57, 57, 57, 57]⟩ : ByteArray), (⟨#[67, 111, 110, 110, 101, 99, 116, 105, 111, 110, 58, 32, 99, 108, 111, 115, 101]⟩ : ByteArray), (⟨#[67, 111, 110, 116, 101, 110, 116, 45, 76, 101, 110, 103, 116, 104, 58, 32, 57, 57, 57, 57, 57, 57, 57, 57, 57, 57, 57, 57, 57, 57, 57, 57, 57, 57, 57, 57]⟩ : ByteArray), (⟨#[86, 58, 32, 255, 128]⟩ : ByteArray), (⟨#[84, 114, 97, 110, 115, 102, 101, 114, 45, 69, 110, 99, 111, 100, 105, 110, 103, 58, 32, 99, 104, 117, 110, 107, 101, 100, 44, 32, 99, 104, 117, 110, 107, 101, 100]⟩ : ByteArray)] : List ByteArray)) (inner := [.string (⟨#[72, 111, 115, 116, 32, 58, 32, 97]⟩ : ByteArray), .string (⟨#[40, 120, 58, 32, 49]⟩ : ByteArray), .string (⟨#[110, 111, 118, 97, 108, 117, 101]⟩ : ByteArray), .string (⟨#[58, 32, 110, 97, 109, 101, 108, 101, 115, 115]⟩ : ByteArray), .string (⟨#[32, 102, 111, 108, 100, 101, 100]⟩ : ByteArray), .string (⟨#[9, 102, 111, 108, 100, 101, 100, 58, 32, 116, 111, 111]⟩ : ByteArray), .string (⟨#[86, 58, 32, 97, 1, 98]⟩ : ByteArray), .string (⟨#[84, 114, 97, 110, 115, 102, 101, 114, 45, 69, 110, 99, 111, 100, 105, 110, 103, 58, 32, 103, 122, 105, 112]⟩ : ByteArray), .string (⟨#[84, 114, 97, 110, 115, 102, 101, 114, 45, 69, 110, 99, 111, 100, 105, 110, 103, 58, 32, 103, 122, 105, 112, 44, 32, 99, 104, 117, 110, 107, 101, 100]⟩ : ByteArray), .string (⟨#[84, 114, 97, 110, 115, 102, 101, 114, 45, 69, 110, 99, 111, 100, 105, 110, 103, 58, 32, 11, 99, 104, 117, 110, 107, 101, 100]⟩ : ByteArray), .string (⟨#[84, 114, 97, 110, 115, 102, 101, 114, 45, 69, 110, 99, 111, 100, 105, 110, 103, 58, 32, 67, 104, 117, 110, 107, 101, 100]⟩ : ByteArray), .string (⟨#[67, 111, 110, 116, 101, 110, 116, 45, 76, 101, 110, 103, 116, 104, 58, 32, 43, 51]⟩ : ByteArray), .string (⟨#[67, 111, 110, 116, 101, 110, 116, 45, 76, 101, 110, 103, 116, 104, 58, 32, 51, 44, 32, 51]⟩ : ByteArray), .string (⟨#[67, 111, 110, 116, 101, 110, 116, 45, 76, 101, 110, 103, 116, 104, 58, 32, 51]⟩ : ByteArray), .string (⟨#[67, 111, 110, 116, 101, 110, 116, 45, 76, 101, 110, 103, 116, 104, 58, 32, 48]⟩ : ByteArray), .string (⟨#[67, 111, 110, 116, 101, 110, 116, 45, 76, 101, 110, 103, 116, 104, 58, 32, 48, 51]⟩ : ByteArray), .string (⟨#[72, 111, 115, 116, 58, 32, 98]⟩ : ByteArray), .string (⟨#[72, 111, 115, 116, 58, 32, 97, 58, 57, 57, 57, 57, 57]⟩ : ByteArray), .string (⟨#[67, 111, 110, 110, 101, 99, 116, 105, 111, 110, 58, 32, 99, 108, 111, 115, 101]⟩ : ByteArray), .string (⟨#[67, 111, 110, 116, 101, 110, 116, 45, 76, 101, 110, 103, 116, 104, 58, 32, 57, 57, 57, 57, 57, 57, 57, 57, 57, 57, 57, 57, 57, 57, 57, 57, 57, 57, 57, 57]⟩ : ByteArray), .string (⟨#[86, 58, 32, 255, 128]⟩ : ByteArray), .string (⟨#[84, 114, 97, 110, 115, 102, 101, 114, 45, 69, 110, 99, 111, 100, 105, 110, 103, 58, 32, 99, 104, 117, 110, 107, 101, 100, 44, 32, 99, 104, 117, 110, 107, 101, 100]⟩ : ByteArray)]) (ok := fun _ => True) (okp := fun _ => True) ?hr ?hp (fun _ hk => hk) trivial (Below.refl _ _) (Nat.le_refl _) (by simp) ?_; (case hd => rfl); (case hg => rfl); (case hr => first | (go_simp; done) | (go_simp; rfl)); (case hp => exact (Reps.one (show Kd.M Kd.string _ _ _ (⟨#[72, 111, 115, 116, 32, 58, 32, 97]⟩ : ByteArray) [.string (⟨#[72, 111, 115, 116, 32, 58, 32, 97]⟩ : ByteArray)] from rfl) (Reps.one (show Kd.M Kd.string _ _ _ (⟨#[40, 120, 58, 32, 49]⟩ : ByteArray) [.string (⟨#[40, 120, 58, 32, 49]⟩ : ByteArray)] from rfl) (Reps.one (show Kd.M Kd.string _ _ _ (⟨#[110, 111, 118, 97, 108, 117, 101]⟩ : ByteArray) [.string (⟨#[110, 111, 118, 97, 108, 117, 101]⟩ : ByteArray)] from rfl) (Reps.one (show Kd.M Kd.string _ _ _ (⟨#[58, 32, 110, 97, 109, 101, 108, 101, 115, 115]⟩ : ByteArray) [.string (⟨#[58, 32, 110, 97, 109, 101, 108, 101, 115, 115]⟩ : ByteArray)] from rfl) (Reps.one (show Kd.M Kd.string _ _ _ (⟨#[32, 102, 111, 108, 100, 101, 100]⟩ : ByteArray) [.string (⟨#[32, 102, 111, 108, 100, 101, 100]⟩ : ByteArray)] from rfl) (Reps.one (show Kd.M Kd.string _ _ _ (⟨#[9, 102, 111, 108, 100, 101, 100, 58, 32, 116, 111, 111]⟩ : ByteArray) [.string (⟨#[9, 102, 111, 108, 100, 101, 100, 58, 32, 116, 111, 111]⟩ : ByteArray)] from rfl) (Reps.one (show Kd.M Kd.string _ _ _ (⟨#[86, 58, 32, 97, 1, 98]⟩ : ByteArray) [.string (⟨#[86, 58, 32, 97, 1, 98]⟩ : ByteArray)] from rfl) (Reps.one (show Kd.M Kd.string _ _ _ (⟨#[84, 114, 97, 110, 115, 102, 101, 114, 45, 69, 110, 99, 111, 100, 105, 110, 103, 58, 32, 103, 122, 105, 112]⟩ : ByteArray) [.string (⟨#[84, 114, 97, 110, 115, 102, 101, 114, 45, 69, 110, 99, 111, 100, 105, 110, 103, 58, 32, 103, 122, 105, 112]⟩ : ByteArray)] from rfl) (Reps.one (show Kd.M Kd.string _ _ _ (⟨#[84, 114, 97, 110, 115, 102, 101, 114, 45, 69, 110, 99, 111, 100, 105, 110, 103, 58, 32, 103, 122, 105, 112, 44, 32, 99, 104, 117, 110, 107, 101, 100]⟩ : ByteArray) [.string (⟨#[84, 114, 97, 110, 115, 102, 101, 114, 45, 69, 110, 99, 111, 100, 105, 110, 103, 58, 32, 103, 122, 105, 112, 44, 32, 99, 104, 117, 110, 107, 101, 100]⟩ : ByteArray)] from rfl) (Reps.one (show Kd.M Kd.string _ _ _ (⟨#[84, 114, 97, 110, 115, 102, 101, 114, 45, 69, 110, 99, 111, 100, 105, 110, 103, 58, 32, 11, 99, 104, 117, 110, 107, 101, 100]⟩ : ByteArray) [.string (⟨#[84, 114, 97, 110, 115, 102, 101, 114, 45, 69, 110, 99, 111, 100, 105, 110, 103, 58, 32, 11, 99, 104, 117, 110, 107, 101, 100]⟩ : ByteArray)] from rfl) (Reps.one (show Kd.M Kd.string _ _ _ (⟨#[84, 114, 97, 110, 115, 102, 101, 114, 45, 69, 110, 99, 111, 100, 105, 110, 103, 58, 32, 67, 104, 117, 110, 107, 101, 100]⟩ : ByteArray) [.string (⟨#[84, 114, 97, 110, 115, 102, 101, 114, 45, 69, 110, 99, 111, 100, 105, 110, 103, 58, 32, 67, 104, 117, 110, 107, 101, 100]⟩ : ByteArray)] from rfl) (Reps.one (show Kd.M Kd.string _ _ _ (⟨#[67, 111, 110, 116, 101, 110, 116, 45, 76, 101, 110, 103, 116, 104, 58, 32, 43, 51]⟩ : ByteArray) [.string (⟨#[67, 111, 110, 116, 101, 110, 116, 45, 76, 101, 110, 103, 116, 104, 58, 32, 43, 51]⟩ : ByteArray)] from rfl) (Reps.one (show Kd.M Kd.string _ _ _ (⟨#[67, 111, 110, 116, 101, 110, 116, 45, 76, 101, 110, 103, 116, 104, 58, 32, 51, 44, 32, 51]⟩ : ByteArray) [.string (⟨#[67, 111, 110, 116, 101, 110, 116, 45, 76, 101, 110, 103, 116, 104, 58, 32, 51, 44, 32, 51]⟩ : ByteArray)] from rfl) (Reps.one (show Kd.M Kd.string _ _ _ (⟨#[67, 111, 110, 116, 101, 110, 116, 45, 76, 101, 110, 103, 116, 104, 58, 32, 51]⟩ : ByteArray) [.string (⟨#[67, 111, 110, 116, 101, 110, 116, 45, 76, 101, 110, 103, 116, 104, 58, 32, 51]⟩ : ByteArray)] from rfl) (Reps.one (show Kd.M Kd.string _ _ _ (⟨#[67, 111, 110, 116, 101, 110, 116, 45, 76, 101, 110, 103, 116, 104, 58, 32, 48]⟩ : ByteArray) [.string (⟨#[67, 111, 110, 116, 101, 110, 116, 45, 76, 101, 110, 103, 116, 104, 58, 32, 48]⟩ : ByteArray)] from rfl) (Reps.one (show Kd.M Kd.string _ _ _ (⟨#[67, 111, 110, 116, 101, 110, 116, 45, 76, 101, 110, 103, 116, 104, 58, 32, 48, 51]⟩ : ByteArray) [.string (⟨#[67, 111, 110, 116, 101, 110, 116, 45, 76, 101, 110, 103, 116, 104, 58, 32, 48, 51]⟩ : ByteArray)] from rfl) (Reps.one (show Kd.M Kd.string _ _ _ (⟨#[72, 111, 115, 116, 58, 32, 98]⟩ : ByteArray) [.string (⟨#[72, 111, 115, 116, 58, 32, 98]⟩ : ByteArray)] from rfl) (Reps.one (show Kd.M Kd.string _ _ _ (⟨#[72, 111, 115, 116, 58, 32, 97, 58, 57, 57, 57, 57, 57]⟩ : ByteArray) [.string (⟨#[72, 111, 115, 116, 58, 32, 97, 58, 57, 57, 57, 57, 57]⟩ : ByteArray)] from rfl) (Reps.one (show Kd.M Kd.string _ _ _ (⟨#[67, 111, 110, 110, 101, 99, 116, 105, 111, 110, 58, 32, 99, 108, 111, 115, 101]⟩ : ByteArray) [.string (⟨#[67, 111, 110, 110, 101, 99, 116, 105, 111, 110, 58, 32, 99, 108, 111, 115, 101]⟩ : ByteArray)] from rfl) (Reps.one (show Kd.M Kd.string _ _ _ (⟨#[67, 111, 110, 116, 101, 110, 116, 45, 76, 101, 110, 103, 116, 104, 58, 32, 57, 57, 57, 57, 57, 57, 57, 57, 57, 57, 57, 57, 57, 57, 57, 57, 57, 57, 57, 57]⟩ : ByteArray) [.string (⟨#[67, 111, 110, 116, 101, 110, 116, 45, 76, 101, 110, 103, 116, 104, 58, 32, 57, 57, 57, 57, 57, 57, 57, 57, 57, 57, 57, 57, 57, 57, 57, 57, 57, 57, 57, 57]⟩ : ByteArray)] from rfl) (Reps.one (show Kd.M Kd.string _ _ _ (⟨#[86, 58, 32, 255, 128]⟩ : ByteArray) [.string (⟨#[86, 58, 32, 255, 128]⟩ : ByteArray)] from rfl) (Reps.one (show Kd.M Kd.string _ _ _ (⟨#[84, 114, 97, 110, 115, 102, 101, 114, 45, 69, 110, 99, 111, 100, 105, 110, 103, 58, 32, 99, 104, 117, 110, 107, 101, 100, 44, 32, 99, 104, 117, 110, 107, 101, 100]⟩ : ByteArray) [.string (⟨#[84, 114, 97, 110, 115, 102, 101, 114, 45, 69, 110, 99, 111, 100, 105, 110, 103, 58, 32, 99, 104, 117, 110, 107, 101, 100, 44, 32, 99, 104, 117, 110, 107, 101, 100]⟩ : ByteArray)] from rfl) (Reps.none _ _)))))))))))))))))))))))); intro v211 w19 ho20 hb hg_ hnew_; clear hg_ hnew_; (first | rw [← Ny210.out] at ho20 | (simp only [Int.reduceToNat] at ho20; rw [← Ny210.out] at ho20)); have n0_ := Aside0.mk (Kd.R_elder' (by (with_reducible repeat (first | apply Kd.R_alloc | apply Kd.R_drewN | apply Kd.R_drew)); exact HO209.out) (Kd.R_base ho20) hb); have n1_ := Aside0.mk (Kd.R_lower (Kd.R_new' ho20 (Kd.R_lt (by (with_reducible repeat (first | apply Kd.R_alloc | apply Kd.R_drewN | apply Kd.R_drew)); exact HO209.out))) (below_size (by repeat (first | (with_reducible first | exact HB.out | apply below_alloc | apply pw_below_drewN | apply below_drew1) | exact HB.out)))); have n2_ := Aside0.mk (below_step (by repeat (first | (with_reducible first | exact HB.out | apply below_alloc | apply pw_below_drewN | apply below_drew1) | exact HB.out)) hb); clear HO209; clear HB; have HO209 := n0_; have HO212 := n1_; have HB := n2_; clear n0_ n1_ n2_; clear hb ho20; obtain ⟨Ao21, co21, eo21⟩ := Kd.R_slice HO212.out; subst eo21; have p214 : 0 ≤ ((ji14) : Int) := of_decide_eq_true (by first | (with_reducible assumption) | assumption); have q214 : (ji14) < (y210.length : Int) := of_decide_eq_true (by first | (with_reducible assumption) | assumption); obtain ⟨ad214, e214, hx214_0⟩ := Kd.at_string (Kd.R_reads' HO212.out).2.2 (ji14) p214 q214; cases e214; replace p214 := eq_true p214; replace q214 := eq_true q214))
          go_ret
          exact ⟨by first | rfl | (simp [errW_none, errW_some] <;> rfl) | (simp only [← hji14]; first | rfl | (simp [errW_none, errW_some] <;> rfl)) | (simp [*, errW_none, errW_some] <;> rfl), by repeat (first | (with_reducible first | exact HB.out | apply below_alloc | apply pw_below_drewN | apply below_drew1) | exact HB.out)⟩
        · rw [if_neg c16] at H
          exact absurd H (by simp)
      · rw [if_neg c15] at H
        exact absurd H (by simp)

/-! ### parallaxref1_in: function 47 -/
def parallaxref1_in.l0 : Nat → Int → ByteArray → Int → Option (Bool)
  | 0, _, _, _ => none
  | k + 1, x0, x1, x5 => if x5 < (x1.size : Int) then (if 0 ≤ x5 then (if (bt x1 x5) = x0 then (some true) else (parallaxref1_in.l0 k x0 x1 (wrap64 (x5 + 1)))) else (none)) else (some false)
def parallaxref1_in.f (k : Nat) (a0 : Int) (a1 : ByteArray) : Option (Bool) := parallaxref1_in.l0 k a0 a1 0
theorem parallaxref1_in.mono_l : ∀ k, (∀ y0 y1 y2, LeO (parallaxref1_in.l0 k y0 y1 y2) (parallaxref1_in.l0 (k + 1) y0 y1 y2))
  | 0 => fun _ _ _ r h => by simp [parallaxref1_in.l0] at h
  | k + 1 => by
    have ih0 := parallaxref1_in.mono_l k
    · intro y0 y1 y2
      unfold parallaxref1_in.l0
      repeat' first
      | (with_reducible exact ih0 _ _ _)
      | (with_reducible exact LeO.refl _)
      | (with_reducible exact LeO.none _)
      | (with_reducible refine LeO.ite ?_ ?_)
      | (with_reducible refine LeO.bind ?_ (fun _ => ?_))
      | exact ih0 _ _ _
      | exact LeO.none _
      | refine LeO.ite ?_ ?_
      | refine LeO.bind ?_ (fun _ => ?_)
theorem parallaxref1_in.mono : ∀ a0 a1 k, LeO (parallaxref1_in.f k a0 a1) (parallaxref1_in.f (k + 1) a0 a1) := by
  intro a0 a1 k
  have ih0 := parallaxref1_in.mono_l k
  unfold parallaxref1_in.f
  repeat' first
      | (with_reducible exact ih0 _ _ _)
      | (with_reducible exact LeO.refl _)
      | (with_reducible exact LeO.none _)
      | (with_reducible refine LeO.ite ?_ ?_)
      | (with_reducible refine LeO.bind ?_ (fun _ => ?_))
      | exact ih0 _ _ _
      | exact LeO.none _
      | refine LeO.ite ?_ ?_
      | refine LeO.bind ?_ (fun _ => ?_)
set_option maxHeartbeats 8000000 in
set_option maxRecDepth 100000 in
theorem parallaxref1_in.calls (k : Nat) (a0 : Int) (a1 : ByteArray) (r : Bool) (w : World) (h : parallaxref1_in.f k a0 a1 = some r) :
    Calls Tryd.prog 47 #[.int .u8 a0, .string a1] w fun e w' => e = .returned (.bool r) ∧ Drawn0 w w' := by
  have H : (parallaxref1_in.l0 k a0 a1 0) = some r := h
  clear h
  have H' := Aside0.mk H
  clear H
  go_enter Tryd.func47, Tryd.ntmps47
  go_wp2
  go_loopg [5] k (fun kq v5 w' => ∃ (x5_1 : Int), v5 = .int .i64 x5_1 ∧ Aside0 (parallaxref1_in.l0 kq a0 a1 x5_1 = some r) ∧ Aside0 (kq ≤ k) ∧ Drawn0 w w')
  case atStart => exact ⟨(0), (by first | rfl | (simp; done) | (simp [*]; done)), H', ⟨Nat.le_refl _⟩, by repeat (first | exact Drawn0.refl _ | apply Drawn0.step)⟩
  case round =>
    clear H'
    try clear p2
    obtain ⟨x5_1, rfl, HA, HK1, ⟨m1, rfl⟩⟩ := hrel
    cases gk with
    | zero => exact absurd HA.out (by simp [parallaxref1_in.l0])
    | succ k1 =>
      have H := HA.out
      clear HA
      simp only [parallaxref1_in.l0] at H
      by_cases c3 : x5_1 < (a1.size : Int)
      · rw [if_pos c3] at H
        have c3b0 : decide (x5_1 < (a1.size : Int)) = true := decide_eq_true c3
        clear c3
        by_cases c4 : 0 ≤ x5_1
        · rw [if_pos c4] at H
          have c4b0 : decide (0 ≤ x5_1) = true := decide_eq_true c4
          clear c4
          by_cases c6 : (bt a1 x5_1) = a0
          · rw [if_pos c6] at H
            have c6b0 : ((bt a1 x5_1) == a0) = true := beq_iff_eq.mpr c6
            have c6b1 : ((bt a1 x5_1) != a0) = false := bne_eq_false_iff_eq.mpr c6
            clear c6
            obtain rfl := Option.some.inj H
            have p5 : 0 ≤ (x5_1 : Int) := of_decide_eq_true (by first | (with_reducible assumption) | assumption)
            have q5 : x5_1 < (a1.size : Int) := of_decide_eq_true (by first | (with_reducible assumption) | assumption)
            have hx5 := bt_at a1 x5_1
            replace p5 := eq_true p5
            replace q5 := eq_true q5
            go_wp2
            go_ret
            exact ⟨by first | rfl | (simp; done) | (simp [*]; done), by repeat (first | exact Drawn0.refl _ | apply Drawn0.step)⟩
          · rw [if_neg c6] at H
            have c6b0 : ((bt a1 x5_1) == a0) = false := beq_eq_false_iff_ne.mpr c6
            have c6b1 : ((bt a1 x5_1) != a0) = true := bne_iff_ne.mpr c6
            have H' := Aside0.mk H
            clear H
            have p5 : 0 ≤ (x5_1 : Int) := of_decide_eq_true (by first | (with_reducible assumption) | assumption)
            have q5 : x5_1 < (a1.size : Int) := of_decide_eq_true (by first | (with_reducible assumption) | assumption)
            have hx5 := bt_at a1 x5_1
            replace p5 := eq_true p5
            replace q5 := eq_true q5
            go_wp2
            go_roundg k1
            case measure => have := HK1.out; omega
            case rel => exact ⟨(wrap64 (x5_1 + 1)), (by first | rfl | (simp; done) | (simp [*]; done)), H', ⟨by have := HK1.out; omega⟩, by repeat (first | exact Drawn0.refl _ | apply Drawn0.step)⟩
        · rw [if_neg c4] at H
          exact absurd H (by simp)
      · rw [if_neg c3] at H
        have c3b0 : decide (x5_1 < (a1.size : Int)) = false := decide_eq_false c3
        clear c3
        obtain rfl := Option.some.inj H
        go_wp2
        go_ret
        exact ⟨by first | rfl | (simp; done) | (simp [*]; done), by repeat (first | exact Drawn0.refl _ | apply Drawn0.step)⟩

end Go.Proofs.YtijcibdpcolfpaaDoor.PFieldTells
