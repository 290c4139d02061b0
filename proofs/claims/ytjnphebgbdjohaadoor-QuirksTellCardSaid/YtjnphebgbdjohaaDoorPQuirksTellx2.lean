-- Written by a program of this session (wip/tools/myprint.sh)
import Derived.Test.YtjnphebgbdjohaaDoorPQuirksTellx0
import Derived.Test.YtjnphebgbdjohaaDoorPQuirksTellx1
namespace Go.Proofs.YtjnphebgbdjohaaDoor.PQuirksTell
open Go.RowKit Go.Proofs.YtjnphebgbdjohaaDoorW.PrintWords Go.Proofs.YtjnphebgbdjohaaDoorW.PrintLast Go.Proofs.YtjnphebgbdjohaaDoorW.PrintMore
attribute [local go_sem] max2_int min2_int max_two min_two max_three min_three max_four min_four   -- for this text's walks alone
set_option linter.unusedVariables false
set_option linter.unusedSimpArgs false

/-! ### quirks_Of: function 20 -/
def quirks_Of.l0 : Nat → Int → List Int → Int → Int → Option (Int)
  | 0, _, _, _, _ => none
  | k + 1, x3, x6, x7, x8 => if x8 < x7 then (if 0 ≤ x8 then (if x8 < (x6.length : Int) then ((quirks_known.f (rd x6 x8)).bind fun t124 => (if t124 = true then (if 0 ≤ (rd x6 x8) then (quirks_Of.l0 k (Go.bits .or .u32 x3 (shl .u32 1 (rd x6 x8))) x6 x7 (wrap64 (x8 + 1))) else (none)) else (quirks_Of.l0 k x3 x6 x7 (wrap64 (x8 + 1))))) else (none)) else (none)) else (some x3)
def quirks_Of.f (k : Nat) (l0 : List Int) : Option (Int) := quirks_Of.l0 k 0 l0 (l0.length : Int) 0
theorem quirks_Of.mono_l : ∀ k, (∀ y0 y1 y2 y3, LeO (quirks_Of.l0 k y0 y1 y2 y3) (quirks_Of.l0 (k + 1) y0 y1 y2 y3))
  | 0 => fun _ _ _ _ r h => by simp [quirks_Of.l0] at h
  | k + 1 => by
    have ih0 := quirks_Of.mono_l k
    · intro y0 y1 y2 y3
      unfold quirks_Of.l0
      repeat' first
      | (with_reducible exact ih0 _ _ _ _)
      | (with_reducible exact LeO.refl _)
      | (with_reducible exact LeO.none _)
      | (with_reducible refine LeO.ite ?_ ?_)
      | (with_reducible refine LeO.bind ?_ (fun _ => ?_))
      | exact ih0 _ _ _ _
      | exact LeO.none _
      | refine LeO.ite ?_ ?_
      | refine LeO.bind ?_ (fun _ => ?_)
theorem quirks_Of.mono : ∀ a0 k, LeO (quirks_Of.f k a0) (quirks_Of.f (k + 1) a0) := by
  intro a0 k
  have ih0 := quirks_Of.mono_l k
  unfold quirks_Of.f
  repeat' first
      | (with_reducible exact ih0 _ _ _ _)
      | (with_reducible exact LeO.refl _)
      | (with_reducible exact LeO.none _)
      | (with_reducible refine LeO.ite ?_ ?_)
      | (with_reducible refine LeO.bind ?_ (fun _ => ?_))
      | exact ih0 _ _ _ _
      | exact LeO.none _
      | refine LeO.ite ?_ ?_
      | refine LeO.bind ?_ (fun _ => ?_)
set_option maxHeartbeats 8000000 in
set_option maxRecDepth 100000 in
theorem quirks_Of.calls (k : Nat) (A0 : Option Addr) (c0 : Nat) (l0 : List Int) (r : Int) (w : World) (hr0 : Kd.C (Kd.int .i64) w A0 l0.length l0) (hc0 : l0.length ≤ c0) (h : quirks_Of.f k l0 = some r) :
    Calls Tryd.prog 20 #[.slice A0 l0.length c0] w fun e w' => e = .returned (.int .u32 r) ∧ Drawn0 w w' := by
  have HR0 := Aside0.mk hr0
  have HC0 := Aside0.mk hc0
  clear hr0 hc0
  have H : (quirks_Of.l0 k 0 l0 (l0.length : Int) 0) = some r := h
  clear h
  have H' := Aside0.mk H
  clear H
  go_enter Tryd.func20, Tryd.ntmps20
  go_wp2
  go_loopg [3, 8] k (fun kq v3 v8 w' => ∃ (x3_1 : Int) (x8_1 : Int), v3 = .int .u32 x3_1 ∧ v8 = .int .i64 x8_1 ∧ Aside0 (quirks_Of.l0 kq x3_1 l0 (l0.length : Int) x8_1 = some r) ∧ Aside0 (kq ≤ k) ∧ Drawn0 w w')
  case atStart => exact ⟨(0), (0), (by first | rfl | (simp; done) | (simp [*]; done)), (by first | rfl | (simp; done) | (simp [*]; done)), H', ⟨Nat.le_refl _⟩, by repeat (first | exact Drawn0.refl _ | apply Drawn0.step)⟩
  case round =>
    clear H'
    obtain ⟨x3_1, x8_1, rfl, rfl, HA, HK1, ⟨m1, rfl⟩⟩ := hrel
    cases gk with
    | zero => exact absurd HA.out (by simp [quirks_Of.l0])
    | succ k1 =>
      have H := HA.out
      clear HA
      simp only [quirks_Of.l0] at H
      by_cases c2 : x8_1 < (l0.length : Int)
      · rw [if_pos c2] at H
        have c2b0 : decide (x8_1 < (l0.length : Int)) = true := decide_eq_true c2
        clear c2
        by_cases c3 : 0 ≤ x8_1
        · rw [if_pos c3] at H
          have c3b0 : decide (0 ≤ x8_1) = true := decide_eq_true c3
          clear c3
          by_cases c4 : x8_1 < (l0.length : Int)
          · rw [if_pos c4] at H
            have c4b0 : decide (x8_1 < (l0.length : Int)) = true := decide_eq_true c4
            clear c4
            replace H := Option.bind_eq_some_iff.mp H
            obtain ⟨t124, A50, H⟩ := H
            replace H : (if t124 = true then (if 0 ≤ (rd l0 x8_1) then (quirks_Of.l0 k1 (Go.bits .or .u32 x3_1 (shl .u32 1 (rd l0 x8_1))) l0 (l0.length : Int) (wrap64 (x8_1 + 1))) else (none)) else (quirks_Of.l0 k1 x3_1 l0 (l0.length : Int) (wrap64 (x8_1 + 1)))) = some r := H
            have A5 := Aside0.mk A50
            clear A50
            by_cases c6 : t124 = true
            · subst c6
              have H1 : (if 0 ≤ (rd l0 x8_1) then (quirks_Of.l0 k1 (Go.bits .or .u32 x3_1 (shl .u32 1 (rd l0 x8_1))) l0 (l0.length : Int) (wrap64 (x8_1 + 1))) else (none)) = some r := by rw [if_pos rfl] at H; exact H
              clear H
              have H := H1
              clear H1
              by_cases c7 : 0 ≤ (rd l0 x8_1)
              · rw [if_pos c7] at H
                have c7b0 := eq_true c7
                have c7b1 : decide (0 ≤ (rd l0 x8_1)) = true := decide_eq_true c7
                clear c7
                obtain ⟨ji8, hji8⟩ : ∃ j_ : Int, (shl .u32 1 (rd l0 x8_1)) = j_ := ⟨_, rfl⟩
                have hji8s := (Mark.shl1_spell (rd l0 x8_1)).trans hji8
                replace H : (quirks_Of.l0 k1 (Go.bits .or .u32 x3_1 (ji8)) l0 (l0.length : Int) (wrap64 (x8_1 + 1))) = some r := by first | (rw [hji8] at H; exact H) | (simp only [hji8] at H ⊢; exact H)
                (try rw [hji8] at A5)
                have hji8_ : (IntKind.u32.wrap (1 * 2 ^ min (rd l0 x8_1).toNat 32)) = ji8 := hji8
                have hji8z : (rd l0 x8_1) ≤ 32 → (IntKind.u32.wrap (1 * 2 ^ (rd l0 x8_1).toNat)) = ji8 := shl_small hji8
                have hji8u : (IntKind.u32.wrap (2 ^ min (rd l0 x8_1).toNat 32)) = ji8 := by have h_ := hji8_; rw [Int.one_mul] at h_; exact h_
                have hji8v : (rd l0 x8_1) ≤ 32 → (IntKind.u32.wrap (2 ^ (rd l0 x8_1).toNat)) = ji8 := fun hle_ => by have h_ := hji8z hle_; rw [Int.one_mul] at h_; exact h_
                have H' := Aside0.mk H
                clear H
                have p123 : 0 ≤ (x8_1 : Int) := of_decide_eq_true (by first | (with_reducible assumption) | assumption)
                have q123 : x8_1 < (l0.length : Int) := of_decide_eq_true (by first | (with_reducible assumption) | assumption)
                obtain ⟨ad123, e123, hx123_0⟩ := Kd.at_int HR0.out x8_1 p123 q123
                cases e123
                replace p123 := eq_true p123
                replace q123 := eq_true q123
                go_wp2_with (first | ((with_reducible refine gate_callee (f := 25) rfl ?_); refine goesL_ (some 13) rfl rfl Tryd.func25 (by kernel_rfl) rfl #[.int .i64 (rd l0 x8_1)] rfl (by (try simp only [List.map_toArray, List.map_cons, List.map_nil]); first | done | rfl | (simp only [List.length_drop, List.length_take]; rfl)) ?_; (with_reducible refine (quirks_known.calls (rd l0 x8_1) true _ A5.out).mono ?_); rintro e w' ⟨rfl, ⟨nd, rfl⟩⟩; refine ⟨_, rfl, ?_⟩))
                go_roundg k1
                case measure => have := HK1.out; omega
                case rel => exact ⟨(Go.bits .or .u32 x3_1 (ji8)), (wrap64 (x8_1 + 1)), (by first | rfl | (simp; done) | (simp only [← hji8] <;> (first | rfl | simp)) | (simp [*]; done)), (by first | rfl | (simp; done) | (simp [*]; done)), H', ⟨by have := HK1.out; omega⟩, by repeat (first | exact Drawn0.refl _ | apply Drawn0.step)⟩
              · rw [if_neg c7] at H
                exact absurd H (by simp)
            · replace c6 := Bool.eq_false_iff.mpr c6
              subst c6
              have H1 : (quirks_Of.l0 k1 x3_1 l0 (l0.length : Int) (wrap64 (x8_1 + 1))) = some r := by rw [if_neg (show ¬ (false = true) by decide)] at H; exact H
              clear H
              have H := H1
              clear H1
              have H' := Aside0.mk H
              clear H
              have p123 : 0 ≤ (x8_1 : Int) := of_decide_eq_true (by first | (with_reducible assumption) | assumption)
              have q123 : x8_1 < (l0.length : Int) := of_decide_eq_true (by first | (with_reducible assumption) | assumption)
              obtain ⟨ad123, e123, hx123_0⟩ := Kd.at_int HR0.out x8_1 p123 q123
              cases e123
              replace p123 := eq_true p123
              replace q123 := eq_true q123
              go_wp2_with (first | ((with_reducible refine gate_callee (f := 25) rfl ?_); refine goesL_ (some 13) rfl rfl Tryd.func25 (by kernel_rfl) rfl #[.int .i64 (rd l0 x8_1)] rfl (by (try simp only [List.map_toArray, List.map_cons, List.map_nil]); first | done | rfl | (simp only [List.length_drop, List.length_take]; rfl)) ?_; (with_reducible refine (quirks_known.calls (rd l0 x8_1) false _ A5.out).mono ?_); rintro e w' ⟨rfl, ⟨nd, rfl⟩⟩; refine ⟨_, rfl, ?_⟩))
              go_roundg k1
              case measure => have := HK1.out; omega
              case rel => exact ⟨(x3_1), (wrap64 (x8_1 + 1)), (by first | rfl | (simp; done) | (simp [*]; done)), (by first | rfl | (simp; done) | (simp [*]; done)), H', ⟨by have := HK1.out; omega⟩, by repeat (first | exact Drawn0.refl _ | apply Drawn0.step)⟩
          · rw [if_neg c4] at H
            exact absurd H (by simp)
        · rw [if_neg c3] at H
          exact absurd H (by simp)
      · rw [if_neg c2] at H
        have c2b0 : decide (x8_1 < (l0.length : Int)) = false := decide_eq_false c2
        clear c2
        obtain rfl := Option.some.inj H
        go_wp2
        go_ret
        exact ⟨by first | rfl | (simp; done) | (simp [*]; done), by repeat (first | exact Drawn0.refl _ | apply Drawn0.step)⟩

/-! ### quirks_List: function 23 -/
def quirks_List.l0 : Nat → Int → List Int → Int → Option (List Int)
  | 0, _, _, _ => none
  | k + 1, x0, x3, x5 => if x5 < 30 then ((quirks_Has.f x0 x5).bind fun t125 => (if t125 = true then (if x3.length < 17592186044416 then (quirks_List.l0 k x0 (x3 ++ [x5]) (wrap64 (x5 + 1))) else (none)) else (quirks_List.l0 k x0 x3 (wrap64 (x5 + 1))))) else (some x3)
def quirks_List.f (k : Nat) (a0 : Int) : Option (List Int) := quirks_List.l0 k a0 ([] : List Int) 0
theorem quirks_List.mono_l : ∀ k, (∀ y0 y1 y2, LeO (quirks_List.l0 k y0 y1 y2) (quirks_List.l0 (k + 1) y0 y1 y2))
  | 0 => fun _ _ _ r h => by simp [quirks_List.l0] at h
  | k + 1 => by
    have ih0 := quirks_List.mono_l k
    · intro y0 y1 y2
      unfold quirks_List.l0
      repeat' first
      | (with_reducible exact ih0 _ _ _)
      | (with_reducible exact LeO.refl _)
      | (with_reducible exact LeO.none _)
      | (with_reducible refine LeO.ite ?_ ?_)
      | (with_reducible refine LeO.bind ?_ (fun _ => ?_))
      | exact ih0 _ _ _
      | exact LeO.none _
      | refine LeO.ite ?_ ?_
      | refine LeO.bind ?_ (fun _ => ?_)
theorem quirks_List.mono : ∀ a0 k, LeO (quirks_List.f k a0) (quirks_List.f (k + 1) a0) := by
  intro a0 k
  have ih0 := quirks_List.mono_l k
  unfold quirks_List.f
  repeat' first
      | (with_reducible exact ih0 _ _ _)
      | (with_reducible exact LeO.refl _)
      | (with_reducible exact LeO.none _)
      | (with_reducible refine LeO.ite ?_ ?_)
      | (with_reducible refine LeO.bind ?_ (fun _ => ?_))
      | exact ih0 _ _ _
      | exact LeO.none _
      | refine LeO.ite ?_ ?_
      | refine LeO.bind ?_ (fun _ => ?_)
set_option maxHeartbeats 8000000 in
set_option maxRecDepth 100000 in
theorem quirks_List.calls (k : Nat) (a0 : Int) (r : List Int) (w : World) (h : quirks_List.f k a0 = some r) :
    Calls Tryd.prog 23 #[.int .u32 a0] w fun e w' => ∃ v0_ : Value, e = .returned (v0_) ∧ Kd.R (Kd.int .i64) 3 w' w.heap.size (fun _ => True) v0_ r ∧ Below w.heap.size w w' := by
  have HB := Aside0.mk (Below.refl w.heap.size w)
  have H : (quirks_List.l0 k a0 ([] : List Int) 0) = some r := h
  clear h
  have H' := Aside0.mk H
  clear H
  go_enter Tryd.func23, Tryd.ntmps23
  go_wp2
  go_loopg [3, 5] k (fun kq v3 v5 w' => ∃ (x3_1 : List Int) (x5_1 : Int), v5 = .int .i64 x5_1 ∧ Aside0 (quirks_List.l0 kq a0 x3_1 x5_1 = some r) ∧ Aside0 (kq ≤ k) ∧ Aside0 (Kd.R (Kd.int .i64) 3 w' w.heap.size (fun _ => True) v3 x3_1) ∧ Aside0 (Below w.heap.size w w'))
  case atStart => exact ⟨(([] : List Int)), (0), (by first | rfl | (simp; done) | (simp [*]; done)), H', ⟨Nat.le_refl _⟩, ⟨by first | exact Kd.R_nil _ _ _ _ _ | exact Kd.N_nil _ _ _ _ _ | exact Kd.V_nil _ _ _ _ _ | exact Kd.Q_nil _ _ _ _ _ | exact Kd.S_nil _ _ _ _ _⟩, ⟨by repeat (first | (with_reducible first | exact HB.out | apply below_alloc | apply pw_below_drewN | apply below_drew1) | exact HB.out)⟩⟩
  case round =>
    clear H'
    obtain ⟨x3_1, x5_1, rfl, HA, HK1, HO_3, HB⟩ := hrel
    cases gk with
    | zero => exact absurd HA.out (by simp [quirks_List.l0])
    | succ k1 =>
      have H := HA.out
      clear HA
      simp only [quirks_List.l0] at H
      by_cases c2 : x5_1 < 30
      · rw [if_pos c2] at H
        have c2b0 : decide (x5_1 < 30) = true := decide_eq_true c2
        clear c2
        replace H := Option.bind_eq_some_iff.mp H
        obtain ⟨t125, A30, H⟩ := H
        replace H : (if t125 = true then (if x3_1.length < 17592186044416 then (quirks_List.l0 k1 a0 (x3_1 ++ [x5_1]) (wrap64 (x5_1 + 1))) else (none)) else (quirks_List.l0 k1 a0 x3_1 (wrap64 (x5_1 + 1)))) = some r := H
        have A3 := Aside0.mk A30
        clear A30
        by_cases c4 : t125 = true
        · subst c4
          have H1 : (if x3_1.length < 17592186044416 then (quirks_List.l0 k1 a0 (x3_1 ++ [x5_1]) (wrap64 (x5_1 + 1))) else (none)) = some r := by rw [if_pos rfl] at H; exact H
          clear H
          have H := H1
          clear H1
          by_cases c5 : x3_1.length < 17592186044416
          · rw [if_pos c5] at H
            have LMc5 := Aside0.mk c5
            clear c5
            obtain ⟨y126, hy126⟩ : ∃ y_ : List Int, y_ = (x3_1 ++ [x5_1]) := ⟨_, rfl⟩
            replace H : (quirks_List.l0 k1 a0 y126 (wrap64 (x5_1 + 1))) = some r := by first | (rw [hy126]; with_reducible exact H) | (have H2_ := (Option.bind_some _ _).symm.trans H; rw [hy126]; with_reducible exact H2_) | (have H2_ := (Option.bind_some _ _).symm.trans H; with_reducible exact H2_) | with_reducible exact H | (rw [hy126]; exact H) | exact H
            have Ny126 := Aside0.mk hy126
            clear hy126
            have H' := Aside0.mk H
            clear H
            go_wp2_with (first | ((with_reducible refine gate_callee (f := 9) rfl ?_); refine goesL_ (some 10) rfl rfl Tryd.func9 (by kernel_rfl) rfl #[.int .u32 a0, .int .i64 x5_1] rfl (by (try simp only [List.map_toArray, List.map_cons, List.map_nil]); first | done | rfl | (simp only [List.length_drop, List.length_take]; rfl)) ?_; (with_reducible refine (quirks_Has.calls a0 x5_1 true _ A3.out).mono ?_); rintro e w' ⟨rfl, ⟨nd, rfl⟩⟩; refine ⟨_, rfl, ?_⟩) | ((with_reducible refine gate_builtin (b := .append) (xs := #[.tmp 11, .tmp 13]) rfl ?_); at_builtin; refine Kd.R_append (Kd.int .i64) (w0 := w) w.heap.size rfl (.tmp 11) (.tmp 13) 23 3 (.int .i64 0) 8 rfl Tryd.underlying23 info3 rfl (by decide) (by omega) u3 x3_1 x5_1 [.int .i64 x5_1] (fun _ => True) (fun _ => False) rfl rfl ?aP (fun _ hk => hk.elim) ?aF ?aO ?aB ?aS ?aL ?_; (case aP => exact rfl); (case aB => exact (by repeat (first | (with_reducible first | exact HB.out | apply below_alloc | apply pw_below_drewN | apply below_drew1) | exact HB.out))); (case aF => exact (fun _ _ => trivial)); (case aO => exact (by (with_reducible repeat (first | apply Kd.R_alloc | apply Kd.R_drewN | apply Kd.R_drew)); exact HO_3.out)); (case aS => exact (below_size (by repeat (first | (with_reducible first | exact HB.out | apply below_alloc | apply pw_below_drewN | apply below_drew1) | exact HB.out)))); (case aL => have := LMc5.out; omega); intro v127 w6 ho hb hg hat; rw [← Ny126.out] at ho; have n0_ := Aside0.mk (hb); have n1_ := Aside0.mk (ho); clear HB; clear HO_3; have HB := n0_; have HO128 := n1_; clear n0_ n1_; clear ho hb hg hat))
            go_roundg k1
            case measure => have := HK1.out; omega
            case rel => exact ⟨(y126), (wrap64 (x5_1 + 1)), (by first | rfl | (simp; done) | (simp [*]; done)), H', ⟨by have := HK1.out; omega⟩, ⟨by (with_reducible repeat (first | apply Kd.R_alloc | apply Kd.R_drewN | apply Kd.R_drew)); exact HO128.out⟩, ⟨by repeat (first | (with_reducible first | exact HB.out | apply below_alloc | apply pw_below_drewN | apply below_drew1) | exact HB.out)⟩⟩
          · rw [if_neg c5] at H
            exact absurd H (by simp)
        · replace c4 := Bool.eq_false_iff.mpr c4
          subst c4
          have H1 : (quirks_List.l0 k1 a0 x3_1 (wrap64 (x5_1 + 1))) = some r := by rw [if_neg (show ¬ (false = true) by decide)] at H; exact H
          clear H
          have H := H1
          clear H1
          have H' := Aside0.mk H
          clear H
          go_wp2_with (first | ((with_reducible refine gate_callee (f := 9) rfl ?_); refine goesL_ (some 10) rfl rfl Tryd.func9 (by kernel_rfl) rfl #[.int .u32 a0, .int .i64 x5_1] rfl (by (try simp only [List.map_toArray, List.map_cons, List.map_nil]); first | done | rfl | (simp only [List.length_drop, List.length_take]; rfl)) ?_; (with_reducible refine (quirks_Has.calls a0 x5_1 false _ A3.out).mono ?_); rintro e w' ⟨rfl, ⟨nd, rfl⟩⟩; refine ⟨_, rfl, ?_⟩))
          go_roundg k1
          case measure => have := HK1.out; omega
          case rel => exact ⟨(x3_1), (wrap64 (x5_1 + 1)), (by first | rfl | (simp; done) | (simp [*]; done)), H', ⟨by have := HK1.out; omega⟩, ⟨by (with_reducible repeat (first | apply Kd.R_alloc | apply Kd.R_drewN | apply Kd.R_drew)); exact HO_3.out⟩, ⟨by repeat (first | (with_reducible first | exact HB.out | apply below_alloc | apply pw_below_drewN | apply below_drew1) | exact HB.out)⟩⟩
      · rw [if_neg c2] at H
        have c2b0 : decide (x5_1 < 30) = false := decide_eq_false c2
        clear c2
        obtain rfl := Option.some.inj H
        go_wp2
        go_ret
        exact ⟨_, by first | rfl | (simp [errW_none, errW_some] <;> rfl) | (simp [*, errW_none, errW_some] <;> rfl), by (with_reducible repeat (first | apply Kd.R_alloc | apply Kd.R_drewN | apply Kd.R_drew)); exact HO_3.out, by repeat (first | (with_reducible first | exact HB.out | apply below_alloc | apply pw_below_drewN | apply below_drew1) | exact HB.out)⟩

/-! ### parallaxlaw5_known: function 7 -/
def parallaxlaw5_known.f (k : Nat)  : Option (Bool) := (quirks_Find.f k (⟨#[99, 104, 117, 110, 107, 101, 110, 100]⟩ : ByteArray)).bind fun bt129 => ((quirks_Find.f k (⟨#[120]⟩ : ByteArray)).bind fun bt131 => ((quirks_Name.f 0).bind fun t133 => (if t133.toList = ([101, 109, 112, 116, 121] : List UInt8) then (if bt129.2 = true then (if bt129.1 = 29 then (if bt131.2 = true then (some false) else ((quirks_Of.f k (([0, 2, 99] : List Int))).bind fun t137 => (if t137 = 5 then ((quirks_Has.f 5 2).bind fun t138 => (if t138 = true then ((quirks_List.f k 5).bind fun t139 => (if (t139.length : Int) = 2 then ((quirks_Right.f 1073741823).bind fun t142 => (if t142 = true then ((quirks_Right.f 1073741824).bind fun t143 => (if t143 = true then (some false) else ((quirks_Needs.f k 0 1 0 0 0 0 0 0 0 0 false false).bind fun t144 => (if t144 = true then ((quirks_Needs.f k 17 0 0 0 0 0 0 0 0 0 false false).bind fun t145 => (some (!t145))) else (some false))))) else (some false))) else (some false))) else (some false))) else (some false)))) else (some false)) else (some false)) else (some false))))
theorem parallaxlaw5_known.mono : ∀ k, LeO (parallaxlaw5_known.f k ) (parallaxlaw5_known.f (k + 1) ) := by
  intro  k
  unfold parallaxlaw5_known.f
  repeat' first
      | (with_reducible exact quirks_Find.mono _ _)
      | (with_reducible exact quirks_List.mono _ _)
      | (with_reducible exact quirks_Needs.mono _ _ _ _ _ _ _ _ _ _ _ _ _)
      | (with_reducible exact quirks_Of.mono _ _)
      | (with_reducible exact LeO.refl _)
      | (with_reducible exact LeO.none _)
      | (with_reducible refine LeO.ite ?_ ?_)
      | (with_reducible refine LeO.bind ?_ (fun _ => ?_))
      | exact quirks_Find.mono _ _
      | exact quirks_List.mono _ _
      | exact quirks_Needs.mono _ _ _ _ _ _ _ _ _ _ _ _ _
      | exact quirks_Of.mono _ _
      | exact LeO.none _
      | refine LeO.ite ?_ ?_
      | refine LeO.bind ?_ (fun _ => ?_)
set_option maxHeartbeats 8000000 in
set_option maxRecDepth 100000 in
theorem parallaxlaw5_known.calls (k : Nat)  (r : Bool) (w : World) (hT : r = true) (hL : Laid.LaidX w) (h : parallaxlaw5_known.f k  = some r) :
    Calls Tryd.prog 7 #[] w fun e w' => e = .returned (.bool r) ∧ Below w.heap.size w w' := by
  have hu25 := Tryd.underlying25
  have HT := Aside0.mk hT
  clear hT
  have HB := Aside0.mk (Below.refl w.heap.size w)
  have HLX := Aside0.mk hL
  clear hL
  have H : ((quirks_Find.f k (⟨#[99, 104, 117, 110, 107, 101, 110, 100]⟩ : ByteArray)).bind fun bt129 => ((quirks_Find.f k (⟨#[120]⟩ : ByteArray)).bind fun bt131 => ((quirks_Name.f 0).bind fun t133 => (if t133.toList = ([101, 109, 112, 116, 121] : List UInt8) then (if bt129.2 = true then (if bt129.1 = 29 then (if bt131.2 = true then (some false) else ((quirks_Of.f k (([0, 2, 99] : List Int))).bind fun t137 => (if t137 = 5 then ((quirks_Has.f 5 2).bind fun t138 => (if t138 = true then ((quirks_List.f k 5).bind fun t139 => (if (t139.length : Int) = 2 then ((quirks_Right.f 1073741823).bind fun t142 => (if t142 = true then ((quirks_Right.f 1073741824).bind fun t143 => (if t143 = true then (some false) else ((quirks_Needs.f k 0 1 0 0 0 0 0 0 0 0 false false).bind fun t144 => (if t144 = true then ((quirks_Needs.f k 17 0 0 0 0 0 0 0 0 0 false false).bind fun t145 => (some (!t145))) else (some false))))) else (some false))) else (some false))) else (some false))) else (some false)))) else (some false)) else (some false)) else (some false))))) = some r := h
  clear h
  replace H := Option.bind_eq_some_iff.mp H
  obtain ⟨⟨t129, t130⟩, A10, H⟩ := H
  (try dsimp only at H)
  have A1 := Aside0.mk A10
  clear A10
  replace H := Option.bind_eq_some_iff.mp H
  obtain ⟨⟨t131, t132⟩, A20, H⟩ := H
  (try dsimp only at H)
  have A2 := Aside0.mk A20
  clear A20
  replace H := Option.bind_eq_some_iff.mp H
  obtain ⟨t133, A30, H⟩ := H
  (try dsimp only at H)
  have A3 := Aside0.mk A30
  clear A30
  by_cases c4 : t133.toList = ([101, 109, 112, 116, 121] : List UInt8)
  · rw [if_pos c4] at H
    have c4b0 : (t133.toList == ([101, 109, 112, 116, 121] : List UInt8)) = true := beq_iff_eq.mpr c4
    have c4b1 : (t133.toList != ([101, 109, 112, 116, 121] : List UInt8)) = false := bne_eq_false_iff_eq.mpr c4
    clear c4
    by_cases c5 : t130 = true
    · subst c5
      rw [if_pos rfl] at H
      by_cases c6 : t129 = 29
      · rw [if_pos c6] at H
        have c6b0 : (t129 == 29) = true := beq_iff_eq.mpr c6
        have c6b1 : (t129 != 29) = false := bne_eq_false_iff_eq.mpr c6
        clear c6
        by_cases c7 : t132 = true
        · subst c7
          rw [if_pos rfl] at H
          exact absurd ((Option.some.inj H).trans HT.out) (by decide)
        · replace c7 := Bool.eq_false_iff.mpr c7
          subst c7
          rw [if_neg (show ¬ (false = true) by decide)] at H
          obtain ⟨y134, hy134⟩ : ∃ y_ : List Int, y_ = (([0, 2, 99] : List Int)) := ⟨_, rfl⟩
          replace H : ((quirks_Of.f k y134).bind fun t137 => (if t137 = 5 then ((quirks_Has.f 5 2).bind fun t138 => (if t138 = true then ((quirks_List.f k 5).bind fun t139 => (if (t139.length : Int) = 2 then ((quirks_Right.f 1073741823).bind fun t142 => (if t142 = true then ((quirks_Right.f 1073741824).bind fun t143 => (if t143 = true then (some false) else ((quirks_Needs.f k 0 1 0 0 0 0 0 0 0 0 false false).bind fun t144 => (if t144 = true then ((quirks_Needs.f k 17 0 0 0 0 0 0 0 0 0 false false).bind fun t145 => (some (!t145))) else (some false))))) else (some false))) else (some false))) else (some false))) else (some false))) = some r := by first | (rw [hy134]; with_reducible exact H) | (have H2_ := (Option.bind_some _ _).symm.trans H; rw [hy134]; with_reducible exact H2_) | (have H2_ := (Option.bind_some _ _).symm.trans H; with_reducible exact H2_) | with_reducible exact H | (rw [hy134]; exact H) | exact H
          have Ny134 := Aside0.mk hy134
          clear hy134
          replace H := Option.bind_eq_some_iff.mp H
          obtain ⟨t137, A80, H⟩ := H
          (try dsimp only at H)
          have A8 := Aside0.mk A80
          clear A80
          by_cases c9 : t137 = 5
          · rw [if_pos c9] at H
            have c9b0 : (t137 == 5) = true := beq_iff_eq.mpr c9
            have c9b1 : (t137 != 5) = false := bne_eq_false_iff_eq.mpr c9
            clear c9
            replace H := Option.bind_eq_some_iff.mp H
            obtain ⟨t138, A100, H⟩ := H
            (try dsimp only at H)
            have A10 := Aside0.mk A100
            clear A100
            by_cases c11 : t138 = true
            · subst c11
              rw [if_pos rfl] at H
              replace H := Option.bind_eq_some_iff.mp H
              obtain ⟨t139, A120, H⟩ := H
              (try dsimp only at H)
              have A12 := Aside0.mk A120
              clear A120
              by_cases c13 : (t139.length : Int) = 2
              · rw [if_pos c13] at H
                have c13b0 : ((t139.length : Int) == 2) = true := beq_iff_eq.mpr c13
                have c13b1 : ((t139.length : Int) != 2) = false := bne_eq_false_iff_eq.mpr c13
                clear c13
                replace H := Option.bind_eq_some_iff.mp H
                obtain ⟨t142, A140, H⟩ := H
                (try dsimp only at H)
                have A14 := Aside0.mk A140
                clear A140
                by_cases c15 : t142 = true
                · subst c15
                  rw [if_pos rfl] at H
                  replace H := Option.bind_eq_some_iff.mp H
                  obtain ⟨t143, A160, H⟩ := H
                  (try dsimp only at H)
                  have A16 := Aside0.mk A160
                  clear A160
                  by_cases c17 : t143 = true
                  · subst c17
                    rw [if_pos rfl] at H
                    exact absurd ((Option.some.inj H).trans HT.out) (by decide)
                  · replace c17 := Bool.eq_false_iff.mpr c17
                    subst c17
                    rw [if_neg (show ¬ (false = true) by decide)] at H
                    replace H := Option.bind_eq_some_iff.mp H
                    obtain ⟨t144, A180, H⟩ := H
                    (try dsimp only at H)
                    have A18 := Aside0.mk A180
                    clear A180
                    by_cases c19 : t144 = true
                    · subst c19
                      rw [if_pos rfl] at H
                      replace H := Option.bind_eq_some_iff.mp H
                      obtain ⟨t145, A200, H⟩ := H
                      (try dsimp only at H)
                      have A20 := Aside0.mk A200
                      clear A200
                      obtain rfl := Option.some.inj H
                      go_enter Tryd.func7, Tryd.ntmps7
                      go_wp2_with (first | ((with_reducible refine gate_callee (f := 16) rfl ?_); refine goesL_ (some 6) rfl rfl Tryd.func16 (by kernel_rfl) rfl #[.string (⟨#[99, 104, 117, 110, 107, 101, 110, 100]⟩ : ByteArray)] rfl (by (try simp only [List.map_toArray, List.map_cons, List.map_nil]); first | done | rfl | (simp only [List.length_drop, List.length_take]; rfl)) ?_; (with_reducible refine (quirks_Find.calls k (⟨#[99, 104, 117, 110, 107, 101, 110, 100]⟩ : ByteArray) t129 true _ ?side1 A1.out).mono ?_); (case side1 => exact Laid.below HLX.out (by repeat (first | (with_reducible first | exact HB.out | apply below_alloc | apply pw_below_drewN | apply below_drew1) | exact HB.out))); rintro e w21 ⟨rfl, hb⟩; refine ⟨_, rfl, ?_⟩; have n0_ := Aside0.mk (below_step (by repeat (first | (with_reducible first | exact HB.out | apply below_alloc | apply pw_below_drewN | apply below_drew1) | exact HB.out)) hb); clear HB; have HB := n0_; clear n0_; (try clear hb); (try clear hb2); (try clear hk); (try clear hi)) | ((with_reducible refine gate_callee (f := 16) rfl ?_); refine goesL_ (some 10) rfl rfl Tryd.func16 (by kernel_rfl) rfl #[.string (⟨#[120]⟩ : ByteArray)] rfl (by (try simp only [List.map_toArray, List.map_cons, List.map_nil]); first | done | rfl | (simp only [List.length_drop, List.length_take]; rfl)) ?_; (with_reducible refine (quirks_Find.calls k (⟨#[120]⟩ : ByteArray) t131 false _ ?side1 A2.out).mono ?_); (case side1 => exact Laid.below HLX.out (by repeat (first | (with_reducible first | exact HB.out | apply below_alloc | apply pw_below_drewN | apply below_drew1) | exact HB.out))); rintro e w22 ⟨rfl, hb⟩; refine ⟨_, rfl, ?_⟩; have n0_ := Aside0.mk (below_step (by repeat (first | (with_reducible first | exact HB.out | apply below_alloc | apply pw_below_drewN | apply below_drew1) | exact HB.out)) hb); clear HB; have HB := n0_; clear n0_; (try clear hb); (try clear hb2); (try clear hk); (try clear hi)) | ((with_reducible refine gate_callee (f := 11) rfl ?_); refine goesL_ (some 13) rfl rfl Tryd.func11 (by kernel_rfl) rfl #[.int .i64 0] rfl (by (try simp only [List.map_toArray, List.map_cons, List.map_nil]); first | done | rfl | (simp only [List.length_drop, List.length_take]; rfl)) ?_; (with_reducible refine (quirks_Name.calls 0 t133 _ ?side1 A3.out).mono ?_); (case side1 => exact Laid.below HLX.out (by repeat (first | (with_reducible first | exact HB.out | apply below_alloc | apply pw_below_drewN | apply below_drew1) | exact HB.out))); rintro e w23 ⟨rfl, hb⟩; refine ⟨_, rfl, ?_⟩; have n0_ := Aside0.mk (below_step (by repeat (first | (with_reducible first | exact HB.out | apply below_alloc | apply pw_below_drewN | apply below_drew1) | exact HB.out)) hb); clear HB; have HB := n0_; clear n0_; (try clear hb); (try clear hb2); (try clear hk); (try clear hi)) | ((with_reducible refine gate_dst (N := 27) rfl ?_); (try (refine gate_guard (by rfl) ?_; dsimp only)); refine Kd.R_lit (Kd.int .i64) _ 3 ?hg (N := 27) ?hd (xs := ([0, 2, 99] : List Int)) (inner := [.int .i64 0, .int .i64 2, .int .i64 99]) (ok := fun _ => True) (okp := fun _ => True) ?hr ?hp (fun _ hk => hk) trivial (Below.refl _ _) (Nat.le_refl _) (by simp) ?_; (case hd => rfl); (case hg => rfl); (case hr => first | (go_simp; done) | (go_simp; rfl)); (case hp => exact (Reps.one (show Kd.M (Kd.int .i64) _ _ _ 0 [.int .i64 0] from rfl) (Reps.one (show Kd.M (Kd.int .i64) _ _ _ 2 [.int .i64 2] from rfl) (Reps.one (show Kd.M (Kd.int .i64) _ _ _ 99 [.int .i64 99] from rfl) (Reps.none _ _))))); intro v135 w24 ho25 hb hg_ hnew_; clear hg_ hnew_; (first | rw [← Ny134.out] at ho25 | (simp only [Int.reduceToNat] at ho25; rw [← Ny134.out] at ho25)); have n0_ := Aside0.mk (Kd.R_lower ho25 (below_size (by repeat (first | (with_reducible first | exact HB.out | apply below_alloc | apply pw_below_drewN | apply below_drew1) | exact HB.out)))); have n1_ := Aside0.mk (below_step (by repeat (first | (with_reducible first | exact HB.out | apply below_alloc | apply pw_below_drewN | apply below_drew1) | exact HB.out)) hb); clear HB; have HO136 := n0_; have HB := n1_; clear n0_ n1_; clear hb ho25; obtain ⟨Ao26, co26, eo26⟩ := Kd.R_slice HO136.out; subst eo26) | (go_at_call 20; (with_reducible refine (quirks_Of.calls k _ _ y134 t137 _ ?side1 ?side2 A8.out).mono ?_); (case side1 => repeat (first | exact (Kd.R_reads' HO136.out).2.2 | (with_reducible refine Kd.C_alloc ?_ _) | (with_reducible refine Kd.C_drewN ?_ _) | (with_reducible refine Kd.C_drew ?_))); (case side2 => exact (Kd.R_reads' HO136.out).2.1); rintro e w' ⟨rfl, ⟨nd, rfl⟩⟩) | (go_at_call 9; (with_reducible refine (quirks_Has.calls 5 2 true _ A10.out).mono ?_); rintro e w' ⟨rfl, ⟨nd, rfl⟩⟩) | (go_at_call 23; (with_reducible refine (quirks_List.calls k 5 t139 _ A12.out).mono ?_); rintro e w27 ⟨v140, rfl, ho0, hb⟩; have n0_ := Aside0.mk (Kd.R_elder' (by (with_reducible repeat (first | apply Kd.R_alloc | apply Kd.R_drewN | apply Kd.R_drew)); exact HO136.out) (Kd.R_base ho0) hb); have n1_ := Aside0.mk (Kd.R_lower (Kd.R_new' ho0 (Kd.R_lt (by (with_reducible repeat (first | apply Kd.R_alloc | apply Kd.R_drewN | apply Kd.R_drew)); exact HO136.out))) (below_size (by repeat (first | (with_reducible first | exact HB.out | apply below_alloc | apply pw_below_drewN | apply below_drew1) | exact HB.out)))); have n2_ := Aside0.mk (below_step (by repeat (first | (with_reducible first | exact HB.out | apply below_alloc | apply pw_below_drewN | apply below_drew1) | exact HB.out)) hb); clear HO136; clear HB; have HO136 := n0_; have HO141 := n1_; have HB := n2_; clear n0_ n1_ n2_; (try clear hb); (try clear hb2); (try clear hk); (try clear hi); (try clear ho0); obtain ⟨Ao28, co28, eo28⟩ := Kd.R_slice HO141.out; subst eo28) | (go_at_call 18; (with_reducible refine (quirks_Right.calls 1073741823 true _ A14.out).mono ?_); rintro e w' ⟨rfl, ⟨nd, rfl⟩⟩) | (go_at_call 18; (with_reducible refine (quirks_Right.calls 1073741824 false _ A16.out).mono ?_); rintro e w' ⟨rfl, ⟨nd, rfl⟩⟩) | (go_at_call 13; (with_reducible refine (quirks_Needs.calls k 0 1 0 0 0 0 0 0 0 0 false false true _ A18.out).mono ?_); rintro e w29 ⟨rfl, hb⟩; have n0_ := Aside0.mk (Kd.R_below (by (with_reducible repeat (first | apply Kd.R_alloc | apply Kd.R_drewN | apply Kd.R_drew)); exact HO136.out) hb); have n1_ := Aside0.mk (Kd.R_below (by (with_reducible repeat (first | apply Kd.R_alloc | apply Kd.R_drewN | apply Kd.R_drew)); exact HO141.out) hb); have n2_ := Aside0.mk (below_step (by repeat (first | (with_reducible first | exact HB.out | apply below_alloc | apply pw_below_drewN | apply below_drew1) | exact HB.out)) hb); clear HO136; clear HO141; clear HB; have HO136 := n0_; have HO141 := n1_; have HB := n2_; clear n0_ n1_ n2_; (try clear hb); (try clear hb2); (try clear hk); (try clear hi)) | (go_at_call 13; (with_reducible refine (quirks_Needs.calls k 17 0 0 0 0 0 0 0 0 0 false false t145 _ A20.out).mono ?_); rintro e w30 ⟨rfl, hb⟩; have n0_ := Aside0.mk (Kd.R_below (by (with_reducible repeat (first | apply Kd.R_alloc | apply Kd.R_drewN | apply Kd.R_drew)); exact HO136.out) hb); have n1_ := Aside0.mk (Kd.R_below (by (with_reducible repeat (first | apply Kd.R_alloc | apply Kd.R_drewN | apply Kd.R_drew)); exact HO141.out) hb); have n2_ := Aside0.mk (below_step (by repeat (first | (with_reducible first | exact HB.out | apply below_alloc | apply pw_below_drewN | apply below_drew1) | exact HB.out)) hb); clear HO136; clear HO141; clear HB; have HO136 := n0_; have HO141 := n1_; have HB := n2_; clear n0_ n1_ n2_; (try clear hb); (try clear hb2); (try clear hk); (try clear hi)) | (go_at_call 16; (with_reducible refine (quirks_Find.calls k (⟨#[99, 104, 117, 110, 107, 101, 110, 100]⟩ : ByteArray) t129 true _ ?side1 A1.out).mono ?_); (case side1 => exact Laid.below HLX.out (by repeat (first | (with_reducible first | exact HB.out | apply below_alloc | apply pw_below_drewN | apply below_drew1) | exact HB.out))); rintro e w21 ⟨rfl, hb⟩; have n0_ := Aside0.mk (below_step (by repeat (first | (with_reducible first | exact HB.out | apply below_alloc | apply pw_below_drewN | apply below_drew1) | exact HB.out)) hb); clear HB; have HB := n0_; clear n0_; (try clear hb); (try clear hb2); (try clear hk); (try clear hi)) | (go_at_call 16; (with_reducible refine (quirks_Find.calls k (⟨#[120]⟩ : ByteArray) t131 false _ ?side1 A2.out).mono ?_); (case side1 => exact Laid.below HLX.out (by repeat (first | (with_reducible first | exact HB.out | apply below_alloc | apply pw_below_drewN | apply below_drew1) | exact HB.out))); rintro e w22 ⟨rfl, hb⟩; have n0_ := Aside0.mk (below_step (by repeat (first | (with_reducible first | exact HB.out | apply below_alloc | apply pw_below_drewN | apply below_drew1) | exact HB.out)) hb); clear HB; have HB := n0_; clear n0_; (try clear hb); (try clear hb2); (try clear hk); (try clear hi)) | (go_at_call 11; (with_reducible refine (quirks_Name.calls 0 t133 _ ?side1 A3.out).mono ?_); (case side1 => exact Laid.below HLX.out (by repeat (first | (with_reducible first | exact HB.out | apply below_alloc | apply pw_below_drewN | apply below_drew1) | exact HB.out))); rintro e w23 ⟨rfl, hb⟩; have n0_ := Aside0.mk (below_step (by repeat (first | (with_reducible first | exact HB.out | apply below_alloc | apply pw_below_drewN | apply below_drew1) | exact HB.out)) hb); clear HB; have HB := n0_; clear n0_; (try clear hb); (try clear hb2); (try clear hk); (try clear hi)))
                      (try any_goals (exfalso; have h_ := ‹some undef = some (Value.bool _)›; revert h_; simp [undef]; done))
                      go_ret
                      exact ⟨by first | rfl | (simp [errW_none, errW_some] <;> rfl) | (simp [*, errW_none, errW_some] <;> rfl), by repeat (first | (with_reducible first | exact HB.out | apply below_alloc | apply pw_below_drewN | apply below_drew1) | exact HB.out)⟩
                    · replace c19 := Bool.eq_false_iff.mpr c19
                      subst c19
                      rw [if_neg (show ¬ (false = true) by decide)] at H
                      exact absurd ((Option.some.inj H).trans HT.out) (by decide)
                · replace c15 := Bool.eq_false_iff.mpr c15
                  subst c15
                  rw [if_neg (show ¬ (false = true) by decide)] at H
                  exact absurd ((Option.some.inj H).trans HT.out) (by decide)
              · rw [if_neg c13] at H
                have c13b0 : ((t139.length : Int) == 2) = false := beq_eq_false_iff_ne.mpr c13
                have c13b1 : ((t139.length : Int) != 2) = true := bne_iff_ne.mpr c13
                exact absurd ((Option.some.inj H).trans HT.out) (by decide)
            · replace c11 := Bool.eq_false_iff.mpr c11
              subst c11
              rw [if_neg (show ¬ (false = true) by decide)] at H
              exact absurd ((Option.some.inj H).trans HT.out) (by decide)
          · rw [if_neg c9] at H
            have c9b0 : (t137 == 5) = false := beq_eq_false_iff_ne.mpr c9
            have c9b1 : (t137 != 5) = true := bne_iff_ne.mpr c9
            exact absurd ((Option.some.inj H).trans HT.out) (by decide)
      · rw [if_neg c6] at H
        have c6b0 : (t129 == 29) = false := beq_eq_false_iff_ne.mpr c6
        have c6b1 : (t129 != 29) = true := bne_iff_ne.mpr c6
        exact absurd ((Option.some.inj H).trans HT.out) (by decide)
    · replace c5 := Bool.eq_false_iff.mpr c5
      subst c5
      rw [if_neg (show ¬ (false = true) by decide)] at H
      exact absurd ((Option.some.inj H).trans HT.out) (by decide)
  · rw [if_neg c4] at H
    have c4b0 : (t133.toList == ([101, 109, 112, 116, 121] : List UInt8)) = false := beq_eq_false_iff_ne.mpr c4
    have c4b1 : (t133.toList != ([101, 109, 112, 116, 121] : List UInt8)) = true := bne_iff_ne.mpr c4
    exact absurd ((Option.some.inj H).trans HT.out) (by decide)

/-! ### parallaxref4_Of: function 21 -/
def parallaxref4_Of.l0 : Nat → List Int → Int → Int → Option (Int)
  | 0, _, _, _ => none
  | k + 1, x0, x3, x4 => if x4 < (x0.length : Int) then (if 0 ≤ x4 then (if (rd x0 x4) ≥ 0 then (if (rd x0 x4) < 30 then (if 0 ≤ (rd x0 x4) then (parallaxref4_Of.l0 k x0 (Go.bits .or .u32 x3 (shl .u32 1 (rd x0 x4))) (wrap64 (x4 + 1))) else (none)) else (parallaxref4_Of.l0 k x0 x3 (wrap64 (x4 + 1)))) else (parallaxref4_Of.l0 k x0 x3 (wrap64 (x4 + 1)))) else (none)) else (some x3)
def parallaxref4_Of.f (k : Nat) (l0 : List Int) : Option (Int) := parallaxref4_Of.l0 k l0 0 0
theorem parallaxref4_Of.mono_l : ∀ k, (∀ y0 y1 y2, LeO (parallaxref4_Of.l0 k y0 y1 y2) (parallaxref4_Of.l0 (k + 1) y0 y1 y2))
  | 0 => fun _ _ _ r h => by simp [parallaxref4_Of.l0] at h
  | k + 1 => by
    have ih0 := parallaxref4_Of.mono_l k
    · intro y0 y1 y2
      unfold parallaxref4_Of.l0
      repeat' first
      | (with_reducible exact ih0 _ _ _)
      | (with_reducible exact LeO.refl _)
      | (with_reducible exact LeO.none _)
      | (with_reducible refine LeO.ite ?_ ?_)
      | (with_reducible refine LeO.bind ?_ (fun _ => ?_))
      | exact ih0 _ _ _
      | exact LeO.none _
      | refine LeO.ite ?_ ?_
      | refine LeO.bind ?_ (fun _ => ?_)
theorem parallaxref4_Of.mono : ∀ a0 k, LeO (parallaxref4_Of.f k a0) (parallaxref4_Of.f (k + 1) a0) := by
  intro a0 k
  have ih0 := parallaxref4_Of.mono_l k
  unfold parallaxref4_Of.f
  repeat' first
      | (with_reducible exact ih0 _ _ _)
      | (with_reducible exact LeO.refl _)
      | (with_reducible exact LeO.none _)
      | (with_reducible refine LeO.ite ?_ ?_)
      | (with_reducible refine LeO.bind ?_ (fun _ => ?_))
      | exact ih0 _ _ _
      | exact LeO.none _
      | refine LeO.ite ?_ ?_
      | refine LeO.bind ?_ (fun _ => ?_)
set_option maxHeartbeats 8000000 in
set_option maxRecDepth 100000 in
theorem parallaxref4_Of.calls (k : Nat) (A0 : Option Addr) (c0 : Nat) (l0 : List Int) (r : Int) (w : World) (hr0 : Kd.C (Kd.int .i64) w A0 l0.length l0) (hc0 : l0.length ≤ c0) (h : parallaxref4_Of.f k l0 = some r) :
    Calls Tryd.prog 21 #[.slice A0 l0.length c0] w fun e w' => e = .returned (.int .u32 r) ∧ Drawn0 w w' := by
  have HR0 := Aside0.mk hr0
  have HC0 := Aside0.mk hc0
  clear hr0 hc0
  have H : (parallaxref4_Of.l0 k l0 0 0) = some r := h
  clear h
  have H' := Aside0.mk H
  clear H
  go_enter Tryd.func21, Tryd.ntmps21
  go_wp2
  go_loopg [3, 4] k (fun kq v3 v4 w' => ∃ (x3_1 : Int) (x4_1 : Int), v3 = .int .u32 x3_1 ∧ v4 = .int .i64 x4_1 ∧ Aside0 (parallaxref4_Of.l0 kq l0 x3_1 x4_1 = some r) ∧ Aside0 (kq ≤ k) ∧ Drawn0 w w')
  case atStart => exact ⟨(0), (0), (by first | rfl | (simp; done) | (simp [*]; done)), (by first | rfl | (simp; done) | (simp [*]; done)), H', ⟨Nat.le_refl _⟩, by repeat (first | exact Drawn0.refl _ | apply Drawn0.step)⟩
  case round =>
    clear H'
    obtain ⟨x3_1, x4_1, rfl, rfl, HA, HK1, ⟨m1, rfl⟩⟩ := hrel
    cases gk with
    | zero => exact absurd HA.out (by simp [parallaxref4_Of.l0])
    | succ k1 =>
      have H := HA.out
      clear HA
      simp only [parallaxref4_Of.l0] at H
      by_cases c2 : x4_1 < (l0.length : Int)
      · rw [if_pos c2] at H
        have c2b0 : decide (x4_1 < (l0.length : Int)) = true := decide_eq_true c2
        clear c2
        by_cases c3 : 0 ≤ x4_1
        · rw [if_pos c3] at H
          have c3b0 : decide (0 ≤ x4_1) = true := decide_eq_true c3
          clear c3
          by_cases c4 : (rd l0 x4_1) ≥ 0
          · rw [if_pos c4] at H
            have c4b0 : decide (0 ≤ (rd l0 x4_1)) = true := decide_eq_true c4
            clear c4
            by_cases c5 : (rd l0 x4_1) < 30
            · rw [if_pos c5] at H
              have c5b0 : decide ((rd l0 x4_1) < 30) = true := decide_eq_true c5
              clear c5
              by_cases c6 : 0 ≤ (rd l0 x4_1)
              · rw [if_pos c6] at H
                have c6b0 := eq_true c6
                have c6b1 : decide (0 ≤ (rd l0 x4_1)) = true := decide_eq_true c6
                clear c6
                obtain ⟨ji7, hji7⟩ : ∃ j_ : Int, (shl .u32 1 (rd l0 x4_1)) = j_ := ⟨_, rfl⟩
                have hji7s := (Mark.shl1_spell (rd l0 x4_1)).trans hji7
                replace H : (parallaxref4_Of.l0 k1 l0 (Go.bits .or .u32 x3_1 (ji7)) (wrap64 (x4_1 + 1))) = some r := by first | (rw [hji7] at H; exact H) | (simp only [hji7] at H ⊢; exact H)
                have hji7_ : (IntKind.u32.wrap (1 * 2 ^ min (rd l0 x4_1).toNat 32)) = ji7 := hji7
                have hji7z : (rd l0 x4_1) ≤ 32 → (IntKind.u32.wrap (1 * 2 ^ (rd l0 x4_1).toNat)) = ji7 := shl_small hji7
                have hji7u : (IntKind.u32.wrap (2 ^ min (rd l0 x4_1).toNat 32)) = ji7 := by have h_ := hji7_; rw [Int.one_mul] at h_; exact h_
                have hji7v : (rd l0 x4_1) ≤ 32 → (IntKind.u32.wrap (2 ^ (rd l0 x4_1).toNat)) = ji7 := fun hle_ => by have h_ := hji7z hle_; rw [Int.one_mul] at h_; exact h_
                have H' := Aside0.mk H
                clear H
                have p146 : 0 ≤ (x4_1 : Int) := of_decide_eq_true (by first | (with_reducible assumption) | assumption)
                have q146 : x4_1 < (l0.length : Int) := of_decide_eq_true (by first | (with_reducible assumption) | assumption)
                obtain ⟨ad146, e146, hx146_0⟩ := Kd.at_int HR0.out x4_1 p146 q146
                cases e146
                replace p146 := eq_true p146
                replace q146 := eq_true q146
                have p147 : 0 ≤ (x4_1 : Int) := of_decide_eq_true (by first | (with_reducible assumption) | assumption)
                have q147 : x4_1 < (l0.length : Int) := of_decide_eq_true (by first | (with_reducible assumption) | assumption)
                obtain ⟨ad147, e147, hx147_0⟩ := Kd.at_int HR0.out x4_1 p147 q147
                obtain rfl : ad146 = ad147 := (by injection e147)
                replace p147 := eq_true p147
                replace q147 := eq_true q147
                have p148 : 0 ≤ (x4_1 : Int) := of_decide_eq_true (by first | (with_reducible assumption) | assumption)
                have q148 : x4_1 < (l0.length : Int) := of_decide_eq_true (by first | (with_reducible assumption) | assumption)
                obtain ⟨ad148, e148, hx148_0⟩ := Kd.at_int HR0.out x4_1 p148 q148
                obtain rfl : ad146 = ad148 := (by injection e148)
                replace p148 := eq_true p148
                replace q148 := eq_true q148
                go_wp2
                go_roundg k1
                case measure => have := HK1.out; omega
                case rel => exact ⟨(Go.bits .or .u32 x3_1 (ji7)), (wrap64 (x4_1 + 1)), (by first | rfl | (simp; done) | (simp only [← hji7] <;> (first | rfl | simp)) | (simp [*]; done)), (by first | rfl | (simp; done) | (simp [*]; done)), H', ⟨by have := HK1.out; omega⟩, by repeat (first | exact Drawn0.refl _ | apply Drawn0.step)⟩
              · rw [if_neg c6] at H
                exact absurd H (by simp)
            · rw [if_neg c5] at H
              have c5b0 : decide ((rd l0 x4_1) < 30) = false := decide_eq_false c5
              clear c5
              have H' := Aside0.mk H
              clear H
              have p146 : 0 ≤ (x4_1 : Int) := of_decide_eq_true (by first | (with_reducible assumption) | assumption)
              have q146 : x4_1 < (l0.length : Int) := of_decide_eq_true (by first | (with_reducible assumption) | assumption)
              obtain ⟨ad146, e146, hx146_0⟩ := Kd.at_int HR0.out x4_1 p146 q146
              cases e146
              replace p146 := eq_true p146
              replace q146 := eq_true q146
              have p147 : 0 ≤ (x4_1 : Int) := of_decide_eq_true (by first | (with_reducible assumption) | assumption)
              have q147 : x4_1 < (l0.length : Int) := of_decide_eq_true (by first | (with_reducible assumption) | assumption)
              obtain ⟨ad147, e147, hx147_0⟩ := Kd.at_int HR0.out x4_1 p147 q147
              obtain rfl : ad146 = ad147 := (by injection e147)
              replace p147 := eq_true p147
              replace q147 := eq_true q147
              go_wp2
              go_roundg k1
              case measure => have := HK1.out; omega
              case rel => exact ⟨(x3_1), (wrap64 (x4_1 + 1)), (by first | rfl | (simp; done) | (simp [*]; done)), (by first | rfl | (simp; done) | (simp [*]; done)), H', ⟨by have := HK1.out; omega⟩, by repeat (first | exact Drawn0.refl _ | apply Drawn0.step)⟩
          · rw [if_neg c4] at H
            have c4b0 : decide (0 ≤ (rd l0 x4_1)) = false := decide_eq_false c4
            clear c4
            have H' := Aside0.mk H
            clear H
            have p146 : 0 ≤ (x4_1 : Int) := of_decide_eq_true (by first | (with_reducible assumption) | assumption)
            have q146 : x4_1 < (l0.length : Int) := of_decide_eq_true (by first | (with_reducible assumption) | assumption)
            obtain ⟨ad146, e146, hx146_0⟩ := Kd.at_int HR0.out x4_1 p146 q146
            cases e146
            replace p146 := eq_true p146
            replace q146 := eq_true q146
            go_wp2
            go_roundg k1
            case measure => have := HK1.out; omega
            case rel => exact ⟨(x3_1), (wrap64 (x4_1 + 1)), (by first | rfl | (simp; done) | (simp [*]; done)), (by first | rfl | (simp; done) | (simp [*]; done)), H', ⟨by have := HK1.out; omega⟩, by repeat (first | exact Drawn0.refl _ | apply Drawn0.step)⟩
        · rw [if_neg c3] at H
          exact absurd H (by simp)
      · rw [if_neg c2] at H
        have c2b0 : decide (x4_1 < (l0.length : Int)) = false := decide_eq_false c2
        clear c2
        obtain rfl := Option.some.inj H
        go_wp2
        go_ret
        exact ⟨by first | rfl | (simp; done) | (simp [*]; done), by repeat (first | exact Drawn0.refl _ | apply Drawn0.step)⟩

/-! ### parallaxseat_Profile: function 8 -/
def parallaxseat_Profile.f (k : Nat) (a0 : Int) (a1 : Int) : Option (Int) := if (Int.tmod a1 4) = 0 then ((parallaxref4_Of.f k (([Int.tmod (wrap64 (Int.tdiv (wrap64 (a1)) 4)) 30] : List Int))).bind fun t152 => (some t152)) else (if (Int.tmod a1 4) = 1 then ((parallaxref4_Of.f k (([Int.tmod (wrap64 (Int.tdiv (wrap64 (a1)) 4)) 30, wrap64 (Int.tmod a0 30)] : List Int))).bind fun t156 => (some t156)) else (if (Int.tmod a1 4) = 2 then (some (Go.bits .and .u32 (Go.bits .and .u32 (Go.bits .and .u32 a0 1073741823) ((Go.bits .and .u32 a0 1073741823) / 128)) ((Go.bits .and .u32 a0 1073741823) / 8192))) else (some (Go.bits .and .u32 a0 1073741823))))
theorem parallaxseat_Profile.mono : ∀ a0 a1 k, LeO (parallaxseat_Profile.f k a0 a1) (parallaxseat_Profile.f (k + 1) a0 a1) := by
  intro a0 a1 k
  unfold parallaxseat_Profile.f
  repeat' first
      | (with_reducible exact parallaxref4_Of.mono _ _)
      | (with_reducible exact LeO.refl _)
      | (with_reducible exact LeO.none _)
      | (with_reducible refine LeO.ite ?_ ?_)
      | (with_reducible refine LeO.bind ?_ (fun _ => ?_))
      | exact parallaxref4_Of.mono _ _
      | exact LeO.none _
      | refine LeO.ite ?_ ?_
      | refine LeO.bind ?_ (fun _ => ?_)
set_option maxHeartbeats 8000000 in
set_option maxRecDepth 100000 in
theorem parallaxseat_Profile.calls (k : Nat) (a0 : Int) (a1 : Int) (r : Int) (w : World) (h : parallaxseat_Profile.f k a0 a1 = some r) :
    Calls Tryd.prog 8 #[.int .u32 a0, .int .u8 a1] w fun e w' => e = .returned (.int .u32 r) ∧ Below w.heap.size w w' := by
  have HB := Aside0.mk (Below.refl w.heap.size w)
  have H : (if (Int.tmod a1 4) = 0 then ((parallaxref4_Of.f k (([Int.tmod (wrap64 (Int.tdiv (wrap64 (a1)) 4)) 30] : List Int))).bind fun t152 => (some t152)) else (if (Int.tmod a1 4) = 1 then ((parallaxref4_Of.f k (([Int.tmod (wrap64 (Int.tdiv (wrap64 (a1)) 4)) 30, wrap64 (Int.tmod a0 30)] : List Int))).bind fun t156 => (some t156)) else (if (Int.tmod a1 4) = 2 then (some (Go.bits .and .u32 (Go.bits .and .u32 (Go.bits .and .u32 a0 1073741823) ((Go.bits .and .u32 a0 1073741823) / 128)) ((Go.bits .and .u32 a0 1073741823) / 8192))) else (some (Go.bits .and .u32 a0 1073741823))))) = some r := h
  clear h
  by_cases c3 : (Int.tmod a1 4) = 0
  · rw [if_pos c3] at H
    have c3b0 : ((Int.tmod a1 4) == 0) = true := beq_iff_eq.mpr c3
    have c3b1 : ((Int.tmod a1 4) != 0) = false := bne_eq_false_iff_eq.mpr c3
    clear c3
    obtain ⟨y149, hy149⟩ : ∃ y_ : List Int, y_ = (([Int.tmod (wrap64 (Int.tdiv (wrap64 (a1)) 4)) 30] : List Int)) := ⟨_, rfl⟩
    replace H : ((parallaxref4_Of.f k y149).bind fun t152 => (some t152)) = some r := by first | (rw [hy149]; with_reducible exact H) | (have H2_ := (Option.bind_some _ _).symm.trans H; rw [hy149]; with_reducible exact H2_) | (have H2_ := (Option.bind_some _ _).symm.trans H; with_reducible exact H2_) | with_reducible exact H | (rw [hy149]; exact H) | exact H
    have Ny149 := Aside0.mk hy149
    clear hy149
    replace H := Option.bind_eq_some_iff.mp H
    obtain ⟨t152, A40, H⟩ := H
    replace H : (some t152) = some r := H
    have A4 := Aside0.mk A40
    clear A40
    obtain rfl := Option.some.inj H
    go_enter Tryd.func8, Tryd.ntmps8
    go_wp2_with (first | ((with_reducible refine gate_dst (N := 16) rfl ?_); refine Kd.R_lit (Kd.int .i64) _ 3 ?hg (N := 16) ?hd (xs := ([Int.tmod (wrap64 (Int.tdiv (wrap64 (a1)) 4)) 30] : List Int)) (inner := [.int .i64 (Int.tmod (wrap64 (Int.tdiv (wrap64 (a1)) 4)) 30)]) (ok := fun _ => True) (okp := fun _ => True) ?hr ?hp (fun _ hk => hk) trivial (Below.refl _ _) (Nat.le_refl _) (by simp) ?_; (case hd => rfl); (case hg => rfl); (case hr => first | (go_simp; done) | (go_simp; rfl)); (case hp => exact (Reps.one (show Kd.M (Kd.int .i64) _ _ _ (Int.tmod (wrap64 (Int.tdiv (wrap64 (a1)) 4)) 30) [.int .i64 (Int.tmod (wrap64 (Int.tdiv (wrap64 (a1)) 4)) 30)] from rfl) (Reps.none _ _))); intro v150 w5 ho6 hb hg_ hnew_; clear hg_ hnew_; (first | rw [← Ny149.out] at ho6 | (simp only [Int.reduceToNat] at ho6; rw [← Ny149.out] at ho6)); have n0_ := Aside0.mk (Kd.R_lower ho6 (below_size (by repeat (first | (with_reducible first | exact HB.out | apply below_alloc | apply pw_below_drewN | apply below_drew1) | exact HB.out)))); have n1_ := Aside0.mk (below_step (by repeat (first | (with_reducible first | exact HB.out | apply below_alloc | apply pw_below_drewN | apply below_drew1) | exact HB.out)) hb); clear HB; have HO151 := n0_; have HB := n1_; clear n0_ n1_; clear hb ho6; obtain ⟨Ao7, co7, eo7⟩ := Kd.R_slice HO151.out; subst eo7) | ((with_reducible refine gate_callee (f := 21) rfl ?_); refine goesL_ (some 17) rfl rfl Tryd.func21 (by kernel_rfl) rfl #[.slice Ao7 y149.length co7] rfl (by (try simp only [List.map_toArray, List.map_cons, List.map_nil]); first | done | rfl | (simp only [List.length_drop, List.length_take]; rfl)) ?_; (with_reducible refine (parallaxref4_Of.calls k _ _ y149 t152 _ ?side1 ?side2 A4.out).mono ?_); (case side1 => repeat (first | exact (Kd.R_reads' HO151.out).2.2 | (with_reducible refine Kd.C_alloc ?_ _) | (with_reducible refine Kd.C_drewN ?_ _) | (with_reducible refine Kd.C_drew ?_))); (case side2 => exact (Kd.R_reads' HO151.out).2.1); rintro e w' ⟨rfl, ⟨nd, rfl⟩⟩; refine ⟨_, rfl, ?_⟩))
    go_ret
    exact ⟨by first | rfl | (simp [errW_none, errW_some] <;> rfl) | (simp [*, errW_none, errW_some] <;> rfl), by repeat (first | (with_reducible first | exact HB.out | apply below_alloc | apply pw_below_drewN | apply below_drew1) | exact HB.out)⟩
  · rw [if_neg c3] at H
    have c3b0 : ((Int.tmod a1 4) == 0) = false := beq_eq_false_iff_ne.mpr c3
    have c3b1 : ((Int.tmod a1 4) != 0) = true := bne_iff_ne.mpr c3
    by_cases c8 : (Int.tmod a1 4) = 1
    · rw [if_pos c8] at H
      have c8b0 : ((Int.tmod a1 4) == 1) = true := beq_iff_eq.mpr c8
      have c8b1 : ((Int.tmod a1 4) != 1) = false := bne_eq_false_iff_eq.mpr c8
      clear c8
      obtain ⟨y153, hy153⟩ : ∃ y_ : List Int, y_ = (([Int.tmod (wrap64 (Int.tdiv (wrap64 (a1)) 4)) 30, wrap64 (Int.tmod a0 30)] : List Int)) := ⟨_, rfl⟩
      replace H : ((parallaxref4_Of.f k y153).bind fun t156 => (some t156)) = some r := by first | (rw [hy153]; with_reducible exact H) | (have H2_ := (Option.bind_some _ _).symm.trans H; rw [hy153]; with_reducible exact H2_) | (have H2_ := (Option.bind_some _ _).symm.trans H; with_reducible exact H2_) | with_reducible exact H | (rw [hy153]; exact H) | exact H
      have Ny153 := Aside0.mk hy153
      clear hy153
      replace H := Option.bind_eq_some_iff.mp H
      obtain ⟨t156, A90, H⟩ := H
      replace H : (some t156) = some r := H
      have A9 := Aside0.mk A90
      clear A90
      obtain rfl := Option.some.inj H
      go_enter Tryd.func8, Tryd.ntmps8
      go_wp2_with (first | ((with_reducible refine gate_dst (N := 27) rfl ?_); refine Kd.R_lit (Kd.int .i64) _ 3 ?hg (N := 27) ?hd (xs := ([Int.tmod (wrap64 (Int.tdiv (wrap64 (a1)) 4)) 30, wrap64 (Int.tmod a0 30)] : List Int)) (inner := [.int .i64 (Int.tmod (wrap64 (Int.tdiv (wrap64 (a1)) 4)) 30), .int .i64 (wrap64 (Int.tmod a0 30))]) (ok := fun _ => True) (okp := fun _ => True) ?hr ?hp (fun _ hk => hk) trivial (Below.refl _ _) (Nat.le_refl _) (by simp) ?_; (case hd => rfl); (case hg => rfl); (case hr => first | (go_simp; done) | (go_simp; rfl)); (case hp => exact (Reps.one (show Kd.M (Kd.int .i64) _ _ _ (Int.tmod (wrap64 (Int.tdiv (wrap64 (a1)) 4)) 30) [.int .i64 (Int.tmod (wrap64 (Int.tdiv (wrap64 (a1)) 4)) 30)] from rfl) (Reps.one (show Kd.M (Kd.int .i64) _ _ _ (wrap64 (Int.tmod a0 30)) [.int .i64 (wrap64 (Int.tmod a0 30))] from rfl) (Reps.none _ _)))); intro v154 w10 ho11 hb hg_ hnew_; clear hg_ hnew_; (first | rw [← Ny153.out] at ho11 | (simp only [Int.reduceToNat] at ho11; rw [← Ny153.out] at ho11)); have n0_ := Aside0.mk (Kd.R_lower ho11 (below_size (by repeat (first | (with_reducible first | exact HB.out | apply below_alloc | apply pw_below_drewN | apply below_drew1) | exact HB.out)))); have n1_ := Aside0.mk (below_step (by repeat (first | (with_reducible first | exact HB.out | apply below_alloc | apply pw_below_drewN | apply below_drew1) | exact HB.out)) hb); clear HB; have HO155 := n0_; have HB := n1_; clear n0_ n1_; clear hb ho11; obtain ⟨Ao12, co12, eo12⟩ := Kd.R_slice HO155.out; subst eo12) | ((with_reducible refine gate_callee (f := 21) rfl ?_); refine goesL_ (some 28) rfl rfl Tryd.func21 (by kernel_rfl) rfl #[.slice Ao12 y153.length co12] rfl (by (try simp only [List.map_toArray, List.map_cons, List.map_nil]); first | done | rfl | (simp only [List.length_drop, List.length_take]; rfl)) ?_; (with_reducible refine (parallaxref4_Of.calls k _ _ y153 t156 _ ?side1 ?side2 A9.out).mono ?_); (case side1 => repeat (first | exact (Kd.R_reads' HO155.out).2.2 | (with_reducible refine Kd.C_alloc ?_ _) | (with_reducible refine Kd.C_drewN ?_ _) | (with_reducible refine Kd.C_drew ?_))); (case side2 => exact (Kd.R_reads' HO155.out).2.1); rintro e w' ⟨rfl, ⟨nd, rfl⟩⟩; refine ⟨_, rfl, ?_⟩))
      go_ret
      exact ⟨by first | rfl | (simp [errW_none, errW_some] <;> rfl) | (simp [*, errW_none, errW_some] <;> rfl), by repeat (first | (with_reducible first | exact HB.out | apply below_alloc | apply pw_below_drewN | apply below_drew1) | exact HB.out)⟩
    · rw [if_neg c8] at H
      have c8b0 : ((Int.tmod a1 4) == 1) = false := beq_eq_false_iff_ne.mpr c8
      have c8b1 : ((Int.tmod a1 4) != 1) = true := bne_iff_ne.mpr c8
      by_cases c13 : (Int.tmod a1 4) = 2
      · rw [if_pos c13] at H
        have c13b0 : ((Int.tmod a1 4) == 2) = true := beq_iff_eq.mpr c13
        have c13b1 : ((Int.tmod a1 4) != 2) = false := bne_eq_false_iff_eq.mpr c13
        clear c13
        obtain rfl := Option.some.inj H
        go_enter Tryd.func8, Tryd.ntmps8
        go_wp2
        go_ret
        exact ⟨by first | rfl | (simp [errW_none, errW_some] <;> rfl) | (simp [*, errW_none, errW_some] <;> rfl), by repeat (first | (with_reducible first | exact HB.out | apply below_alloc | apply pw_below_drewN | apply below_drew1) | exact HB.out)⟩
      · rw [if_neg c13] at H
        have c13b0 : ((Int.tmod a1 4) == 2) = false := beq_eq_false_iff_ne.mpr c13
        have c13b1 : ((Int.tmod a1 4) != 2) = true := bne_iff_ne.mpr c13
        obtain rfl := Option.some.inj H
        go_enter Tryd.func8, Tryd.ntmps8
        go_wp2
        go_ret
        exact ⟨by first | rfl | (simp [errW_none, errW_some] <;> rfl) | (simp [*, errW_none, errW_some] <;> rfl), by repeat (first | (with_reducible first | exact HB.out | apply below_alloc | apply pw_below_drewN | apply below_drew1) | exact HB.out)⟩

/-! ### parallaxref4_Has: function 10 -/
def parallaxref4_Has.f (a0 : Int) (a1 : Int) : Option (Bool) := if a1 ≥ 0 then (if a1 < 30 then (if 0 ≤ a1 then (some ((Go.bits .and .u32 (shr .u32 a0 a1) 1) == 1)) else (none)) else (some false)) else (some false)
set_option maxHeartbeats 8000000 in
set_option maxRecDepth 100000 in
theorem parallaxref4_Has.calls (a0 : Int) (a1 : Int) (r : Bool) (w : World) (h : parallaxref4_Has.f a0 a1 = some r) :
    Calls Tryd.prog 10 #[.int .u32 a0, .int .i64 a1] w fun e w' => e = .returned (.bool r) ∧ Drawn0 w w' := by
  have H : (if a1 ≥ 0 then (if a1 < 30 then (if 0 ≤ a1 then (some ((Go.bits .and .u32 (shr .u32 a0 a1) 1) == 1)) else (none)) else (some false)) else (some false)) = some r := h
  clear h
  by_cases c3 : a1 ≥ 0
  · rw [if_pos c3] at H
    have c3b0 : decide (0 ≤ a1) = true := decide_eq_true c3
    clear c3
    by_cases c4 : a1 < 30
    · rw [if_pos c4] at H
      have c4b0 : decide (a1 < 30) = true := decide_eq_true c4
      clear c4
      by_cases c5 : 0 ≤ a1
      · rw [if_pos c5] at H
        have c5b0 := eq_true c5
        have c5b1 : decide (0 ≤ a1) = true := decide_eq_true c5
        clear c5
        obtain ⟨ji6, hji6⟩ : ∃ j_ : Int, (shr .u32 a0 a1) = j_ := ⟨_, rfl⟩
        replace H : (some ((Go.bits .and .u32 (ji6) 1) == 1)) = some r := by first | (rw [hji6] at H; exact H) | (simp only [hji6] at H ⊢; exact H)
        have hji6_ : (a0 / 2 ^ min a1.toNat 32) = ji6 := hji6
        have hji6z : a1 ≤ 32 → (a0 / 2 ^ a1.toNat) = ji6 := shr_small hji6
        obtain rfl := Option.some.inj H
        go_enter Tryd.func10, Tryd.ntmps10
        go_wp2
        go_ret
        exact ⟨by first | rfl | (simp; done) | (simp only [← hji6] <;> (first | rfl | simp)) | (simp [*]; done), by repeat (first | exact Drawn0.refl _ | apply Drawn0.step)⟩
      · rw [if_neg c5] at H
        exact absurd H (by simp)
    · rw [if_neg c4] at H
      have c4b0 : decide (a1 < 30) = false := decide_eq_false c4
      clear c4
      obtain rfl := Option.some.inj H
      go_enter Tryd.func10, Tryd.ntmps10
      go_wp2
      go_ret
      exact ⟨by first | rfl | (simp; done) | (simp [*]; done), by repeat (first | exact Drawn0.refl _ | apply Drawn0.step)⟩
  · rw [if_neg c3] at H
    have c3b0 : decide (0 ≤ a1) = false := decide_eq_false c3
    clear c3
    obtain rfl := Option.some.inj H
    go_enter Tryd.func10, Tryd.ntmps10
    go_wp2
    go_ret
    exact ⟨by first | rfl | (simp; done) | (simp [*]; done), by repeat (first | exact Drawn0.refl _ | apply Drawn0.step)⟩

/-! ### parallaxref4_names: function 27 -/
def parallaxref4_names.f  : Option (List ByteArray) := some (([(⟨#[101, 109, 112, 116, 121]⟩ : ByteArray), (⟨#[98, 97, 114, 101, 108, 102]⟩ : ByteArray), (⟨#[98, 97, 114, 101, 99, 114]⟩ : ByteArray), (⟨#[98, 108, 97, 110, 107, 115]⟩ : ByteArray), (⟨#[109, 105, 110, 111, 114]⟩ : ByteArray), (⟨#[97, 110, 121, 99, 97, 115, 101]⟩ : ByteArray), (⟨#[110, 111, 118, 101, 114, 115, 105, 111, 110]⟩ : ByteArray), (⟨#[115, 112, 97, 99, 101, 115]⟩ : ByteArray), (⟨#[99, 111, 110, 116, 114, 111, 108, 115]⟩ : ByteArray), (⟨#[99, 111, 108, 111, 110, 115, 112, 97, 99, 101]⟩ : ByteArray), (⟨#[110, 97, 109, 101, 98, 121, 116, 101, 115]⟩ : ByteArray), (⟨#[110, 111, 99, 111, 108, 111, 110]⟩ : ByteArray), (⟨#[110, 111, 110, 97, 109, 101]⟩ : ByteArray), (⟨#[102, 111, 108, 100]⟩ : ByteArray), (⟨#[118, 97, 108, 117, 101, 98, 121, 116, 101, 115]⟩ : ByteArray), (⟨#[110, 111, 104, 111, 115, 116]⟩ : ByteArray), (⟨#[109, 97, 110, 121, 104, 111, 115, 116, 115]⟩ : ByteArray), (⟨#[116, 101, 98, 108, 97, 110, 107, 115]⟩ : ByteArray), (⟨#[116, 101, 108, 105, 115, 116]⟩ : ByteArray), (⟨#[116, 101, 105, 103, 110, 111, 114, 101]⟩ : ByteArray), (⟨#[116, 101, 111, 108, 100]⟩ : ByteArray), (⟨#[116, 101, 119, 105, 110, 115]⟩ : ByteArray), (⟨#[99, 108, 119, 105, 110, 115]⟩ : ByteArray), (⟨#[99, 108, 112, 108, 117, 115]⟩ : ByteArray), (⟨#[99, 108, 99, 111, 109, 109, 97]⟩ : ByteArray), (⟨#[99, 108, 102, 105, 114, 115, 116]⟩ : ByteArray), (⟨#[99, 108, 108, 97, 115, 116]⟩ : ByteArray), (⟨#[99, 104, 117, 110, 107, 104, 101, 120]⟩ : ByteArray), (⟨#[99, 104, 117, 110, 107, 98, 108, 97, 110, 107, 115]⟩ : ByteArray), (⟨#[99, 104, 117, 110, 107, 101, 110, 100]⟩ : ByteArray)] : List ByteArray))
set_option maxHeartbeats 8000000 in
set_option maxRecDepth 100000 in
theorem parallaxref4_names.calls  (r : List ByteArray) (w : World) (h : parallaxref4_names.f  = some r) :
    Calls Tryd.prog 27 #[] w fun e w' => ∃ v0_ : Value, e = .returned (v0_) ∧ Kd.R Kd.string 9 w' w.heap.size (fun _ => True) v0_ r ∧ Below w.heap.size w w' := by
  have HB := Aside0.mk (Below.refl w.heap.size w)
  have H : (some (([(⟨#[101, 109, 112, 116, 121]⟩ : ByteArray), (⟨#[98, 97, 114, 101, 108, 102]⟩ : ByteArray), (⟨#[98, 97, 114, 101, 99, 114]⟩ : ByteArray), (⟨#[98, 108, 97, 110, 107, 115]⟩ : ByteArray), (⟨#[109, 105, 110, 111, 114]⟩ : ByteArray), (⟨#[97, 110, 121, 99, 97, 115, 101]⟩ : ByteArray), (⟨#[110, 111, 118, 101, 114, 115, 105, 111, 110]⟩ : ByteArray), (⟨#[115, 112, 97, 99, 101, 115]⟩ : ByteArray), (⟨#[99, 111, 110, 116, 114, 111, 108, 115]⟩ : ByteArray), (⟨#[99, 111, 108, 111, 110, 115, 112, 97, 99, 101]⟩ : ByteArray), (⟨#[110, 97, 109, 101, 98, 121, 116, 101, 115]⟩ : ByteArray), (⟨#[110, 111, 99, 111, 108, 111, 110]⟩ : ByteArray), (⟨#[110, 111, 110, 97, 109, 101]⟩ : ByteArray), (⟨#[102, 111, 108, 100]⟩ : ByteArray), (⟨#[118, 97, 108, 117, 101, 98, 121, 116, 101, 115]⟩ : ByteArray), (⟨#[110, 111, 104, 111, 115, 116]⟩ : ByteArray), (⟨#[109, 97, 110, 121, 104, 111, 115, 116, 115]⟩ : ByteArray), (⟨#[116, 101, 98, 108, 97, 110, 107, 115]⟩ : ByteArray), (⟨#[116, 101, 108, 105, 115, 116]⟩ : ByteArray), (⟨#[116, 101, 105, 103, 110, 111, 114, 101]⟩ : ByteArray), (⟨#[116, 101, 111, 108, 100]⟩ : ByteArray), (⟨#[116, 101, 119, 105, 110, 115]⟩ : ByteArray), (⟨#[99, 108, 119, 105, 110, 115]⟩ : ByteArray), (⟨#[99, 108, 112, 108, 117, 115]⟩ : ByteArray), (⟨#[99, 108, 99, 111, 109, 109, 97]⟩ : ByteArray), (⟨#[99, 108, 102, 105, 114, 115, 116]⟩ : ByteArray), (⟨#[99, 108, 108, 97, 115, 116]⟩ : ByteArray), (⟨#[99, 104, 117, 110, 107, 104, 101, 120]⟩ : ByteArray), (⟨#[99, 104, 117, 110, 107, 98, 108, 97, 110, 107, 115]⟩ : ByteArray), (⟨#[99, 104, 117, 110, 107, 101, 110, 100]⟩ : ByteArray)] : List ByteArray))) = some r := h
  clear h
  obtain ⟨y157, hy157⟩ : ∃ y_ : List ByteArray, y_ = (([(⟨#[101, 109, 112, 116, 121]⟩ : ByteArray), (⟨#[98, 97, 114, 101, 108, 102]⟩ : ByteArray), (⟨#[98, 97, 114, 101, 99, 114]⟩ : ByteArray), (⟨#[98, 108, 97, 110, 107, 115]⟩ : ByteArray), (⟨#[109, 105, 110, 111, 114]⟩ : ByteArray), (⟨#[97, 110, 121, 99, 97, 115, 101]⟩ : ByteArray), (⟨#[110, 111, 118, 101, 114, 115, 105, 111, 110]⟩ : ByteArray), (⟨#[115, 112, 97, 99, 101, 115]⟩ : ByteArray), (⟨#[99, 111, 110, 116, 114, 111, 108, 115]⟩ : ByteArray), (⟨#[99, 111, 108, 111, 110, 115, 112, 97, 99, 101]⟩ : ByteArray), (⟨#[110, 97, 109, 101, 98, 121, 116, 101, 115]⟩ : ByteArray), (⟨#[110, 111, 99, 111, 108, 111, 110]⟩ : ByteArray), (⟨#[110, 111, 110, 97, 109, 101]⟩ : ByteArray), (⟨#[102, 111, 108, 100]⟩ : ByteArray), (⟨#[118, 97, 108, 117, 101, 98, 121, 116, 101, 115]⟩ : ByteArray), (⟨#[110, 111, 104, 111, 115, 116]⟩ : ByteArray), (⟨#[109, 97, 110, 121, 104, 111, 115, 116, 115]⟩ : ByteArray), (⟨#[116, 101, 98, 108, 97, 110, 107, 115]⟩ : ByteArray), (⟨#[116, 101, 108, 105, 115, 116]⟩ : ByteArray), (⟨#[116, 101, 105, 103, 110, 111, 114, 101]⟩ : ByteArray), (⟨#[116, 101, 111, 108, 100]⟩ : ByteArray), (⟨#[116, 101, 119, 105, 110, 115]⟩ : ByteArray), (⟨#[99, 108, 119, 105, 110, 115]⟩ : ByteArray), (⟨#[99, 108, 112, 108, 117, 115]⟩ : ByteArray), (⟨#[99, 108, 99, 111, 109, 109, 97]⟩ : ByteArray), (⟨#[99, 108, 102, 105, 114, 115, 116]⟩ : ByteArray), (⟨#[99, 108, 108, 97, 115, 116]⟩ : ByteArray), (⟨#[99, 104, 117, 110, 107, 104, 101, 120]⟩ : ByteArray), (⟨#[99, 104, 117, 110, 107, 98, 108, 97, 110, 107, 115]⟩ : ByteArray), (⟨#[99, 104, 117, 110, 107, 101, 110, 100]⟩ : ByteArray)] : List ByteArray)) := ⟨_, rfl⟩
  replace H : (some y157) = some r := by first | (rw [hy157]; with_reducible exact H) | (have H2_ := (Option.bind_some _ _).symm.trans H; rw [hy157]; with_reducible exact H2_) | (have H2_ := (Option.bind_some _ _).symm.trans H; with_reducible exact H2_) | with_reducible exact H | (rw [hy157]; exact H) | exact H
  have Ny157 := Aside0.mk hy157
  clear hy157
  obtain rfl := Option.some.inj H
  go_enter Tryd.func27, Tryd.ntmps27
  go_wp2_with (first | ((with_reducible refine gate_dst (N := 1) rfl ?_); refine Kd.R_lit Kd.string _ 9 ?hg (N := 1) ?hd (xs := ([(⟨#[101, 109, 112, 116, 121]⟩ : ByteArray), (⟨#[98, 97, 114, 101, 108, 102]⟩ : ByteArray), (⟨#[98, 97, 114, 101, 99, 114]⟩ : ByteArray), (⟨#[98, 108, 97, 110, 107, 115]⟩ : ByteArray), (⟨#[109, 105, 110, 111, 114]⟩ : ByteArray), (⟨#[97, 110, 121, 99, 97, 115, 101]⟩ : ByteArray), (⟨#[110, 111, 118, 101, 114, 115, 105, 111, 110]⟩ : ByteArray), (⟨#[115, 112, 97, 99, 101, 115]⟩ : ByteArray), (⟨#[99, 111, 110, 116, 114, 111, 108, 115]⟩ : ByteArray), (⟨#[99, 111, 108, 111, 110, 115, 112, 97, 99, 101]⟩ : ByteArray), (⟨#[110, 97, 109, 101, 98, 121, 116, 101, 115]⟩ : ByteArray), (⟨#[110, 111, 99, 111, 108, 111, 110]⟩ : ByteArray), (⟨#[110, 111, 110, 97, 109, 101]⟩ : ByteArray), (⟨#[102, 111, 108, 100]⟩ : ByteArray), (⟨#[118, 97, 108, 117, 101, 98, 121, 116, 101, 115]⟩ : ByteArray), (⟨#[110, 111, 104, 111, 115, 116]⟩ : ByteArray), (⟨#[109, 97, 110, 121, 104, 111, 115, 116, 115]⟩ : ByteArray), (⟨#[116, 101, 98, 108, 97, 110, 107, 115]⟩ : ByteArray), (⟨#[116, 101, 108, 105, 115, 116]⟩ : ByteArray), (⟨#[116, 101, 105, 103, 110, 111, 114, 101]⟩ : ByteArray), (⟨#[116, 101, 111, 108, 100]⟩ : ByteArray), (⟨#[116, 101, 119, 105, 110, 115]⟩ : ByteArray), (⟨#[99, 108, 119, 105, 110, 115]⟩ : ByteArray), (⟨#[99, 108, 112, 108, 117, 115]⟩ : ByteArray), (⟨#[99, 108, 99, 111, 109, 109, 97]⟩ : ByteArray), (⟨#[99, 108, 102, 105, 114, 115, 116]⟩ : ByteArray), (⟨#[99, 108, 108, 97, 115, 116]⟩ : ByteArray), (⟨#[99, 104, 117, 110, 107, 104, 101, 120]⟩ : ByteArray), (⟨#[99, 104, 117, 110, 107, 98, 108, 97, 110, 107, 115]⟩ : ByteArray), (⟨#[99, 104, 117, 110, 107, 101, 110, 100]⟩ : ByteArray)] : List ByteArray)) (inner := [.string (⟨#[101, 109, 112, 116, 121]⟩ : ByteArray), .string (⟨#[98, 97, 114, 101, 108, 102]⟩ : ByteArray), .string (⟨#[98, 97, 114, 101, 99, 114]⟩ : ByteArray), .string (⟨#[98, 108, 97, 110, 107, 115]⟩ : ByteArray), .string (⟨#[109, 105, 110, 111, 114]⟩ : ByteArray), .string (⟨#[97, 110, 121, 99, 97, 115, 101]⟩ : ByteArray), .string (⟨#[110, 111, 118, 101, 114, 115, 105, 111, 110]⟩ : ByteArray), .string (⟨#[115, 112, 97, 99, 101, 115]⟩ : ByteArray), .string (⟨#[99, 111, 110, 116, 114, 111, 108, 115]⟩ : ByteArray), .string (⟨#[99, 111, 108, 111, 110, 115, 112, 97, 99, 101]⟩ : ByteArray), .string (⟨#[110, 97, 109, 101, 98, 121, 116, 101, 115]⟩ : ByteArray), .string (⟨#[110, 111, 99, 111, 108, 111, 110]⟩ : ByteArray), .string (⟨#[110, 111, 110, 97, 109, 101]⟩ : ByteArray), .string (⟨#[102, 111, 108, 100]⟩ : ByteArray), .string (⟨#[118, 97, 108, 117, 101, 98, 121, 116, 101, 115]⟩ : ByteArray), .string (⟨#[110, 111, 104, 111, 115, 116]⟩ : ByteArray), .string (⟨#[109, 97, 110, 121, 104, 111, 115, 116, 115]⟩ : ByteArray), .string (⟨#[116, 101, 98, 108, 97, 110, 107, 115]⟩ : ByteArray), .string (⟨#[116, 101, 108, 105, 115, 116]⟩ : ByteArray), .string (⟨#[116, 101, 105, 103, 110, 111, 114, 101]⟩ : ByteArray), .string (⟨#[116, 101, 111, 108, 100]⟩ : ByteArray), .string (⟨#[116, 101, 119, 105, 110, 115]⟩ : ByteArray), .string (⟨#[99, 108, 119, 105, 110, 115]⟩ : ByteArray), .string (⟨#[99, 108, 112, 108, 117, 115]⟩ : ByteArray), .string (⟨#[99, 108, 99, 111, 109, 109, 97]⟩ : ByteArray), .string (⟨#[99, 108, 102, 105, 114, 115, 116]⟩ : ByteArray), .string (⟨#[99, 108, 108, 97, 115, 116]⟩ : ByteArray), .string (⟨#[99, 104, 117, 110, 107, 104, 101, 120]⟩ : ByteArray), .string (⟨#[99, 104, 117, 110, 107, 98, 108, 97, 110, 107, 115]⟩ : ByteArray), .string (⟨#[99, 104, 117, 110, 107, 101, 110, 100]⟩ : ByteArray)]) (ok := fun _ => True) (okp := fun _ => True) ?hr ?hp (fun _ hk => hk) trivial (Below.refl _ _) (Nat.le_refl _) (by simp) ?_; (case hd => rfl); (case hg => rfl); (case hr => first | (go_simp; done) | (go_simp; rfl)); (case hp => exact (Reps.one (show Kd.M Kd.string _ _ _ (⟨#[101, 109, 112, 116, 121]⟩ : ByteArray) [.string (⟨#[101, 109, 112, 116, 121]⟩ : ByteArray)] from rfl) (Reps.one (show Kd.M Kd.string _ _ _ (⟨#[98, 97, 114, 101, 108, 102]⟩ : ByteArray) [.string (⟨#[98, 97, 114, 101, 108, 102]⟩ : ByteArray)] from rfl) (Reps.one (show Kd.M Kd.string _ _ _ (⟨#[98, 97, 114, 101, 99, 114]⟩ : ByteArray) [.string (⟨#[98, 97, 114, 101, 99, 114]⟩ : ByteArray)] from rfl) (Reps.one (show Kd.M Kd.string _ _ _ (⟨#[98, 108, 97, 110, 107, 115]⟩ : ByteArray) [.string (⟨#[98, 108, 97, 110, 107, 115]⟩ : ByteArray)] from rfl) (Reps.one (show Kd.M Kd.string _ _ _ (⟨#[109, 105, 110, 111, 114]⟩ : ByteArray) [.string (⟨#[109, 105, 110, 111, 114]⟩ : ByteArray)] from rfl) (Reps.one (show Kd.M Kd.string _ _ _ (⟨#[97, 110, 121, 99, 97, 115, 101]⟩ : ByteArray) [.string (⟨#[97, 110, 121, 99, 97, 115, 101]⟩ : ByteArray)] from rfl) (Reps.one (show Kd.M Kd.string _ _ _ (⟨#[110, 111, 118, 101, 114, 115, 105, 111, 110]⟩ : ByteArray) [.string (⟨#[110, 111, 118, 101, 114, 115, 105, 111, 110]⟩ : ByteArray)] from rfl) (Reps.one (show Kd.M Kd.string _ _ _ (⟨#[115, 112, 97, 99, 101, 115]⟩ : ByteArray) [.string (⟨#[115, 112, 97, 99, 101, 115]⟩ : ByteArray)] from rfl) (Reps.one (show Kd.M Kd.string _ _ _ (⟨#[99, 111, 110, 116, 114, 111, 108, 115]⟩ : ByteArray) [.string (⟨#[99, 111, 110, 116, 114, 111, 108, 115]⟩ : ByteArray)] from rfl) (Reps.one (show Kd.M Kd.string _ _ _ (⟨#[99, 111, 108, 111, 110, 115, 112, 97, 99, 101]⟩ : ByteArray) [.string (⟨#[99, 111, 108, 111, 110, 115, 112, 97, 99, 101]⟩ : ByteArray)] from rfl) (Reps.one (show Kd.M Kd.string _ _ _ (⟨#[110, 97, 109, 101, 98, 121, 116, 101, 115]⟩ : ByteArray) [.string (⟨#[110, 97, 109, 101, 98, 121, 116, 101, 115]⟩ : ByteArray)] from rfl) (Reps.one (show Kd.M Kd.string _ _ _ (⟨#[110, 111, 99, 111, 108, 111, 110]⟩ : ByteArray) [.string (⟨#[110, 111, 99, 111, 108, 111, 110]⟩ : ByteArray)] from rfl) (Reps.one (show Kd.M Kd.string _ _ _ (⟨#[110, 111, 110, 97, 109, 101]⟩ : ByteArray) [.string (⟨#[110, 111, 110, 97, 109, 101]⟩ : ByteArray)] from rfl) (Reps.one (show Kd.M Kd.string _ _ _ (⟨#[102, 111, 108, 100]⟩ : ByteArray) [.string (⟨#[102, 111, 108, 100]⟩ : ByteArray)] from rfl) (Reps.one (show Kd.M Kd.string _ _ _ (⟨#[118, 97, 108, 117, 101, 98, 121, 116, 101, 115]⟩ : ByteArray) [.string (⟨#[118, 97, 108, 117, 101, 98, 121, 116, 101, 115]⟩ : ByteArray)] from rfl) (Reps.one (show Kd.M Kd.string _ _ _ (⟨#[110, 111, 104, 111, 115, 116]⟩ : ByteArray) [.string (⟨#[110, 111, 104, 111, 115, 116]⟩ : ByteArray)] from rfl) (Reps.one (show Kd.M Kd.string _ _ _ (⟨#[109, 97, 110, 121, 104, 111, 115, 116, 115]⟩ : ByteArray) [.string (⟨#[109, 97, 110, 121, 104, 111, 115, 116, 115]⟩ : ByteArray)] from rfl) (Reps.one (show Kd.M Kd.string _ _ _ (⟨#[116, 101, 98, 108, 97, 110, 107, 115]⟩ : ByteArray) [.string (⟨#[116, 101, 98, 108, 97, 110, 107, 115]⟩ : ByteArray)] from rfl) (Reps.one (show Kd.M Kd.string _ _ _ (⟨#[116, 101, 108, 105, 115, 116]⟩ : ByteArray) [.string (⟨#[116, 101, 108, 105, 115, 116]⟩ : ByteArray)] from rfl) (Reps.one (show Kd.M Kd.string _ _ _ (⟨#[116, 101, 105, 103, 110, 111, 114, 101]⟩ : ByteArray) [.string (⟨#[116, 101, 105, 103, 110, 111, 114, 101]⟩ : ByteArray)] from rfl) (Reps.one (show Kd.M Kd.string _ _ _ (⟨#[116, 101, 111, 108, 100]⟩ : ByteArray) [.string (⟨#[116, 101, 111, 108, 100]⟩ : ByteArray)] from rfl) (Reps.one (show Kd.M Kd.string _ _ _ (⟨#[116, 101, 119, 105, 110, 115]⟩ : ByteArray) [.string (⟨#[116, 101, 119, 105, 110, 115]⟩ : ByteArray)] from rfl) (Reps.one (show Kd.M Kd.string _ _ _ (⟨#[99, 108, 119, 105, 110, 115]⟩ : ByteArray) [.string (⟨#[99, 108, 119, 105, 110, 115]⟩ : ByteArray)] from rfl) (Reps.one (show Kd.M Kd.string _ _ _ (⟨#[99, 108, 112, 108, 117, 115]⟩ : ByteArray) [.string (⟨#[99, 108, 112, 108, 117, 115]⟩ : ByteArray)] from rfl) (Reps.one (show Kd.M Kd.string _ _ _ (⟨#[99, 108, 99, 111, 109, 109, 97]⟩ : ByteArray) [.string (⟨#[99, 108, 99, 111, 109, 109, 97]⟩ : ByteArray)] from rfl) (Reps.one (show Kd.M Kd.string _ _ _ (⟨#[99, 108, 102, 105, 114, 115, 116]⟩ : ByteArray) [.string (⟨#[99, 108, 102, 105, 114, 115, 116]⟩ : ByteArray)] from rfl) (Reps.one (show Kd.M Kd.string _ _ _ (⟨#[99, 108, 108, 97, 115, 116]⟩ : ByteArray) [.string (⟨#[99, 108, 108, 97, 115, 116]⟩ : ByteArray)] from rfl) (Reps.one (show Kd.M Kd.string _ _ _ (⟨#[99, 104, 117, 110, 107, 104, 101, 120]⟩ : ByteArray) [.string (⟨#[99, 104, 117, 110, 107, 104, 101, 120]⟩ : ByteArray)] from rfl) (Reps.one (show Kd.M Kd.string _ _ _ (⟨#[99, 104, 117, 110, 107, 98, 108, 97, 110, 107, 115]⟩ : ByteArray) [.string (⟨#[99, 104, 117, 110, 107, 98, 108, 97, 110, 107, 115]⟩ : ByteArray)] from rfl) (Reps.one (show Kd.M Kd.string _ _ _ (⟨#[99, 104, 117, 110, 107, 101, 110, 100]⟩ : ByteArray) [.string (⟨#[99, 104, 117, 110, 107, 101, 110, 100]⟩ : ByteArray)] from rfl) (Reps.none _ _)))))))))))))))))))))))))))))))); intro v158 w1 ho2 hb hg_ hnew_; clear hg_ hnew_; (first | rw [← Ny157.out] at ho2 | (simp only [Int.reduceToNat] at ho2; rw [← Ny157.out] at ho2)); have n0_ := Aside0.mk (Kd.R_lower ho2 (below_size (by repeat (first | (with_reducible first | exact HB.out | apply below_alloc | apply pw_below_drewN | apply below_drew1) | exact HB.out)))); have n1_ := Aside0.mk (below_step (by repeat (first | (with_reducible first | exact HB.out | apply below_alloc | apply pw_below_drewN | apply below_drew1) | exact HB.out)) hb); clear HB; have HO159 := n0_; have HB := n1_; clear n0_ n1_; clear hb ho2))
  go_ret
  exact ⟨_, by first | rfl | (simp [errW_none, errW_some] <;> rfl) | (simp [*, errW_none, errW_some] <;> rfl), by (with_reducible repeat (first | apply Kd.R_alloc | apply Kd.R_drewN | apply Kd.R_drew)); exact HO159.out, by repeat (first | (with_reducible first | exact HB.out | apply below_alloc | apply pw_below_drewN | apply below_drew1) | exact HB.out)⟩

/-! ### parallaxref4_Name: function 12 -/
def parallaxref4_Name.f (a0 : Int) : Option (ByteArray) := if a0 < 0 then (some (⟨#[]⟩ : ByteArray)) else (if a0 ≥ 30 then (some (⟨#[]⟩ : ByteArray)) else ((parallaxref4_names.f).bind fun t160 => (if 0 ≤ a0 then (if a0 < (t160.length : Int) then (some (rdOf ByteArray.empty t160 a0)) else (none)) else (none))))
set_option maxHeartbeats 8000000 in
set_option maxRecDepth 100000 in
theorem parallaxref4_Name.calls (a0 : Int) (r : ByteArray) (w : World) (h : parallaxref4_Name.f a0 = some r) :
    Calls Tryd.prog 12 #[.int .i64 a0] w fun e w' => e = .returned (.string r) ∧ Below w.heap.size w w' := by
  have HB := Aside0.mk (Below.refl w.heap.size w)
  have H : (if a0 < 0 then (some (⟨#[]⟩ : ByteArray)) else (if a0 ≥ 30 then (some (⟨#[]⟩ : ByteArray)) else ((parallaxref4_names.f).bind fun t160 => (if 0 ≤ a0 then (if a0 < (t160.length : Int) then (some (rdOf ByteArray.empty t160 a0)) else (none)) else (none))))) = some r := h
  clear h
  by_cases c2 : a0 < 0
  · rw [if_pos c2] at H
    have c2b0 : decide (a0 < 0) = true := decide_eq_true c2
    clear c2
    obtain rfl := Option.some.inj H
    go_enter Tryd.func12, Tryd.ntmps12
    go_wp2
    go_ret
    exact ⟨by first | rfl | (simp [errW_none, errW_some] <;> rfl) | (simp [*, errW_none, errW_some] <;> rfl), by repeat (first | (with_reducible first | exact HB.out | apply below_alloc | apply pw_below_drewN | apply below_drew1) | exact HB.out)⟩
  · rw [if_neg c2] at H
    have c2b0 : decide (a0 < 0) = false := decide_eq_false c2
    clear c2
    by_cases c3 : a0 ≥ 30
    · rw [if_pos c3] at H
      have c3b0 : decide (30 ≤ a0) = true := decide_eq_true c3
      clear c3
      obtain rfl := Option.some.inj H
      go_enter Tryd.func12, Tryd.ntmps12
      go_wp2
      go_ret
      exact ⟨by first | rfl | (simp [errW_none, errW_some] <;> rfl) | (simp [*, errW_none, errW_some] <;> rfl), by repeat (first | (with_reducible first | exact HB.out | apply below_alloc | apply pw_below_drewN | apply below_drew1) | exact HB.out)⟩
    · rw [if_neg c3] at H
      have c3b0 : decide (30 ≤ a0) = false := decide_eq_false c3
      clear c3
      replace H := Option.bind_eq_some_iff.mp H
      obtain ⟨t160, A40, H⟩ := H
      replace H : (if 0 ≤ a0 then (if a0 < (t160.length : Int) then (some (rdOf ByteArray.empty t160 a0)) else (none)) else (none)) = some r := H
      have A4 := Aside0.mk A40
      clear A40
      by_cases c5 : 0 ≤ a0
      · rw [if_pos c5] at H
        have c5b0 : decide (0 ≤ a0) = true := decide_eq_true c5
        clear c5
        by_cases c6 : a0 < (t160.length : Int)
        · rw [if_pos c6] at H
          have c6b0 : decide (a0 < (t160.length : Int)) = true := decide_eq_true c6
          clear c6
          obtain rfl := Option.some.inj H
          go_enter Tryd.func12, Tryd.ntmps12
          go_wp2_with (first | ((with_reducible refine gate_callee (f := 27) rfl ?_); refine goesL_ (some 9) rfl rfl Tryd.func27 (by kernel_rfl) rfl #[] rfl (by (try simp only [List.map_toArray, List.map_cons, List.map_nil]); first | done | rfl | (simp only [List.length_drop, List.length_take]; rfl)) ?_; (with_reducible refine (parallaxref4_names.calls  t160 _ A4.out).mono ?_); rintro e w7 ⟨v161, rfl, ho0, hb⟩; refine ⟨_, rfl, ?_⟩; have n0_ := Aside0.mk (Kd.R_lower ho0 (below_size (by repeat (first | (with_reducible first | exact HB.out | apply below_alloc | apply pw_below_drewN | apply below_drew1) | exact HB.out)))); have n1_ := Aside0.mk (below_step (by repeat (first | (with_reducible first | exact HB.out | apply below_alloc | apply pw_below_drewN | apply below_drew1) | exact HB.out)) hb); clear HB; have HO162 := n0_; have HB := n1_; clear n0_ n1_; (try clear hb); (try clear hb2); (try clear hk); (try clear hi); (try clear ho0); obtain ⟨Ao8, co8, eo8⟩ := Kd.R_slice HO162.out; subst eo8; have p163 : 0 ≤ (a0 : Int) := of_decide_eq_true (by first | (with_reducible assumption) | assumption); have q163 : a0 < (t160.length : Int) := of_decide_eq_true (by first | (with_reducible assumption) | assumption); obtain ⟨ad163, e163, hx163_0⟩ := Kd.at_string (Kd.R_reads' HO162.out).2.2 a0 p163 q163; cases e163; replace p163 := eq_true p163; replace q163 := eq_true q163))
          go_ret
          exact ⟨by first | rfl | (simp [errW_none, errW_some] <;> rfl) | (simp [*, errW_none, errW_some] <;> rfl), by repeat (first | (with_reducible first | exact HB.out | apply below_alloc | apply pw_below_drewN | apply below_drew1) | exact HB.out)⟩
        · rw [if_neg c6] at H
          exact absurd H (by simp)
      · rw [if_neg c5] at H
        exact absurd H (by simp)

end Go.Proofs.YtjnphebgbdjohaaDoor.PQuirksTell
