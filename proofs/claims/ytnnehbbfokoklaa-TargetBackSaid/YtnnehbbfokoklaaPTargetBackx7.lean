-- Written by a program of this session (wip/tools/myprint.sh)
import Derived.Test.YtnnehbbfokoklaaPTargetBackx0
import Derived.Test.YtnnehbbfokoklaaPTargetBackx1
import Derived.Test.YtnnehbbfokoklaaPTargetBackx5
import Derived.Test.YtnnehbbfokoklaaPTargetBackx6
namespace Go.Proofs.Ytnnehbbfokoklaa.PTargetBack
open Go.RowKit Go.Proofs.YtnnehbbfokoklaaW.PrintWords Go.Proofs.YtnnehbbfokoklaaW.PrintLast Go.Proofs.YtnnehbbfokoklaaW.PrintMore
attribute [local go_sem] max2_int min2_int max_two min_two max_three min_three max_four min_four   -- for this text's walks alone
set_option linter.unusedVariables false
set_option linter.unusedSimpArgs false

attribute [local go_sem high] eqA27
/-! ### parallaxlaw7_some: function 8 -/
def parallaxlaw7_some.l0 : Nat → List Int → List ByteArray → ByteArray → Int → Option (ByteArray)
  | 0, _, _, _, _ => none
  | k + 1, x0, x3, x4, x5 => if x5 < (x0.length : Int) then (if 0 ≤ x5 then (if (x3.length : Int) = 0 then (none) else (if 0 ≤ (Int.tmod (wrap64 (rd x0 x5)) (x3.length : Int)) then (if (Int.tmod (wrap64 (rd x0 x5)) (x3.length : Int)) < (x3.length : Int) then (if x4.size + (rdOf ByteArray.empty x3 (Int.tmod (wrap64 (rd x0 x5)) (x3.length : Int))).size ≤ 9223372036854775807 then (parallaxlaw7_some.l0 k x0 x3 (x4 ++ (rdOf ByteArray.empty x3 (Int.tmod (wrap64 (rd x0 x5)) (x3.length : Int)))) (wrap64 (x5 + 1))) else (none)) else (none)) else (none))) else (none)) else (some x4)
def parallaxlaw7_some.f (k : Nat) (l0 : List Int) : Option (ByteArray) := parallaxlaw7_some.l0 k l0 (([(⟨#[47]⟩ : ByteArray), (⟨#[97]⟩ : ByteArray), (⟨#[63]⟩ : ByteArray), (⟨#[37, 52, 49]⟩ : ByteArray), (⟨#[37, 52]⟩ : ByteArray), (⟨#[104, 116, 116, 112, 58, 47, 47]⟩ : ByteArray), (⟨#[72, 84, 84, 80, 58, 47, 47]⟩ : ByteArray), (⟨#[104, 46, 111, 114, 103]⟩ : ByteArray), (⟨#[58, 56, 48]⟩ : ByteArray), (⟨#[58]⟩ : ByteArray), (⟨#[42]⟩ : ByteArray), (⟨#[35]⟩ : ByteArray), (⟨#[32]⟩ : ByteArray), (⟨#[46, 46]⟩ : ByteArray), (⟨#[38, 61]⟩ : ByteArray), (⟨#[128]⟩ : ByteArray), (⟨#[91]⟩ : ByteArray), (⟨#[55, 48, 48, 48, 48]⟩ : ByteArray), (⟨#[120, 58, 49]⟩ : ByteArray)] : List ByteArray)) (⟨#[]⟩ : ByteArray) 0
theorem parallaxlaw7_some.mono_l : ∀ k, (∀ y0 y1 y2 y3, LeO (parallaxlaw7_some.l0 k y0 y1 y2 y3) (parallaxlaw7_some.l0 (k + 1) y0 y1 y2 y3))
  | 0 => fun _ _ _ _ r h => by simp [parallaxlaw7_some.l0] at h
  | k + 1 => by
    have ih0 := parallaxlaw7_some.mono_l k
    · intro y0 y1 y2 y3
      unfold parallaxlaw7_some.l0
      repeat' first
      | (with_reducible exact ih0 _ _ _ _)
      | (with_reducible exact LeO.refl _)
      | (with_reducible exact LeO.none _)
      | (with_reducible refine LeO.ite ?_ ?_)
      | (with_reducible refine LeO.bind ?_ (fun _ => ?_))
      | exact ih0 _ _ _ _
      | exact LeO.none _
      | refine LeO.ite ?_ ?_
      | refine LeO.bind ?_ (fun _ => ?_)
theorem parallaxlaw7_some.mono : ∀ a0 k, LeO (parallaxlaw7_some.f k a0) (parallaxlaw7_some.f (k + 1) a0) := by
  intro a0 k
  have ih0 := parallaxlaw7_some.mono_l k
  unfold parallaxlaw7_some.f
  repeat' first
      | (with_reducible exact ih0 _ _ _ _)
      | (with_reducible exact LeO.refl _)
      | (with_reducible exact LeO.none _)
      | (with_reducible refine LeO.ite ?_ ?_)
      | (with_reducible refine LeO.bind ?_ (fun _ => ?_))
      | exact ih0 _ _ _ _
      | exact LeO.none _
      | refine LeO.ite ?_ ?_
      | refine LeO.bind ?_ (fun _ => ?_)
set_option maxHeartbeats 8000000 in
set_option maxRecDepth 100000 in
theorem parallaxlaw7_some.calls (k : Nat) (A0 : Option Addr) (c0 : Nat) (l0 : List Int) (r : ByteArray) (w : World) (hr0 : Kd.C (Kd.int .u8) w A0 l0.length l0) (hc0 : l0.length ≤ c0) (h : parallaxlaw7_some.f k l0 = some r) :
    Calls Try.prog 8 #[.slice A0 l0.length c0] w fun e w' => e = .returned (.string r) ∧ Below w.heap.size w w' := by
  have HR0 := Aside0.mk hr0
  have HC0 := Aside0.mk hc0
  clear hr0 hc0
  have HB := Aside0.mk (Below.refl w.heap.size w)
  have H : (parallaxlaw7_some.l0 k l0 (([(⟨#[47]⟩ : ByteArray), (⟨#[97]⟩ : ByteArray), (⟨#[63]⟩ : ByteArray), (⟨#[37, 52, 49]⟩ : ByteArray), (⟨#[37, 52]⟩ : ByteArray), (⟨#[104, 116, 116, 112, 58, 47, 47]⟩ : ByteArray), (⟨#[72, 84, 84, 80, 58, 47, 47]⟩ : ByteArray), (⟨#[104, 46, 111, 114, 103]⟩ : ByteArray), (⟨#[58, 56, 48]⟩ : ByteArray), (⟨#[58]⟩ : ByteArray), (⟨#[42]⟩ : ByteArray), (⟨#[35]⟩ : ByteArray), (⟨#[32]⟩ : ByteArray), (⟨#[46, 46]⟩ : ByteArray), (⟨#[38, 61]⟩ : ByteArray), (⟨#[128]⟩ : ByteArray), (⟨#[91]⟩ : ByteArray), (⟨#[55, 48, 48, 48, 48]⟩ : ByteArray), (⟨#[120, 58, 49]⟩ : ByteArray)] : List ByteArray)) (⟨#[]⟩ : ByteArray) 0) = some r := h
  clear h
  obtain ⟨y209, hy209⟩ : ∃ y_ : List ByteArray, y_ = (([(⟨#[47]⟩ : ByteArray), (⟨#[97]⟩ : ByteArray), (⟨#[63]⟩ : ByteArray), (⟨#[37, 52, 49]⟩ : ByteArray), (⟨#[37, 52]⟩ : ByteArray), (⟨#[104, 116, 116, 112, 58, 47, 47]⟩ : ByteArray), (⟨#[72, 84, 84, 80, 58, 47, 47]⟩ : ByteArray), (⟨#[104, 46, 111, 114, 103]⟩ : ByteArray), (⟨#[58, 56, 48]⟩ : ByteArray), (⟨#[58]⟩ : ByteArray), (⟨#[42]⟩ : ByteArray), (⟨#[35]⟩ : ByteArray), (⟨#[32]⟩ : ByteArray), (⟨#[46, 46]⟩ : ByteArray), (⟨#[38, 61]⟩ : ByteArray), (⟨#[128]⟩ : ByteArray), (⟨#[91]⟩ : ByteArray), (⟨#[55, 48, 48, 48, 48]⟩ : ByteArray), (⟨#[120, 58, 49]⟩ : ByteArray)] : List ByteArray)) := ⟨_, rfl⟩
  replace H : (parallaxlaw7_some.l0 k l0 y209 (⟨#[]⟩ : ByteArray) 0) = some r := by first | (rw [hy209]; with_reducible exact H) | (have H2_ := (Option.bind_some _ _).symm.trans H; rw [hy209]; with_reducible exact H2_) | (have H2_ := (Option.bind_some _ _).symm.trans H; with_reducible exact H2_) | with_reducible exact H | (rw [hy209]; exact H) | exact H
  have Ny209 := Aside0.mk hy209
  clear hy209
  have H' := Aside0.mk H
  clear H
  go_enter Try.func8, Try.ntmps8
  go_wp2_with (first | ((with_reducible refine gate_dst (N := 6) rfl ?_); refine Kd.R_lit Kd.string _ 9 ?hg (N := 6) ?hd (xs := ([(⟨#[47]⟩ : ByteArray), (⟨#[97]⟩ : ByteArray), (⟨#[63]⟩ : ByteArray), (⟨#[37, 52, 49]⟩ : ByteArray), (⟨#[37, 52]⟩ : ByteArray), (⟨#[104, 116, 116, 112, 58, 47, 47]⟩ : ByteArray), (⟨#[72, 84, 84, 80, 58, 47, 47]⟩ : ByteArray), (⟨#[104, 46, 111, 114, 103]⟩ : ByteArray), (⟨#[58, 56, 48]⟩ : ByteArray), (⟨#[58]⟩ : ByteArray), (⟨#[42]⟩ : ByteArray), (⟨#[35]⟩ : ByteArray), (⟨#[32]⟩ : ByteArray), (⟨#[46, 46]⟩ : ByteArray), (⟨#[38, 61]⟩ : ByteArray), (⟨#[128]⟩ : ByteArray), (⟨#[91]⟩ : ByteArray), (⟨#[55, 48, 48, 48, 48]⟩ : ByteArray), (⟨#[120, 58, 49]⟩ : ByteArray)] : List ByteArray)) (inner := [.string (⟨#[47]⟩ : ByteArray), .string (⟨#[97]⟩ : ByteArray), .string (⟨#[63]⟩ : ByteArray), .string (⟨#[37, 52, 49]⟩ : ByteArray), .string (⟨#[37, 52]⟩ : ByteArray), .string (⟨#[104, 116, 116, 112, 58, 47, 47]⟩ : ByteArray), .string (⟨#[72, 84, 84, 80, 58, 47, 47]⟩ : ByteArray), .string (⟨#[104, 46, 111, 114, 103]⟩ : ByteArray), .string (⟨#[58, 56, 48]⟩ : ByteArray), .string (⟨#[58]⟩ : ByteArray), .string (⟨#[42]⟩ : ByteArray), .string (⟨#[35]⟩ : ByteArray), .string (⟨#[32]⟩ : ByteArray), .string (⟨#[46, 46]⟩ : ByteArray), .string (⟨#[38, 61]⟩ : ByteArray), .string (⟨#[128]⟩ : ByteArray), .string (⟨#[91]⟩ : ByteArray), .string (⟨#[55, 48, 48, 48, 48]⟩ : ByteArray), .string (⟨#[120, 58, 49]⟩ : ByteArray)]) (ok := fun _ => True) (okp := fun _ => True) ?hr ?hp (fun _ hk => hk) trivial (Below.refl _ _) (Nat.le_refl _) (by simp) ?_; (case hd => rfl); (case hg => rfl); (case hr => first | (go_simp; done) | (go_simp; rfl)); (case hp => exact (Reps.one (show Kd.M Kd.string _ _ _ (⟨#[47]⟩ : ByteArray) [.string (⟨#[47]⟩ : ByteArray)] from rfl) (Reps.one (show Kd.M Kd.string _ _ _ (⟨#[97]⟩ : ByteArray) [.string (⟨#[97]⟩ : ByteArray)] from rfl) (Reps.one (show Kd.M Kd.string _ _ _ (⟨#[63]⟩ : ByteArray) [.string (⟨#[63]⟩ : ByteArray)] from rfl) (Reps.one (show Kd.M Kd.string _ _ _ (⟨#[37, 52, 49]⟩ : ByteArray) [.string (⟨#[37, 52, 49]⟩ : ByteArray)] from rfl) (Reps.one (show Kd.M Kd.string _ _ _ (⟨#[37, 52]⟩ : ByteArray) [.string (⟨#[37, 52]⟩ : ByteArray)] from rfl) (Reps.one (show Kd.M Kd.string _ _ _ (⟨#[104, 116, 116, 112, 58, 47, 47]⟩ : ByteArray) [.string (⟨#[104, 116, 116, 112, 58, 47, 47]⟩ : ByteArray)] from rfl) (Reps.one (show Kd.M Kd.string _ _ _ (⟨#[72, 84, 84, 80, 58, 47, 47]⟩ : ByteArray) [.string (⟨#[72, 84, 84, 80, 58, 47, 47]⟩ : ByteArray)] from rfl) (Reps.one (show Kd.M Kd.string _ _ _ (⟨#[104, 46, 111, 114, 103]⟩ : ByteArray) [.string (⟨#[104, 46, 111, 114, 103]⟩ : ByteArray)] from rfl) (Reps.one (show Kd.M Kd.string _ _ _ (⟨#[58, 56, 48]⟩ : ByteArray) [.string (⟨#[58, 56, 48]⟩ : ByteArray)] from rfl) (Reps.one (show Kd.M Kd.string _ _ _ (⟨#[58]⟩ : ByteArray) [.string (⟨#[58]⟩ : ByteArray)] from rfl) (Reps.one (show Kd.M Kd.string _ _ _ (⟨#[42]⟩ : ByteArray) [.string (⟨#[42]⟩ : ByteArray)] from rfl) (Reps.one (show Kd.M Kd.string _ _ _ (⟨#[35]⟩ : ByteArray) [.string (⟨#[35]⟩ : ByteArray)] from rfl) (Reps.one (show Kd.M Kd.string _ _ _ (⟨#[32]⟩ : ByteArray) [.string (⟨#[32]⟩ : ByteArray)] from rfl) (Reps.one (show Kd.M Kd.string _ _ _ (⟨#[46, 46]⟩ : ByteArray) [.string (⟨#[46, 46]⟩ : ByteArray)] from rfl) (Reps.one (show Kd.M Kd.string _ _ _ (⟨#[38, 61]⟩ : ByteArray) [.string (⟨#[38, 61]⟩ : ByteArray)] from rfl) (Reps.one (show Kd.M Kd.string _ _ _ (⟨#[128]⟩ : ByteArray) [.string (⟨#[128]⟩ : ByteArray)] from rfl) (Reps.one (show Kd.M Kd.string _ _ _ (⟨#[91]⟩ : ByteArray) [.string (⟨#[91]⟩ : ByteArray)] from rfl) (Reps.one (show Kd.M Kd.string _ _ _ (⟨#[55, 48, 48, 48, 48]⟩ : ByteArray) [.string (⟨#[55, 48, 48, 48, 48]⟩ : ByteArray)] from rfl) (Reps.one (show Kd.M Kd.string _ _ _ (⟨#[120, 58, 49]⟩ : ByteArray) [.string (⟨#[120, 58, 49]⟩ : ByteArray)] from rfl) (Reps.none _ _))))))))))))))))))))); intro v210 w2 ho3 hb hg_ hnew_; clear hg_ hnew_; (first | rw [← Ny209.out] at ho3 | (simp only [Int.reduceToNat] at ho3; rw [← Ny209.out] at ho3)); have n0_ := Aside0.mk (Kd.R_lower ho3 (below_size (by repeat (first | (with_reducible first | exact HB.out | apply below_alloc | apply pw_below_drewN | apply below_drew1) | exact HB.out)))); have n1_ := Aside0.mk (below_step (by repeat (first | (with_reducible first | exact HB.out | apply below_alloc | apply pw_below_drewN | apply below_drew1) | exact HB.out)) hb); clear HB; have HO211 := n0_; have HB := n1_; clear n0_ n1_; clear hb ho3))
  go_loopg [4, 5] k (fun kq v4 v5 w' => ∃ (x4_1 : ByteArray) (x5_1 : Int), v4 = .string x4_1 ∧ v5 = .int .i64 x5_1 ∧ Aside0 (parallaxlaw7_some.l0 kq l0 y209 x4_1 x5_1 = some r) ∧ Aside0 (kq ≤ k) ∧ Aside0 (Kd.R Kd.string 9 w' w.heap.size (fun _ => True) v210 y209) ∧ Aside0 (Below w.heap.size w w'))
  case atStart => exact ⟨((⟨#[]⟩ : ByteArray)), (0), (by first | rfl | (simp; done) | (simp [*]; done)), (by first | rfl | (simp; done) | (simp [*]; done)), H', ⟨Nat.le_refl _⟩, ⟨by (with_reducible repeat (first | apply Kd.R_alloc | apply Kd.R_drewN | apply Kd.R_drew)); exact HO211.out⟩, ⟨by repeat (first | (with_reducible first | exact HB.out | apply below_alloc | apply pw_below_drewN | apply below_drew1) | exact HB.out)⟩⟩
  case round =>
    clear H'
    try clear p2
    obtain ⟨x4_1, x5_1, rfl, rfl, HA, HK1, HO_3, HB⟩ := hrel
    cases gk with
    | zero => exact absurd HA.out (by simp [parallaxlaw7_some.l0])
    | succ k1 =>
      have H := HA.out
      clear HA
      simp only [parallaxlaw7_some.l0] at H
      by_cases c4 : x5_1 < (l0.length : Int)
      · rw [if_pos c4] at H
        have c4b0 : decide (x5_1 < (l0.length : Int)) = true := decide_eq_true c4
        clear c4
        by_cases c5 : 0 ≤ x5_1
        · rw [if_pos c5] at H
          have c5b0 : decide (0 ≤ x5_1) = true := decide_eq_true c5
          clear c5
          by_cases c6 : (y209.length : Int) = 0
          · rw [if_pos c6] at H
            exact absurd H (by simp)
          · rw [if_neg c6] at H
            have c6b0 : ((y209.length : Int) == 0) = false := beq_eq_false_iff_ne.mpr c6
            have c6b1 : ((y209.length : Int) != 0) = true := bne_iff_ne.mpr c6
            have c6b2 : ¬ (y209 = []) := fun h_ => c6 (by rw [h_]; rfl)
            obtain ⟨ji7, hji7⟩ : ∃ j_ : Int, (Int.tmod (wrap64 (rd l0 x5_1)) (y209.length : Int)) = j_ := ⟨_, rfl⟩
            replace H : (if 0 ≤ (ji7) then (if (ji7) < (y209.length : Int) then (if x4_1.size + (rdOf ByteArray.empty y209 (ji7)).size ≤ 9223372036854775807 then (parallaxlaw7_some.l0 k1 l0 y209 (x4_1 ++ (rdOf ByteArray.empty y209 (ji7))) (wrap64 (x5_1 + 1))) else (none)) else (none)) else (none)) = some r := by first | (rw [hji7] at H; exact H) | (simp only [hji7] at H ⊢; exact H)
            by_cases c8 : 0 ≤ (ji7)
            · rw [if_pos c8] at H
              have c8b0 : decide (0 ≤ (ji7)) = true := decide_eq_true c8
              clear c8
              by_cases c9 : (ji7) < (y209.length : Int)
              · rw [if_pos c9] at H
                have c9b0 : decide ((ji7) < (y209.length : Int)) = true := decide_eq_true c9
                clear c9
                by_cases c10 : x4_1.size + (rdOf ByteArray.empty y209 (ji7)).size ≤ 9223372036854775807
                · rw [if_pos c10] at H
                  have c10b0 := eq_true c10
                  have c10b1 : decide (x4_1.size + (rdOf ByteArray.empty y209 (ji7)).size ≤ 9223372036854775807) = true := decide_eq_true c10
                  try have c10b2 : (9223372036854775807 < x4_1.size + (rdOf ByteArray.empty y209 (ji7)).size) = False := eq_false (Nat.not_lt.2 c10)
                  have H' := Aside0.mk H
                  clear H
                  have p212 : 0 ≤ (x5_1 : Int) := of_decide_eq_true (by first | (with_reducible assumption) | assumption)
                  have q212 : x5_1 < (l0.length : Int) := of_decide_eq_true (by first | (with_reducible assumption) | assumption)
                  obtain ⟨ad212, e212, hx212_0⟩ := Kd.at_int HR0.out x5_1 p212 q212
                  cases e212
                  replace hx212_0 := (HB.out.cell (World.block_lt_of_cell? w _ hx212_0)).trans hx212_0
                  replace p212 := eq_true p212
                  replace q212 := eq_true q212
                  obtain ⟨Ao11, co11, eo11⟩ := Kd.R_slice HO_3.out
                  subst eo11
                  have p213 : 0 ≤ ((ji7) : Int) := of_decide_eq_true (by first | (with_reducible assumption) | assumption)
                  have q213 : (ji7) < (y209.length : Int) := of_decide_eq_true (by first | (with_reducible assumption) | assumption)
                  obtain ⟨ad213, e213, hx213_0⟩ := Kd.at_string (Kd.R_reads' HO_3.out).2.2 (ji7) p213 q213
                  cases e213
                  replace p213 := eq_true p213
                  replace q213 := eq_true q213
                  go_wp2
                  go_roundg k1
                  case measure => have := HK1.out; omega
                  case rel => exact ⟨(x4_1 ++ (rdOf ByteArray.empty y209 (ji7))), (wrap64 (x5_1 + 1)), (by first | rfl | (simp; done) | (simp only [← hji7] <;> (first | rfl | simp)) | (simp [*]; done)), (by first | rfl | (simp; done) | (simp [*]; done)), H', ⟨by have := HK1.out; omega⟩, ⟨by (with_reducible repeat (first | apply Kd.R_alloc | apply Kd.R_drewN | apply Kd.R_drew)); exact HO_3.out⟩, ⟨by repeat (first | (with_reducible first | exact HB.out | apply below_alloc | apply pw_below_drewN | apply below_drew1) | exact HB.out)⟩⟩
                · rw [if_neg c10] at H
                  exact absurd H (by simp)
              · rw [if_neg c9] at H
                exact absurd H (by simp)
            · rw [if_neg c8] at H
              exact absurd H (by simp)
        · rw [if_neg c5] at H
          exact absurd H (by simp)
      · rw [if_neg c4] at H
        have c4b0 : decide (x5_1 < (l0.length : Int)) = false := decide_eq_false c4
        clear c4
        obtain rfl := Option.some.inj H
        go_wp2
        go_ret
        exact ⟨by first | rfl | (simp [errW_none, errW_some] <;> rfl) | (simp [*, errW_none, errW_some] <;> rfl), by repeat (first | (with_reducible first | exact HB.out | apply below_alloc | apply pw_below_drewN | apply below_drew1) | exact HB.out)⟩

/-! ### parallaxlaw7_TargetBack: function 4 -/
mutual
def parallaxlaw7_TargetBack.l0 : Nat → ByteArray → List ByteArray → Int → Int → Option (Bool)
  | 0, _, _, _, _ => none
  | k + 1, x5, x30, x31, x32 => if x32 < x31 then (if 0 ≤ x32 then (if x32 < (x30.length : Int) then ((target_Parse.f k x5 (rdOf ByteArray.empty x30 x32)).bind fun bt226 => (if bt226.2.2.2.2.2 = 0 then ((target_Put.f k bt226.1 bt226.2.1 bt226.2.2.1 bt226.2.2.2.1 bt226.2.2.2.2.1).bind fun t233 => ((target_Parse.f k x5 t233).bind fun bt234 => (if bt234.2.2.2.2.2 = 0 then (if (!(bt234.1 == bt226.1) || (!(bt234.2.1.toList == bt226.2.1.toList) || (!(bt234.2.2.1.toList == bt226.2.2.1.toList) || (!(bt234.2.2.2.1.toList == bt226.2.2.2.1.toList) || (!(bt234.2.2.2.2.1 == bt226.2.2.2.2.1)))))) = true then (some false) else (parallaxlaw7_TargetBack.j1 k x5 x30 x31 x32)) else (some false)))) else (parallaxlaw7_TargetBack.j1 k x5 x30 x31 x32))) else (none)) else (none)) else (some true)
def parallaxlaw7_TargetBack.j1 : Nat → ByteArray → List ByteArray → Int → Int → Option (Bool)
  | 0, _, _, _, _ => none
  | k + 1, x5, x30, x31, x32 => parallaxlaw7_TargetBack.l0 k x5 x30 x31 (wrap64 (x32 + 1))
end
def parallaxlaw7_TargetBack.f (k : Nat) (l0 : List Int) (a1 : Int) : Option (Bool) := (parallaxlaw7_known.f k).bind fun t214 => (if t214 = true then (if (l0.length : Int) > 10 then (some true) else ((some (([(⟨#[71, 69, 84]⟩ : ByteArray), (⟨#[67, 79, 78, 78, 69, 67, 84]⟩ : ByteArray), (⟨#[79, 80, 84, 73, 79, 78, 83]⟩ : ByteArray), (⟨#[80, 79, 83, 84]⟩ : ByteArray)] : List ByteArray) : List ByteArray)).bind fun y215 => (if 0 ≤ (Int.tmod a1 4) then (if (Int.tmod a1 4) < (y215.length : Int) then ((parallaxlaw7_some.f k l0).bind fun t219 => ((parallaxlaw7_some.f k l0).bind fun t220 => (if 1 + t220.size ≤ 9223372036854775807 then ((parallaxlaw7_some.f k l0).bind fun t221 => (if 8 + t221.size ≤ 9223372036854775807 then ((some (([t219, (⟨#[47]⟩ : ByteArray) ++ t220, (⟨#[104, 116, 116, 112, 58, 47, 47, 97]⟩ : ByteArray) ++ t221] : List ByteArray) : List ByteArray)).bind fun y222 => (parallaxlaw7_TargetBack.l0 k (rdOf ByteArray.empty y215 (Int.tmod a1 4)) y222 (y222.length : Int) 0)) else (none))) else (none)))) else (none)) else (none)))) else (some false))
theorem parallaxlaw7_TargetBack.mono_l : ∀ k, (∀ y0 y1 y2 y3, LeO (parallaxlaw7_TargetBack.l0 k y0 y1 y2 y3) (parallaxlaw7_TargetBack.l0 (k + 1) y0 y1 y2 y3)) ∧ (∀ y0 y1 y2 y3, LeO (parallaxlaw7_TargetBack.j1 k y0 y1 y2 y3) (parallaxlaw7_TargetBack.j1 (k + 1) y0 y1 y2 y3))
  | 0 => ⟨fun _ _ _ _ r h => by simp [parallaxlaw7_TargetBack.l0] at h, fun _ _ _ _ r h => by simp [parallaxlaw7_TargetBack.j1] at h⟩
  | k + 1 => by
    obtain ⟨ih0, ih1⟩ := parallaxlaw7_TargetBack.mono_l k
    refine ⟨?_, ?_⟩
    · intro y0 y1 y2 y3
      unfold parallaxlaw7_TargetBack.l0
      repeat' first
      | (with_reducible exact ih0 _ _ _ _)
      | (with_reducible exact ih1 _ _ _ _)
      | (with_reducible exact parallaxlaw7_known.mono _)
      | (with_reducible exact parallaxlaw7_some.mono _ _)
      | (with_reducible exact target_Parse.mono _ _ _)
      | (with_reducible exact target_Put.mono _ _ _ _ _ _)
      | (with_reducible exact LeO.refl _)
      | (with_reducible exact LeO.none _)
      | (with_reducible refine LeO.ite ?_ ?_)
      | (with_reducible refine LeO.bind ?_ (fun _ => ?_))
      | exact ih0 _ _ _ _
      | exact ih1 _ _ _ _
      | exact parallaxlaw7_known.mono _
      | exact parallaxlaw7_some.mono _ _
      | exact target_Parse.mono _ _ _
      | exact target_Put.mono _ _ _ _ _ _
      | exact LeO.none _
      | refine LeO.ite ?_ ?_
      | refine LeO.bind ?_ (fun _ => ?_)
    · intro y0 y1 y2 y3
      unfold parallaxlaw7_TargetBack.j1
      repeat' first
      | (with_reducible exact ih0 _ _ _ _)
      | (with_reducible exact ih1 _ _ _ _)
      | (with_reducible exact parallaxlaw7_known.mono _)
      | (with_reducible exact parallaxlaw7_some.mono _ _)
      | (with_reducible exact target_Parse.mono _ _ _)
      | (with_reducible exact target_Put.mono _ _ _ _ _ _)
      | (with_reducible exact LeO.refl _)
      | (with_reducible exact LeO.none _)
      | (with_reducible refine LeO.ite ?_ ?_)
      | (with_reducible refine LeO.bind ?_ (fun _ => ?_))
      | exact ih0 _ _ _ _
      | exact ih1 _ _ _ _
      | exact parallaxlaw7_known.mono _
      | exact parallaxlaw7_some.mono _ _
      | exact target_Parse.mono _ _ _
      | exact target_Put.mono _ _ _ _ _ _
      | exact LeO.none _
      | refine LeO.ite ?_ ?_
      | refine LeO.bind ?_ (fun _ => ?_)
theorem parallaxlaw7_TargetBack.mono : ∀ a0 a1 k, LeO (parallaxlaw7_TargetBack.f k a0 a1) (parallaxlaw7_TargetBack.f (k + 1) a0 a1) := by
  intro a0 a1 k
  obtain ⟨ih0, ih1⟩ := parallaxlaw7_TargetBack.mono_l k
  unfold parallaxlaw7_TargetBack.f
  repeat' first
      | (with_reducible exact ih0 _ _ _ _)
      | (with_reducible exact ih1 _ _ _ _)
      | (with_reducible exact parallaxlaw7_known.mono _)
      | (with_reducible exact parallaxlaw7_some.mono _ _)
      | (with_reducible exact target_Parse.mono _ _ _)
      | (with_reducible exact target_Put.mono _ _ _ _ _ _)
      | (with_reducible exact LeO.refl _)
      | (with_reducible exact LeO.none _)
      | (with_reducible refine LeO.ite ?_ ?_)
      | (with_reducible refine LeO.bind ?_ (fun _ => ?_))
      | exact ih0 _ _ _ _
      | exact ih1 _ _ _ _
      | exact parallaxlaw7_known.mono _
      | exact parallaxlaw7_some.mono _ _
      | exact target_Parse.mono _ _ _
      | exact target_Put.mono _ _ _ _ _ _
      | exact LeO.none _
      | refine LeO.ite ?_ ?_
      | refine LeO.bind ?_ (fun _ => ?_)
set_option maxHeartbeats 8000000 in
set_option maxRecDepth 100000 in
theorem parallaxlaw7_TargetBack.calls (k : Nat) (A0 : Option Addr) (c0 : Nat) (l0 : List Int) (a1 : Int) (r : Bool) (w : World) (hr0 : Kd.C (Kd.int .u8) w A0 l0.length l0) (hc0 : l0.length ≤ c0) (hq1 : (Lit.int .u8 a1).wf = true) (hT : r = true) (h : parallaxlaw7_TargetBack.f k l0 a1 = some r) :
    Calls Try.prog 4 #[.slice A0 l0.length c0, .int .u8 a1] w fun e w' => e = .returned (.bool r) ∧ Below w.heap.size w w' := by
  have hu27 := Try.underlying27
  have HQ1 := Aside0.mk hq1
  clear hq1
  have HT := Aside0.mk hT
  clear hT
  have HR0 := Aside0.mk hr0
  have HC0 := Aside0.mk hc0
  clear hr0 hc0
  have HB := Aside0.mk (Below.refl w.heap.size w)
  have H : ((parallaxlaw7_known.f k).bind fun t214 => (if t214 = true then (if (l0.length : Int) > 10 then (some true) else ((some (([(⟨#[71, 69, 84]⟩ : ByteArray), (⟨#[67, 79, 78, 78, 69, 67, 84]⟩ : ByteArray), (⟨#[79, 80, 84, 73, 79, 78, 83]⟩ : ByteArray), (⟨#[80, 79, 83, 84]⟩ : ByteArray)] : List ByteArray) : List ByteArray)).bind fun y215 => (if 0 ≤ (Int.tmod a1 4) then (if (Int.tmod a1 4) < (y215.length : Int) then ((parallaxlaw7_some.f k l0).bind fun t219 => ((parallaxlaw7_some.f k l0).bind fun t220 => (if 1 + t220.size ≤ 9223372036854775807 then ((parallaxlaw7_some.f k l0).bind fun t221 => (if 8 + t221.size ≤ 9223372036854775807 then ((some (([t219, (⟨#[47]⟩ : ByteArray) ++ t220, (⟨#[104, 116, 116, 112, 58, 47, 47, 97]⟩ : ByteArray) ++ t221] : List ByteArray) : List ByteArray)).bind fun y222 => (parallaxlaw7_TargetBack.l0 k (rdOf ByteArray.empty y215 (Int.tmod a1 4)) y222 (y222.length : Int) 0)) else (none))) else (none)))) else (none)) else (none)))) else (some false))) = some r := h
  clear h
  replace H := Option.bind_eq_some_iff.mp H
  obtain ⟨t214, A30, H⟩ := H
  (try dsimp only at H)
  have A3 := Aside0.mk A30
  clear A30
  by_cases c4 : t214 = true
  · subst c4
    rw [if_pos rfl] at H
    by_cases c5 : (l0.length : Int) > 10
    · rw [if_pos c5] at H
      have c5b0 : decide (10 < (l0.length : Int)) = true := decide_eq_true c5
      have c5b1 : decide (10 < l0.length) = true := decide_eq_true (by omega)
      clear c5
      obtain rfl := Option.some.inj H
      go_enter Try.func4, Try.ntmps4
      go_wp2_with (first | ((with_reducible refine gate_callee (f := 7) rfl ?_); refine goesL_ (some 12) rfl rfl Try.func7 (by kernel_rfl) rfl #[] rfl (by (try simp only [List.map_toArray, List.map_cons, List.map_nil]); first | done | rfl | (simp only [List.length_drop, List.length_take]; rfl)) ?_; (with_reducible refine (parallaxlaw7_known.calls k  true _ rfl A3.out).mono ?_); rintro e w6 ⟨rfl, hb⟩; refine ⟨_, rfl, ?_⟩; have n0_ := Aside0.mk (below_step (by repeat (first | (with_reducible first | exact HB.out | apply below_alloc | apply pw_below_drewN | apply below_drew1) | exact HB.out)) hb); clear HB; have HB := n0_; clear n0_; (try clear hb); (try clear hb2); (try clear hk); (try clear hi)) | (go_at_call 7; (with_reducible refine (parallaxlaw7_known.calls k  true _ rfl A3.out).mono ?_); rintro e w6 ⟨rfl, hb⟩; have n0_ := Aside0.mk (below_step (by repeat (first | (with_reducible first | exact HB.out | apply below_alloc | apply pw_below_drewN | apply below_drew1) | exact HB.out)) hb); clear HB; have HB := n0_; clear n0_; (try clear hb); (try clear hb2); (try clear hk); (try clear hi)))
      (try any_goals (exfalso; have h_ := ‹some undef = some (Value.bool _)›; revert h_; simp [undef]; done))
      go_ret
      exact ⟨by first | rfl | (simp [errW_none, errW_some] <;> rfl) | (simp [*, errW_none, errW_some] <;> rfl), by repeat (first | (with_reducible first | exact HB.out | apply below_alloc | apply pw_below_drewN | apply below_drew1) | exact HB.out)⟩
    · rw [if_neg c5] at H
      have c5b0 : decide (10 < (l0.length : Int)) = false := decide_eq_false c5
      have c5b1 : decide (10 < l0.length) = false := decide_eq_false (by omega)
      clear c5
      obtain ⟨y215, hy215⟩ : ∃ y_ : List ByteArray, y_ = (([(⟨#[71, 69, 84]⟩ : ByteArray), (⟨#[67, 79, 78, 78, 69, 67, 84]⟩ : ByteArray), (⟨#[79, 80, 84, 73, 79, 78, 83]⟩ : ByteArray), (⟨#[80, 79, 83, 84]⟩ : ByteArray)] : List ByteArray)) := ⟨_, rfl⟩
      replace H : (if 0 ≤ (Int.tmod a1 4) then (if (Int.tmod a1 4) < (y215.length : Int) then ((parallaxlaw7_some.f k l0).bind fun t219 => ((parallaxlaw7_some.f k l0).bind fun t220 => (if 1 + t220.size ≤ 9223372036854775807 then ((parallaxlaw7_some.f k l0).bind fun t221 => (if 8 + t221.size ≤ 9223372036854775807 then ((some (([t219, (⟨#[47]⟩ : ByteArray) ++ t220, (⟨#[104, 116, 116, 112, 58, 47, 47, 97]⟩ : ByteArray) ++ t221] : List ByteArray) : List ByteArray)).bind fun y222 => (parallaxlaw7_TargetBack.l0 k (rdOf ByteArray.empty y215 (Int.tmod a1 4)) y222 (y222.length : Int) 0)) else (none))) else (none)))) else (none)) else (none)) = some r := by first | (rw [hy215]; with_reducible exact H) | (have H2_ := (Option.bind_some _ _).symm.trans H; rw [hy215]; with_reducible exact H2_) | (have H2_ := (Option.bind_some _ _).symm.trans H; with_reducible exact H2_) | with_reducible exact H | (rw [hy215]; exact H) | exact H
      have Ny215 := Aside0.mk hy215
      clear hy215
      obtain ⟨ji7, hji7⟩ : ∃ j_ : Int, (Int.tmod a1 4) = j_ := ⟨_, rfl⟩
      replace H : (if 0 ≤ (ji7) then (if (ji7) < (y215.length : Int) then ((parallaxlaw7_some.f k l0).bind fun t219 => ((parallaxlaw7_some.f k l0).bind fun t220 => (if 1 + t220.size ≤ 9223372036854775807 then ((parallaxlaw7_some.f k l0).bind fun t221 => (if 8 + t221.size ≤ 9223372036854775807 then ((some (([t219, (⟨#[47]⟩ : ByteArray) ++ t220, (⟨#[104, 116, 116, 112, 58, 47, 47, 97]⟩ : ByteArray) ++ t221] : List ByteArray) : List ByteArray)).bind fun y222 => (parallaxlaw7_TargetBack.l0 k (rdOf ByteArray.empty y215 (ji7)) y222 (y222.length : Int) 0)) else (none))) else (none)))) else (none)) else (none)) = some r := by first | (rw [hji7] at H; exact H) | (simp only [hji7] at H ⊢; exact H)
      (try rw [hji7] at A3)
      by_cases c8 : 0 ≤ (ji7)
      · rw [if_pos c8] at H
        have c8b0 : decide (0 ≤ (ji7)) = true := decide_eq_true c8
        clear c8
        by_cases c9 : (ji7) < (y215.length : Int)
        · rw [if_pos c9] at H
          have c9b0 : decide ((ji7) < (y215.length : Int)) = true := decide_eq_true c9
          clear c9
          replace H := Option.bind_eq_some_iff.mp H
          obtain ⟨t219, A100, H⟩ := H
          (try dsimp only at H)
          have A10 := Aside0.mk A100
          clear A100
          replace H := Option.bind_eq_some_iff.mp H
          obtain ⟨t220, A110, H⟩ := H
          have E_ : t219 = t220 := Option.some.inj (A10.out.symm.trans A110)
          subst E_
          (try dsimp only at H)
          have A11 := Aside0.mk A110
          clear A110
          by_cases c12 : 1 + t219.size ≤ 9223372036854775807
          · rw [if_pos c12] at H
            have c12b0 := eq_true c12
            have c12b1 : decide (1 + t219.size ≤ 9223372036854775807) = true := decide_eq_true c12
            try have c12b2 : (9223372036854775807 < 1 + t219.size) = False := eq_false (Nat.not_lt.2 c12)
            replace H := Option.bind_eq_some_iff.mp H
            obtain ⟨t221, A130, H⟩ := H
            have E_ : t219 = t221 := Option.some.inj (A10.out.symm.trans A130)
            subst E_
            (try dsimp only at H)
            have A13 := Aside0.mk A130
            clear A130
            by_cases c14 : 8 + t219.size ≤ 9223372036854775807
            · rw [if_pos c14] at H
              have c14b0 := eq_true c14
              have c14b1 : decide (8 + t219.size ≤ 9223372036854775807) = true := decide_eq_true c14
              try have c14b2 : (9223372036854775807 < 8 + t219.size) = False := eq_false (Nat.not_lt.2 c14)
              obtain ⟨y222, hy222⟩ : ∃ y_ : List ByteArray, y_ = (([t219, (⟨#[47]⟩ : ByteArray) ++ t219, (⟨#[104, 116, 116, 112, 58, 47, 47, 97]⟩ : ByteArray) ++ t219] : List ByteArray)) := ⟨_, rfl⟩
              replace H : (parallaxlaw7_TargetBack.l0 k (rdOf ByteArray.empty y215 (ji7)) y222 (y222.length : Int) 0) = some r := by first | (rw [hy222]; with_reducible exact H) | (have H2_ := (Option.bind_some _ _).symm.trans H; rw [hy222]; with_reducible exact H2_) | (have H2_ := (Option.bind_some _ _).symm.trans H; with_reducible exact H2_) | with_reducible exact H | (rw [hy222]; exact H) | exact H
              have Ny222 := Aside0.mk hy222
              clear hy222
              have H' := Aside0.mk H
              clear H
              go_enter Try.func4, Try.ntmps4
              go_wp2_with (first | ((with_reducible refine gate_callee (f := 7) rfl ?_); refine goesL_ (some 12) rfl rfl Try.func7 (by kernel_rfl) rfl #[] rfl (by (try simp only [List.map_toArray, List.map_cons, List.map_nil]); first | done | rfl | (simp only [List.length_drop, List.length_take]; rfl)) ?_; (with_reducible refine (parallaxlaw7_known.calls k  true _ rfl A3.out).mono ?_); rintro e w15 ⟨rfl, hb⟩; refine ⟨_, rfl, ?_⟩; have n0_ := Aside0.mk (below_step (by repeat (first | (with_reducible first | exact HB.out | apply below_alloc | apply pw_below_drewN | apply below_drew1) | exact HB.out)) hb); clear HB; have HB := n0_; clear n0_; (try clear hb); (try clear hb2); (try clear hk); (try clear hi)) | ((with_reducible refine gate_dst (N := 17) rfl ?_); refine Kd.R_lit Kd.string _ 9 ?hg (N := 17) ?hd (xs := ([(⟨#[71, 69, 84]⟩ : ByteArray), (⟨#[67, 79, 78, 78, 69, 67, 84]⟩ : ByteArray), (⟨#[79, 80, 84, 73, 79, 78, 83]⟩ : ByteArray), (⟨#[80, 79, 83, 84]⟩ : ByteArray)] : List ByteArray)) (inner := [.string (⟨#[71, 69, 84]⟩ : ByteArray), .string (⟨#[67, 79, 78, 78, 69, 67, 84]⟩ : ByteArray), .string (⟨#[79, 80, 84, 73, 79, 78, 83]⟩ : ByteArray), .string (⟨#[80, 79, 83, 84]⟩ : ByteArray)]) (ok := fun _ => True) (okp := fun _ => True) ?hr ?hp (fun _ hk => hk) trivial (Below.refl _ _) (Nat.le_refl _) (by simp) ?_; (case hd => rfl); (case hg => rfl); (case hr => first | (go_simp; done) | (go_simp; rfl)); (case hp => exact (Reps.one (show Kd.M Kd.string _ _ _ (⟨#[71, 69, 84]⟩ : ByteArray) [.string (⟨#[71, 69, 84]⟩ : ByteArray)] from rfl) (Reps.one (show Kd.M Kd.string _ _ _ (⟨#[67, 79, 78, 78, 69, 67, 84]⟩ : ByteArray) [.string (⟨#[67, 79, 78, 78, 69, 67, 84]⟩ : ByteArray)] from rfl) (Reps.one (show Kd.M Kd.string _ _ _ (⟨#[79, 80, 84, 73, 79, 78, 83]⟩ : ByteArray) [.string (⟨#[79, 80, 84, 73, 79, 78, 83]⟩ : ByteArray)] from rfl) (Reps.one (show Kd.M Kd.string _ _ _ (⟨#[80, 79, 83, 84]⟩ : ByteArray) [.string (⟨#[80, 79, 83, 84]⟩ : ByteArray)] from rfl) (Reps.none _ _)))))); intro v216 w16 ho17 hb hg_ hnew_; clear hg_ hnew_; (first | rw [← Ny215.out] at ho17 | (simp only [Int.reduceToNat] at ho17; rw [← Ny215.out] at ho17)); have n0_ := Aside0.mk (Kd.R_lower ho17 (below_size (by repeat (first | (with_reducible first | exact HB.out | apply below_alloc | apply pw_below_drewN | apply below_drew1) | exact HB.out)))); have n1_ := Aside0.mk (below_step (by repeat (first | (with_reducible first | exact HB.out | apply below_alloc | apply pw_below_drewN | apply below_drew1) | exact HB.out)) hb); clear HB; have HO217 := n0_; have HB := n1_; clear n0_ n1_; clear hb ho17; obtain ⟨Ao18, co18, eo18⟩ := Kd.R_slice HO217.out; subst eo18; have p218 : 0 ≤ ((ji7) : Int) := of_decide_eq_true (by first | (with_reducible assumption) | assumption); have q218 : (ji7) < (y215.length : Int) := of_decide_eq_true (by first | (with_reducible assumption) | assumption); obtain ⟨ad218, e218, hx218_0⟩ := Kd.at_string (Kd.R_reads' HO217.out).2.2 (ji7) p218 q218; cases e218; replace p218 := eq_true p218; replace q218 := eq_true q218) | ((with_reducible refine gate_callee (f := 8) rfl ?_); refine goesL_ (some 23) rfl rfl Try.func8 (by kernel_rfl) rfl #[.slice A0 l0.length c0] rfl (by (try simp only [List.map_toArray, List.map_cons, List.map_nil]); first | done | rfl | (simp only [List.length_drop, List.length_take]; rfl)) ?_; (with_reducible refine (parallaxlaw7_some.calls k _ _ l0 t219 _ ?side1 ?side2 A10.out).mono ?_); (case side1 => repeat (first | exact (Kd.C_below HR0.out HB.out) | (with_reducible refine Kd.C_alloc ?_ _) | (with_reducible refine Kd.C_drewN ?_ _) | (with_reducible refine Kd.C_drew ?_))); (case side2 => exact HC0.out); rintro e w19 ⟨rfl, hb⟩; refine ⟨_, rfl, ?_⟩; have n0_ := Aside0.mk (Kd.R_below (by (with_reducible repeat (first | apply Kd.R_alloc | apply Kd.R_drewN | apply Kd.R_drew)); exact HO217.out) hb); have n1_ := Aside0.mk (below_step (by repeat (first | (with_reducible first | exact HB.out | apply below_alloc | apply pw_below_drewN | apply below_drew1) | exact HB.out)) hb); clear HO217; clear HB; have HO217 := n0_; have HB := n1_; clear n0_ n1_; (try clear hb); (try clear hb2); (try clear hk); (try clear hi)) | ((with_reducible refine gate_callee (f := 8) rfl ?_); refine goesL_ (some 25) rfl rfl Try.func8 (by kernel_rfl) rfl #[.slice A0 l0.length c0] rfl (by (try simp only [List.map_toArray, List.map_cons, List.map_nil]); first | done | rfl | (simp only [List.length_drop, List.length_take]; rfl)) ?_; (with_reducible refine (parallaxlaw7_some.calls k _ _ l0 t219 _ ?side1 ?side2 A11.out).mono ?_); (case side1 => repeat (first | exact (Kd.C_below HR0.out HB.out) | (with_reducible refine Kd.C_alloc ?_ _) | (with_reducible refine Kd.C_drewN ?_ _) | (with_reducible refine Kd.C_drew ?_))); (case side2 => exact HC0.out); rintro e w20 ⟨rfl, hb⟩; refine ⟨_, rfl, ?_⟩; have n0_ := Aside0.mk (Kd.R_below (by (with_reducible repeat (first | apply Kd.R_alloc | apply Kd.R_drewN | apply Kd.R_drew)); exact HO217.out) hb); have n1_ := Aside0.mk (below_step (by repeat (first | (with_reducible first | exact HB.out | apply below_alloc | apply pw_below_drewN | apply below_drew1) | exact HB.out)) hb); clear HO217; clear HB; have HO217 := n0_; have HB := n1_; clear n0_ n1_; (try clear hb); (try clear hb2); (try clear hk); (try clear hi)) | ((with_reducible refine gate_callee (f := 8) rfl ?_); refine goesL_ (some 28) rfl rfl Try.func8 (by kernel_rfl) rfl #[.slice A0 l0.length c0] rfl (by (try simp only [List.map_toArray, List.map_cons, List.map_nil]); first | done | rfl | (simp only [List.length_drop, List.length_take]; rfl)) ?_; (with_reducible refine (parallaxlaw7_some.calls k _ _ l0 t219 _ ?side1 ?side2 A13.out).mono ?_); (case side1 => repeat (first | exact (Kd.C_below HR0.out HB.out) | (with_reducible refine Kd.C_alloc ?_ _) | (with_reducible refine Kd.C_drewN ?_ _) | (with_reducible refine Kd.C_drew ?_))); (case side2 => exact HC0.out); rintro e w21 ⟨rfl, hb⟩; refine ⟨_, rfl, ?_⟩; have n0_ := Aside0.mk (Kd.R_below (by (with_reducible repeat (first | apply Kd.R_alloc | apply Kd.R_drewN | apply Kd.R_drew)); exact HO217.out) hb); have n1_ := Aside0.mk (below_step (by repeat (first | (with_reducible first | exact HB.out | apply below_alloc | apply pw_below_drewN | apply below_drew1) | exact HB.out)) hb); clear HO217; clear HB; have HO217 := n0_; have HB := n1_; clear n0_ n1_; (try clear hb); (try clear hb2); (try clear hk); (try clear hi)) | ((with_reducible refine gate_dst (N := 30) rfl ?_); refine Kd.R_lit Kd.string _ 9 ?hg (N := 30) ?hd (xs := ([t219, (⟨#[47]⟩ : ByteArray) ++ t219, (⟨#[104, 116, 116, 112, 58, 47, 47, 97]⟩ : ByteArray) ++ t219] : List ByteArray)) (inner := [.string t219, .string ((⟨#[47]⟩ : ByteArray) ++ t219), .string ((⟨#[104, 116, 116, 112, 58, 47, 47, 97]⟩ : ByteArray) ++ t219)]) (ok := fun _ => True) (okp := fun _ => True) ?hr ?hp (fun _ hk => hk) trivial (Below.refl _ _) (Nat.le_refl _) (by simp) ?_; (case hd => rfl); (case hg => rfl); (case hr => first | (go_simp; done) | (go_simp; rfl)); (case hp => exact (Reps.one (show Kd.M Kd.string _ _ _ t219 [.string t219] from rfl) (Reps.one (show Kd.M Kd.string _ _ _ ((⟨#[47]⟩ : ByteArray) ++ t219) [.string ((⟨#[47]⟩ : ByteArray) ++ t219)] from rfl) (Reps.one (show Kd.M Kd.string _ _ _ ((⟨#[104, 116, 116, 112, 58, 47, 47, 97]⟩ : ByteArray) ++ t219) [.string ((⟨#[104, 116, 116, 112, 58, 47, 47, 97]⟩ : ByteArray) ++ t219)] from rfl) (Reps.none _ _))))); intro v223 w22 ho23 hb hg_ hnew_; clear hg_ hnew_; (first | rw [← Ny222.out] at ho23 | (simp only [Int.reduceToNat] at ho23; rw [← Ny222.out] at ho23)); have n0_ := Aside0.mk (Kd.R_elder' (by (with_reducible repeat (first | apply Kd.R_alloc | apply Kd.R_drewN | apply Kd.R_drew)); exact HO217.out) (Kd.R_base ho23) hb); have n1_ := Aside0.mk (Kd.R_lower (Kd.R_new' ho23 (Kd.R_lt (by (with_reducible repeat (first | apply Kd.R_alloc | apply Kd.R_drewN | apply Kd.R_drew)); exact HO217.out))) (below_size (by repeat (first | (with_reducible first | exact HB.out | apply below_alloc | apply pw_below_drewN | apply below_drew1) | exact HB.out)))); have n2_ := Aside0.mk (below_step (by repeat (first | (with_reducible first | exact HB.out | apply below_alloc | apply pw_below_drewN | apply below_drew1) | exact HB.out)) hb); clear HO217; clear HB; have HO217 := n0_; have HO224 := n1_; have HB := n2_; clear n0_ n1_ n2_; clear hb ho23; obtain ⟨Ao24, co24, eo24⟩ := Kd.R_slice HO224.out; subst eo24) | (go_at_call 7; (with_reducible refine (parallaxlaw7_known.calls k  true _ rfl A3.out).mono ?_); rintro e w15 ⟨rfl, hb⟩; have n0_ := Aside0.mk (below_step (by repeat (first | (with_reducible first | exact HB.out | apply below_alloc | apply pw_below_drewN | apply below_drew1) | exact HB.out)) hb); clear HB; have HB := n0_; clear n0_; (try clear hb); (try clear hb2); (try clear hk); (try clear hi)) | (go_at_call 8; (with_reducible refine (parallaxlaw7_some.calls k _ _ l0 t219 _ ?side1 ?side2 A10.out).mono ?_); (case side1 => repeat (first | exact (Kd.C_below HR0.out HB.out) | (with_reducible refine Kd.C_alloc ?_ _) | (with_reducible refine Kd.C_drewN ?_ _) | (with_reducible refine Kd.C_drew ?_))); (case side2 => exact HC0.out); rintro e w19 ⟨rfl, hb⟩; have n0_ := Aside0.mk (Kd.R_below (by (with_reducible repeat (first | apply Kd.R_alloc | apply Kd.R_drewN | apply Kd.R_drew)); exact HO217.out) hb); have n1_ := Aside0.mk (below_step (by repeat (first | (with_reducible first | exact HB.out | apply below_alloc | apply pw_below_drewN | apply below_drew1) | exact HB.out)) hb); clear HO217; clear HB; have HO217 := n0_; have HB := n1_; clear n0_ n1_; (try clear hb); (try clear hb2); (try clear hk); (try clear hi)) | (go_at_call 8; (with_reducible refine (parallaxlaw7_some.calls k _ _ l0 t219 _ ?side1 ?side2 A11.out).mono ?_); (case side1 => repeat (first | exact (Kd.C_below HR0.out HB.out) | (with_reducible refine Kd.C_alloc ?_ _) | (with_reducible refine Kd.C_drewN ?_ _) | (with_reducible refine Kd.C_drew ?_))); (case side2 => exact HC0.out); rintro e w20 ⟨rfl, hb⟩; have n0_ := Aside0.mk (Kd.R_below (by (with_reducible repeat (first | apply Kd.R_alloc | apply Kd.R_drewN | apply Kd.R_drew)); exact HO217.out) hb); have n1_ := Aside0.mk (below_step (by repeat (first | (with_reducible first | exact HB.out | apply below_alloc | apply pw_below_drewN | apply below_drew1) | exact HB.out)) hb); clear HO217; clear HB; have HO217 := n0_; have HB := n1_; clear n0_ n1_; (try clear hb); (try clear hb2); (try clear hk); (try clear hi)) | (go_at_call 8; (with_reducible refine (parallaxlaw7_some.calls k _ _ l0 t219 _ ?side1 ?side2 A13.out).mono ?_); (case side1 => repeat (first | exact (Kd.C_below HR0.out HB.out) | (with_reducible refine Kd.C_alloc ?_ _) | (with_reducible refine Kd.C_drewN ?_ _) | (with_reducible refine Kd.C_drew ?_))); (case side2 => exact HC0.out); rintro e w21 ⟨rfl, hb⟩; have n0_ := Aside0.mk (Kd.R_below (by (with_reducible repeat (first | apply Kd.R_alloc | apply Kd.R_drewN | apply Kd.R_drew)); exact HO217.out) hb); have n1_ := Aside0.mk (below_step (by repeat (first | (with_reducible first | exact HB.out | apply below_alloc | apply pw_below_drewN | apply below_drew1) | exact HB.out)) hb); clear HO217; clear HB; have HO217 := n0_; have HB := n1_; clear n0_ n1_; (try clear hb); (try clear hb2); (try clear hk); (try clear hi)))
              (try any_goals (exfalso; have h_ := ‹some undef = some (Value.bool _)›; revert h_; simp [undef]; done))
              go_loopg [32] k (fun kq v32 w' => ∃ (x32_1 : Int), v32 = .int .i64 x32_1 ∧ Aside0 (parallaxlaw7_TargetBack.l0 kq (rdOf ByteArray.empty y215 (ji7)) y222 (y222.length : Int) x32_1 = some r) ∧ Aside0 (kq ≤ k) ∧ Aside0 (Kd.R Kd.string 9 w' w.heap.size (fun _ => True) (.slice Ao24 y222.length co24) y222) ∧ Aside0 (Below w.heap.size w w'))
              case atStart => exact ⟨(0), (by first | rfl | (simp; done) | (simp [*]; done)), H', ⟨Nat.le_refl _⟩, ⟨by (with_reducible repeat (first | apply Kd.R_alloc | apply Kd.R_drewN | apply Kd.R_drew)); exact Kd.R_mono HO224.out (fun _ hk => trivial)⟩, ⟨by repeat (first | (with_reducible first | exact HB.out | apply below_alloc | apply pw_below_drewN | apply below_drew1) | exact HB.out)⟩⟩
              case round =>
                clear H'
                try clear c1
                try clear q1
                try clear p2
                try clear q2
                try clear hx2
                try clear c4
                try clear c5
                try clear c5b0
                try clear c5b1
                try clear c7
                try clear c8
                try clear c8b0
                try clear c9
                try clear c9b0
                try clear c12
                try clear c12b0
                try clear c12b1
                try clear c12b2
                try clear c14
                try clear c14b0
                try clear c14b1
                try clear c14b2
                try clear p21
                try clear q21
                try clear hx21
                try clear hx218_0
                try clear p218
                try clear q218
                obtain ⟨x32_1, rfl, HA, HK1, HO_30, HB⟩ := hrel
                cases gk with
                | zero => exact absurd HA.out (by simp [parallaxlaw7_TargetBack.l0])
                | succ k1 =>
                  have H := HA.out
                  clear HA
                  simp only [parallaxlaw7_TargetBack.l0] at H
                  by_cases c25 : x32_1 < (y222.length : Int)
                  · rw [if_pos c25] at H
                    have c25b0 : decide (x32_1 < (y222.length : Int)) = true := decide_eq_true c25
                    clear c25
                    have HC26 := Aside0.mk H
                    clear H
                    go_upto_block 1 with (fail)
                    go_cut [] (fun wc => ∃ (kq : Nat), Aside0 (parallaxlaw7_TargetBack.j1 kq (rdOf ByteArray.empty y215 (ji7)) y222 (y222.length : Int) x32_1 = some r) ∧ Aside0 (kq ≤ k1) ∧ Aside0 (Kd.R Kd.string 9 wc w.heap.size (fun _ => True) (.slice Ao24 y222.length co24) y222) ∧ Aside0 (Below w.heap.size w wc))
                    case first =>
                      have H := HC26.out
                      clear HC26
                      by_cases c27 : 0 ≤ x32_1
                      · rw [if_pos c27] at H
                        have c27b0 : decide (0 ≤ x32_1) = true := decide_eq_true c27
                        clear c27
                        (first | rw [c27b0] | (simp only [i64_w, i32_w]; rw [c27b0]) | skip)
                        by_cases c28 : x32_1 < (y222.length : Int)
                        · rw [if_pos c28] at H
                          have c28b0 : decide (x32_1 < (y222.length : Int)) = true := decide_eq_true c28
                          clear c28
                          replace H := Option.bind_eq_some_iff.mp H
                          obtain ⟨⟨t226, t227, t228, t229, t230, t231⟩, A290, H⟩ := H
                          (try dsimp only at H)
                          have A29 := Aside0.mk A290
                          clear A290
                          by_cases c30 : t231 = 0
                          · rw [if_pos c30] at H
                            have c30b0 : (t231 == 0) = true := beq_iff_eq.mpr c30
                            have c30b1 : (t231 != 0) = false := bne_eq_false_iff_eq.mpr c30
                            clear c30
                            replace H := Option.bind_eq_some_iff.mp H
                            obtain ⟨t233, A310, H⟩ := H
                            (try dsimp only at H)
                            have A31 := Aside0.mk A310
                            clear A310
                            replace H := Option.bind_eq_some_iff.mp H
                            obtain ⟨⟨t234, t235, t236, t237, t238, t239⟩, A320, H⟩ := H
                            (try dsimp only at H)
                            have A32 := Aside0.mk A320
                            clear A320
                            by_cases c33 : t239 = 0
                            · rw [if_pos c33] at H
                              have c33b0 : (t239 == 0) = true := beq_iff_eq.mpr c33
                              have c33b1 : (t239 != 0) = false := bne_eq_false_iff_eq.mpr c33
                              clear c33
                              by_cases c34 : (!(t234 == t226) || (!(t235.toList == t227.toList) || (!(t236.toList == t228.toList) || (!(t237.toList == t229.toList) || (!(t238 == t230)))))) = true
                              · rw [if_pos c34] at H
                                have c34b0 : (!(t234 == t226) || (!(t235.toList == t227.toList) || (!(t236.toList == t228.toList) || (!(t237.toList == t229.toList) || (!(t238 == t230)))))) = true := c34
                                clear c34
                                exact absurd ((Option.some.inj H).trans HT.out) (by decide)
                              · rw [if_neg c34] at H
                                have c34b0 : (!(t234 == t226) || (!(t235.toList == t227.toList) || (!(t236.toList == t228.toList) || (!(t237.toList == t229.toList) || (!(t238 == t230)))))) = false := by simpa using c34
                                clear c34
                                have H' := Aside0.mk H
                                clear H
                                have p225 : 0 ≤ (x32_1 : Int) := of_decide_eq_true (by first | (with_reducible assumption) | assumption)
                                have q225 : x32_1 < (y222.length : Int) := of_decide_eq_true (by first | (with_reducible assumption) | assumption)
                                obtain ⟨ad225, e225, hx225_0⟩ := Kd.at_string (Kd.R_reads' HO_30.out).2.2 x32_1 p225 q225
                                cases e225
                                replace p225 := eq_true p225
                                replace q225 := eq_true q225
                                go_wp2_with (first | ((with_reducible refine gate_callee (f := 9) rfl ?_); refine goesL_ (some 39) rfl rfl Try.func9 (by kernel_rfl) rfl #[.string (rdOf ByteArray.empty y215 (ji7)), .string (rdOf ByteArray.empty y222 x32_1)] rfl (by (try simp only [List.map_toArray, List.map_cons, List.map_nil]); first | done | (simp only [hji7]; rfl) | rfl | (simp only [List.length_drop, List.length_take]; rfl)) ?_; (with_reducible refine (target_Parse.calls k1 (rdOf ByteArray.empty y215 (ji7)) (rdOf ByteArray.empty y222 x32_1) t226 t227 t228 t229 t230 t231 _ A29.out).mono ?_); rintro e w35 ⟨rfl, hb⟩; refine ⟨_, rfl, ?_⟩; have n0_ := Aside0.mk (Kd.R_below (by (with_reducible repeat (first | apply Kd.R_alloc | apply Kd.R_drewN | apply Kd.R_drew)); exact HO_30.out) hb); have n1_ := Aside0.mk (below_step (by repeat (first | (with_reducible first | exact HB.out | apply below_alloc | apply pw_below_drewN | apply below_drew1) | exact HB.out)) hb); clear HO_30; clear HB; have HO_30 := n0_; have HB := n1_; clear n0_ n1_; (try clear hb); (try clear hb2); (try clear hk); (try clear hi)) | ((with_reducible refine gate_dst (N := 8) rfl ?_); refine box_event ?hg (N := 8) ?hd (cs := #[.int .i64 0, .string (⟨#[]⟩ : ByteArray), .string (⟨#[]⟩ : ByteArray), .string (⟨#[]⟩ : ByteArray), .bool false]) (t := 27) ?hr ?_; (case hd => rfl); (case hg => rfl); (case hr => first | (go_simp; done) | (go_simp; rfl)); intro gb232 hg w36 hbox hb; have n0_ := Aside0.mk (Kd.R_below (by (with_reducible repeat (first | apply Kd.R_alloc | apply Kd.R_drewN | apply Kd.R_drew)); exact HO_30.out) hb); have n1_ := Aside0.mk (below_step (by repeat (first | (with_reducible first | exact HB.out | apply below_alloc | apply pw_below_drewN | apply below_drew1) | exact HB.out)) hb); have n2_ := Aside0.mk (hbox); have n3_ := Aside0.mk ((by rw [hg]; exact (below_size (by repeat (first | (with_reducible first | exact HB.out | apply below_alloc | apply pw_below_drewN | apply below_drew1) | exact HB.out))) : w.heap.size ≤ gb232)); have n4_ := Aside0.mk ((by rw [hg]; exact (below_size (by repeat (first | (with_reducible first | exact HB.out | apply below_alloc | apply pw_below_drewN | apply below_drew1) | exact HB.out))) : w.heap.size ≤ gb232)); clear HO_30; clear HB; have HO_30 := n0_; have HB := n1_; have BK232 := n2_; have GW232 := n3_; have GE232 := n4_; clear n0_ n1_ n2_ n3_ n4_; clear hb hbox hg; have hcz37_0 : w36.cell? ⟨gb232, 0, none⟩ = some (.int .i64 0) := (blk_cell BK232.out 0).trans rfl; have hcz37_1 : w36.cell? ⟨gb232, 1, none⟩ = some (.string (⟨#[]⟩ : ByteArray)) := (blk_cell BK232.out 1).trans rfl; have hcz37_2 : w36.cell? ⟨gb232, 2, none⟩ = some (.string (⟨#[]⟩ : ByteArray)) := (blk_cell BK232.out 2).trans rfl; have hcz37_3 : w36.cell? ⟨gb232, 3, none⟩ = some (.string (⟨#[]⟩ : ByteArray)) := (blk_cell BK232.out 3).trans rfl; have hcz37_4 : w36.cell? ⟨gb232, 4, none⟩ = some (.bool false) := (blk_cell BK232.out 4).trans rfl; have hfz37_0 := blk_frozen BK232.out 0; have hfz37_1 := blk_frozen BK232.out 1; have hfz37_2 := blk_frozen BK232.out 2; have hfz37_3 := blk_frozen BK232.out 3; have hfz37_4 := blk_frozen BK232.out 4) | ((with_reducible refine gate_callee (f := 11) rfl ?_); refine goesL_ (some 47) rfl rfl Try.func11 (by kernel_rfl) rfl #[.agg #[.int .i64 t226, .string t227, .string t228, .string t229, .bool t230]] rfl (by (try simp only [List.map_toArray, List.map_cons, List.map_nil]); first | done | rfl | (simp only [List.length_drop, List.length_take]; rfl)) ?_; (with_reducible refine (target_Put.calls k1 t226 t227 t228 t229 t230 t233 _ A31.out).mono ?_); rintro e w38 ⟨rfl, hb⟩; refine ⟨_, rfl, ?_⟩; have n0_ := Aside0.mk (Kd.R_below (by (with_reducible repeat (first | apply Kd.R_alloc | apply Kd.R_drewN | apply Kd.R_drew)); exact (Kd.R_mono (Kd.R_far (p := ⟨gb232, 4, none⟩) (Kd.R_far (p := ⟨gb232, 3, none⟩) (Kd.R_far (p := ⟨gb232, 2, none⟩) (Kd.R_far (p := ⟨gb232, 1, none⟩) (Kd.R_far (p := ⟨gb232, 0, none⟩) (Kd.R_types HO_30.out BK232.out (by decide)) (fun _ hk => (by first | exact hk.2 | exact True.intro)) (.int .i64 t226)) (fun _ hk => (by first | exact hk.2 | exact True.intro)) (.string t227)) (fun _ hk => (by first | exact hk.2 | exact True.intro)) (.string t228)) (fun _ hk => (by first | exact hk.2 | exact True.intro)) (.string t229)) (fun _ hk => (by first | exact hk.2 | exact True.intro)) (.bool t230)) (fun _ h_ => h_.1))) hb); have n1_ := Aside0.mk (blk_below (g := gb232) (o := .cells #[.int .i64 t226, .string t227, .string t228, .string t229, .bool t230] 27 (0, 0)) (by (with_reducible repeat (first | refine blk_drewN ?_ _ | refine blk_drew ?_ | refine blk_alloc ?_ _)); refine blk_put (cs := #[.int .i64 t226, .string t227, .string t228, .string t229, .bool false]) ?_ 4 _ rfl; (with_reducible repeat (first | refine blk_drewN ?_ _ | refine blk_drew ?_ | refine blk_alloc ?_ _)); refine blk_put (cs := #[.int .i64 t226, .string t227, .string t228, .string (⟨#[]⟩ : ByteArray), .bool false]) ?_ 3 _ rfl; (with_reducible repeat (first | refine blk_drewN ?_ _ | refine blk_drew ?_ | refine blk_alloc ?_ _)); refine blk_put (cs := #[.int .i64 t226, .string t227, .string (⟨#[]⟩ : ByteArray), .string (⟨#[]⟩ : ByteArray), .bool false]) ?_ 2 _ rfl; (with_reducible repeat (first | refine blk_drewN ?_ _ | refine blk_drew ?_ | refine blk_alloc ?_ _)); refine blk_put (cs := #[.int .i64 t226, .string (⟨#[]⟩ : ByteArray), .string (⟨#[]⟩ : ByteArray), .string (⟨#[]⟩ : ByteArray), .bool false]) ?_ 1 _ rfl; (with_reducible repeat (first | refine blk_drewN ?_ _ | refine blk_drew ?_ | refine blk_alloc ?_ _)); refine blk_put (cs := #[.int .i64 0, .string (⟨#[]⟩ : ByteArray), .string (⟨#[]⟩ : ByteArray), .string (⟨#[]⟩ : ByteArray), .bool false]) ?_ 0 _ rfl; (with_reducible repeat (first | refine blk_drewN ?_ _ | refine blk_drew ?_ | refine blk_alloc ?_ _)); exact BK232.out) hb); have n2_ := Aside0.mk (below_step (by repeat (first | (with_reducible first | exact HB.out | apply below_alloc | apply pw_below_drewN | apply below_drew1 | refine below_set ?_ GE232.out) | exact HB.out)) hb); clear HO_30; clear BK232; clear HB; have HO_30 := n0_; have BK232 := n1_; have HB := n2_; clear n0_ n1_ n2_; (try clear hb); (try clear hb2); (try clear hk); (try clear hi)) | ((with_reducible refine gate_callee (f := 9) rfl ?_); refine goesL_ (some 48) rfl rfl Try.func9 (by kernel_rfl) rfl #[.string (rdOf ByteArray.empty y215 (ji7)), .string t233] rfl (by (try simp only [List.map_toArray, List.map_cons, List.map_nil]); first | done | (simp only [hji7]; rfl) | rfl | (simp only [List.length_drop, List.length_take]; rfl)) ?_; (with_reducible refine (target_Parse.calls k1 (rdOf ByteArray.empty y215 (ji7)) t233 t234 t235 t236 t237 t238 t239 _ A32.out).mono ?_); rintro e w39 ⟨rfl, hb⟩; refine ⟨_, rfl, ?_⟩; have n0_ := Aside0.mk (Kd.R_below (by (with_reducible repeat (first | apply Kd.R_alloc | apply Kd.R_drewN | apply Kd.R_drew)); exact HO_30.out) hb); have n1_ := Aside0.mk (blk_below (g := gb232) (o := .cells #[.int .i64 t226, .string t227, .string t228, .string t229, .bool t230] 27 (0, 0)) (by (with_reducible repeat (first | refine blk_drewN ?_ _ | refine blk_drew ?_ | refine blk_alloc ?_ _)); exact BK232.out) hb); have n2_ := Aside0.mk (below_step (by repeat (first | (with_reducible first | exact HB.out | apply below_alloc | apply pw_below_drewN | apply below_drew1 | refine below_set ?_ GE232.out) | exact HB.out)) hb); clear HO_30; clear BK232; clear HB; have HO_30 := n0_; have BK232 := n1_; have HB := n2_; clear n0_ n1_ n2_; (try clear hb); (try clear hb2); (try clear hk); (try clear hi)) | ((with_reducible refine gate_dst (N := 10) rfl ?_); refine box_event ?hg (N := 10) ?hd (cs := #[.int .i64 0, .string (⟨#[]⟩ : ByteArray), .string (⟨#[]⟩ : ByteArray), .string (⟨#[]⟩ : ByteArray), .bool false]) (t := 27) ?hr ?_; (case hd => rfl); (case hg => rfl); (case hr => first | (go_simp; done) | (go_simp; rfl)); intro gb240 hg w40 hbox hb; have n0_ := Aside0.mk (Kd.R_below (by (with_reducible repeat (first | apply Kd.R_alloc | apply Kd.R_drewN | apply Kd.R_drew)); exact HO_30.out) hb); have n1_ := Aside0.mk (blk_below (g := gb232) (o := .cells #[.int .i64 t226, .string t227, .string t228, .string t229, .bool t230] 27 (0, 0)) (by (with_reducible repeat (first | refine blk_drewN ?_ _ | refine blk_drew ?_ | refine blk_alloc ?_ _)); exact BK232.out) hb); have n2_ := Aside0.mk (below_step (by repeat (first | (with_reducible first | exact HB.out | apply below_alloc | apply pw_below_drewN | apply below_drew1 | refine below_set ?_ GE232.out) | exact HB.out)) hb); have n3_ := Aside0.mk (hbox); have n4_ := Aside0.mk ((by rw [hg]; exact (below_size (by repeat (first | (with_reducible first | exact HB.out | apply below_alloc | apply pw_below_drewN | apply below_drew1 | refine below_set ?_ GE232.out) | exact HB.out))) : w.heap.size ≤ gb240)); have n5_ := Aside0.mk ((by rw [hg]; exact (below_size (by repeat (first | (with_reducible first | exact HB.out | apply below_alloc | apply pw_below_drewN | apply below_drew1 | refine below_set ?_ GE232.out) | exact HB.out))) : w.heap.size ≤ gb240)); have n6_ := Aside0.mk ((by rw [hg]; exact Nat.ne_of_lt (blk_lt (g := gb232) (o := .cells #[.int .i64 t226, .string t227, .string t228, .string t229, .bool t230] 27 (0, 0)) (by (with_reducible repeat (first | refine blk_drewN ?_ _ | refine blk_drew ?_ | refine blk_alloc ?_ _)); exact BK232.out)) : gb232 ≠ gb240)); have n7_ := Aside0.mk ((by rw [hg]; exact Nat.ne_of_gt (blk_lt (g := gb232) (o := .cells #[.int .i64 t226, .string t227, .string t228, .string t229, .bool t230] 27 (0, 0)) (by (with_reducible repeat (first | refine blk_drewN ?_ _ | refine blk_drew ?_ | refine blk_alloc ?_ _)); exact BK232.out)) : gb240 ≠ gb232)); clear HO_30; clear BK232; clear HB; have HO_30 := n0_; have BK232 := n1_; have HB := n2_; have BK240 := n3_; have GW240 := n4_; have GE240 := n5_; have NB232_240 := n6_; have NB240_232 := n7_; clear n0_ n1_ n2_ n3_ n4_ n5_ n6_ n7_; clear hb hbox hg; have hnb41 := NB240_232.out; have hnc41 := NB232_240.out; have hcz42_0 : w40.cell? ⟨gb240, 0, none⟩ = some (.int .i64 0) := (blk_cell BK240.out 0).trans rfl; have hcz42_1 : w40.cell? ⟨gb240, 1, none⟩ = some (.string (⟨#[]⟩ : ByteArray)) := (blk_cell BK240.out 1).trans rfl; have hcz42_2 : w40.cell? ⟨gb240, 2, none⟩ = some (.string (⟨#[]⟩ : ByteArray)) := (blk_cell BK240.out 2).trans rfl; have hcz42_3 : w40.cell? ⟨gb240, 3, none⟩ = some (.string (⟨#[]⟩ : ByteArray)) := (blk_cell BK240.out 3).trans rfl; have hcz42_4 : w40.cell? ⟨gb240, 4, none⟩ = some (.bool false) := (blk_cell BK240.out 4).trans rfl; have hfz42_0 := blk_frozen BK240.out 0; have hfz42_1 := blk_frozen BK240.out 1; have hfz42_2 := blk_frozen BK240.out 2; have hfz42_3 := blk_frozen BK240.out 3; have hfz42_4 := blk_frozen BK240.out 4; have hcz43_0 : w40.cell? ⟨gb232, 0, none⟩ = some (.int .i64 t226) := (blk_cell BK232.out 0).trans rfl; have hcz43_1 : w40.cell? ⟨gb232, 1, none⟩ = some (.string t227) := (blk_cell BK232.out 1).trans rfl; have hcz43_2 : w40.cell? ⟨gb232, 2, none⟩ = some (.string t228) := (blk_cell BK232.out 2).trans rfl; have hcz43_3 : w40.cell? ⟨gb232, 3, none⟩ = some (.string t229) := (blk_cell BK232.out 3).trans rfl; have hcz43_4 : w40.cell? ⟨gb232, 4, none⟩ = some (.bool t230) := (blk_cell BK232.out 4).trans rfl; have hfz43_0 := blk_frozen BK232.out 0; have hfz43_1 := blk_frozen BK232.out 1; have hfz43_2 := blk_frozen BK232.out 2; have hfz43_3 := blk_frozen BK232.out 3; have hfz43_4 := blk_frozen BK232.out 4) | (go_at_call 9; (with_reducible refine (target_Parse.calls k1 (rdOf ByteArray.empty y215 (ji7)) (rdOf ByteArray.empty y222 x32_1) t226 t227 t228 t229 t230 t231 _ A29.out).mono ?_); rintro e w35 ⟨rfl, hb⟩; have n0_ := Aside0.mk (Kd.R_below (by (with_reducible repeat (first | apply Kd.R_alloc | apply Kd.R_drewN | apply Kd.R_drew)); exact HO_30.out) hb); have n1_ := Aside0.mk (below_step (by repeat (first | (with_reducible first | exact HB.out | apply below_alloc | apply pw_below_drewN | apply below_drew1) | exact HB.out)) hb); clear HO_30; clear HB; have HO_30 := n0_; have HB := n1_; clear n0_ n1_; (try clear hb); (try clear hb2); (try clear hk); (try clear hi)) | (go_at_call 11; (with_reducible refine (target_Put.calls k1 t226 t227 t228 t229 t230 t233 _ A31.out).mono ?_); rintro e w38 ⟨rfl, hb⟩; have n0_ := Aside0.mk (Kd.R_below (by (with_reducible repeat (first | apply Kd.R_alloc | apply Kd.R_drewN | apply Kd.R_drew)); exact (Kd.R_mono (Kd.R_far (p := ⟨gb232, 4, none⟩) (Kd.R_far (p := ⟨gb232, 3, none⟩) (Kd.R_far (p := ⟨gb232, 2, none⟩) (Kd.R_far (p := ⟨gb232, 1, none⟩) (Kd.R_far (p := ⟨gb232, 0, none⟩) (Kd.R_types HO_30.out BK232.out (by decide)) (fun _ hk => (by first | exact hk.2 | exact True.intro)) (.int .i64 t226)) (fun _ hk => (by first | exact hk.2 | exact True.intro)) (.string t227)) (fun _ hk => (by first | exact hk.2 | exact True.intro)) (.string t228)) (fun _ hk => (by first | exact hk.2 | exact True.intro)) (.string t229)) (fun _ hk => (by first | exact hk.2 | exact True.intro)) (.bool t230)) (fun _ h_ => h_.1))) hb); have n1_ := Aside0.mk (blk_below (g := gb232) (o := .cells #[.int .i64 t226, .string t227, .string t228, .string t229, .bool t230] 27 (0, 0)) (by (with_reducible repeat (first | refine blk_drewN ?_ _ | refine blk_drew ?_ | refine blk_alloc ?_ _)); refine blk_put (cs := #[.int .i64 t226, .string t227, .string t228, .string t229, .bool false]) ?_ 4 _ rfl; (with_reducible repeat (first | refine blk_drewN ?_ _ | refine blk_drew ?_ | refine blk_alloc ?_ _)); refine blk_put (cs := #[.int .i64 t226, .string t227, .string t228, .string (⟨#[]⟩ : ByteArray), .bool false]) ?_ 3 _ rfl; (with_reducible repeat (first | refine blk_drewN ?_ _ | refine blk_drew ?_ | refine blk_alloc ?_ _)); refine blk_put (cs := #[.int .i64 t226, .string t227, .string (⟨#[]⟩ : ByteArray), .string (⟨#[]⟩ : ByteArray), .bool false]) ?_ 2 _ rfl; (with_reducible repeat (first | refine blk_drewN ?_ _ | refine blk_drew ?_ | refine blk_alloc ?_ _)); refine blk_put (cs := #[.int .i64 t226, .string (⟨#[]⟩ : ByteArray), .string (⟨#[]⟩ : ByteArray), .string (⟨#[]⟩ : ByteArray), .bool false]) ?_ 1 _ rfl; (with_reducible repeat (first | refine blk_drewN ?_ _ | refine blk_drew ?_ | refine blk_alloc ?_ _)); refine blk_put (cs := #[.int .i64 0, .string (⟨#[]⟩ : ByteArray), .string (⟨#[]⟩ : ByteArray), .string (⟨#[]⟩ : ByteArray), .bool false]) ?_ 0 _ rfl; (with_reducible repeat (first | refine blk_drewN ?_ _ | refine blk_drew ?_ | refine blk_alloc ?_ _)); exact BK232.out) hb); have n2_ := Aside0.mk (below_step (by repeat (first | (with_reducible first | exact HB.out | apply below_alloc | apply pw_below_drewN | apply below_drew1 | refine below_set ?_ GE232.out) | exact HB.out)) hb); clear HO_30; clear BK232; clear HB; have HO_30 := n0_; have BK232 := n1_; have HB := n2_; clear n0_ n1_ n2_; (try clear hb); (try clear hb2); (try clear hk); (try clear hi)) | (go_at_call 9; (with_reducible refine (target_Parse.calls k1 (rdOf ByteArray.empty y215 (ji7)) t233 t234 t235 t236 t237 t238 t239 _ A32.out).mono ?_); rintro e w39 ⟨rfl, hb⟩; have n0_ := Aside0.mk (Kd.R_below (by (with_reducible repeat (first | apply Kd.R_alloc | apply Kd.R_drewN | apply Kd.R_drew)); exact HO_30.out) hb); have n1_ := Aside0.mk (blk_below (g := gb232) (o := .cells #[.int .i64 t226, .string t227, .string t228, .string t229, .bool t230] 27 (0, 0)) (by (with_reducible repeat (first | refine blk_drewN ?_ _ | refine blk_drew ?_ | refine blk_alloc ?_ _)); exact BK232.out) hb); have n2_ := Aside0.mk (below_step (by repeat (first | (with_reducible first | exact HB.out | apply below_alloc | apply pw_below_drewN | apply below_drew1 | refine below_set ?_ GE232.out) | exact HB.out)) hb); clear HO_30; clear BK232; clear HB; have HO_30 := n0_; have BK232 := n1_; have HB := n2_; clear n0_ n1_ n2_; (try clear hb); (try clear hb2); (try clear hk); (try clear hi)))
                                (try any_goals (exfalso; have h_ := ‹some undef = some (Value.bool _)›; revert h_; simp [undef]; done))
                                go_meet
                                case rel => exact ⟨_, H', ⟨by have := HK1.out; first | omega | exact Nat.le_refl _⟩, ⟨by (with_reducible repeat (first | apply Kd.R_alloc | apply Kd.R_drewN | apply Kd.R_drew)); exact Kd.R_mono (Kd.R_far (p := ⟨gb240, 4, none⟩) (Kd.R_far (p := ⟨gb240, 3, none⟩) (Kd.R_far (p := ⟨gb240, 2, none⟩) (Kd.R_far (p := ⟨gb240, 1, none⟩) (Kd.R_far (p := ⟨gb240, 0, none⟩) (Kd.R_types HO_30.out BK240.out (by decide)) (fun _ hk => (by first | exact hk.2 | exact True.intro)) (.int .i64 t234)) (fun _ hk => (by first | exact hk.2 | exact True.intro)) (.string t235)) (fun _ hk => (by first | exact hk.2 | exact True.intro)) (.string t236)) (fun _ hk => (by first | exact hk.2 | exact True.intro)) (.string t237)) (fun _ hk => (by first | exact hk.2 | exact True.intro)) (.bool t238)) (fun _ hk => trivial)⟩, ⟨by repeat (first | (with_reducible first | exact HB.out | apply below_alloc | apply pw_below_drewN | apply below_drew1 | refine below_set ?_ GE232.out | refine below_set ?_ GE240.out) | exact HB.out)⟩⟩
                            · rw [if_neg c33] at H
                              have c33b0 : (t239 == 0) = false := beq_eq_false_iff_ne.mpr c33
                              have c33b1 : (t239 != 0) = true := bne_iff_ne.mpr c33
                              exact absurd ((Option.some.inj H).trans HT.out) (by decide)
                          · rw [if_neg c30] at H
                            have c30b0 : (t231 == 0) = false := beq_eq_false_iff_ne.mpr c30
                            have c30b1 : (t231 != 0) = true := bne_iff_ne.mpr c30
                            have H' := Aside0.mk H
                            clear H
                            have p225 : 0 ≤ (x32_1 : Int) := of_decide_eq_true (by first | (with_reducible assumption) | assumption)
                            have q225 : x32_1 < (y222.length : Int) := of_decide_eq_true (by first | (with_reducible assumption) | assumption)
                            obtain ⟨ad225, e225, hx225_0⟩ := Kd.at_string (Kd.R_reads' HO_30.out).2.2 x32_1 p225 q225
                            cases e225
                            replace p225 := eq_true p225
                            replace q225 := eq_true q225
                            go_wp2_with (first | ((with_reducible refine gate_callee (f := 9) rfl ?_); refine goesL_ (some 39) rfl rfl Try.func9 (by kernel_rfl) rfl #[.string (rdOf ByteArray.empty y215 (ji7)), .string (rdOf ByteArray.empty y222 x32_1)] rfl (by (try simp only [List.map_toArray, List.map_cons, List.map_nil]); first | done | (simp only [hji7]; rfl) | rfl | (simp only [List.length_drop, List.length_take]; rfl)) ?_; (with_reducible refine (target_Parse.calls k1 (rdOf ByteArray.empty y215 (ji7)) (rdOf ByteArray.empty y222 x32_1) t226 t227 t228 t229 t230 t231 _ A29.out).mono ?_); rintro e w44 ⟨rfl, hb⟩; refine ⟨_, rfl, ?_⟩; have n0_ := Aside0.mk (Kd.R_below (by (with_reducible repeat (first | apply Kd.R_alloc | apply Kd.R_drewN | apply Kd.R_drew)); exact HO_30.out) hb); have n1_ := Aside0.mk (below_step (by repeat (first | (with_reducible first | exact HB.out | apply below_alloc | apply pw_below_drewN | apply below_drew1) | exact HB.out)) hb); clear HO_30; clear HB; have HO_30 := n0_; have HB := n1_; clear n0_ n1_; (try clear hb); (try clear hb2); (try clear hk); (try clear hi)) | ((with_reducible refine gate_dst (N := 8) rfl ?_); refine box_event ?hg (N := 8) ?hd (cs := #[.int .i64 0, .string (⟨#[]⟩ : ByteArray), .string (⟨#[]⟩ : ByteArray), .string (⟨#[]⟩ : ByteArray), .bool false]) (t := 27) ?hr ?_; (case hd => rfl); (case hg => rfl); (case hr => first | (go_simp; done) | (go_simp; rfl)); intro gb232 hg w45 hbox hb; have n0_ := Aside0.mk (Kd.R_below (by (with_reducible repeat (first | apply Kd.R_alloc | apply Kd.R_drewN | apply Kd.R_drew)); exact HO_30.out) hb); have n1_ := Aside0.mk (below_step (by repeat (first | (with_reducible first | exact HB.out | apply below_alloc | apply pw_below_drewN | apply below_drew1) | exact HB.out)) hb); have n2_ := Aside0.mk (hbox); have n3_ := Aside0.mk ((by rw [hg]; exact (below_size (by repeat (first | (with_reducible first | exact HB.out | apply below_alloc | apply pw_below_drewN | apply below_drew1) | exact HB.out))) : w.heap.size ≤ gb232)); have n4_ := Aside0.mk ((by rw [hg]; exact (below_size (by repeat (first | (with_reducible first | exact HB.out | apply below_alloc | apply pw_below_drewN | apply below_drew1) | exact HB.out))) : w.heap.size ≤ gb232)); clear HO_30; clear HB; have HO_30 := n0_; have HB := n1_; have BK232 := n2_; have GW232 := n3_; have GE232 := n4_; clear n0_ n1_ n2_ n3_ n4_; clear hb hbox hg; have hcz46_0 : w45.cell? ⟨gb232, 0, none⟩ = some (.int .i64 0) := (blk_cell BK232.out 0).trans rfl; have hcz46_1 : w45.cell? ⟨gb232, 1, none⟩ = some (.string (⟨#[]⟩ : ByteArray)) := (blk_cell BK232.out 1).trans rfl; have hcz46_2 : w45.cell? ⟨gb232, 2, none⟩ = some (.string (⟨#[]⟩ : ByteArray)) := (blk_cell BK232.out 2).trans rfl; have hcz46_3 : w45.cell? ⟨gb232, 3, none⟩ = some (.string (⟨#[]⟩ : ByteArray)) := (blk_cell BK232.out 3).trans rfl; have hcz46_4 : w45.cell? ⟨gb232, 4, none⟩ = some (.bool false) := (blk_cell BK232.out 4).trans rfl; have hfz46_0 := blk_frozen BK232.out 0; have hfz46_1 := blk_frozen BK232.out 1; have hfz46_2 := blk_frozen BK232.out 2; have hfz46_3 := blk_frozen BK232.out 3; have hfz46_4 := blk_frozen BK232.out 4) | (go_at_call 9; (with_reducible refine (target_Parse.calls k1 (rdOf ByteArray.empty y215 (ji7)) (rdOf ByteArray.empty y222 x32_1) t226 t227 t228 t229 t230 t231 _ A29.out).mono ?_); rintro e w44 ⟨rfl, hb⟩; have n0_ := Aside0.mk (Kd.R_below (by (with_reducible repeat (first | apply Kd.R_alloc | apply Kd.R_drewN | apply Kd.R_drew)); exact HO_30.out) hb); have n1_ := Aside0.mk (below_step (by repeat (first | (with_reducible first | exact HB.out | apply below_alloc | apply pw_below_drewN | apply below_drew1) | exact HB.out)) hb); clear HO_30; clear HB; have HO_30 := n0_; have HB := n1_; clear n0_ n1_; (try clear hb); (try clear hb2); (try clear hk); (try clear hi)))
                            (try any_goals (exfalso; have h_ := ‹some undef = some (Value.bool _)›; revert h_; simp [undef]; done))
                            go_meet
                            case rel => exact ⟨_, H', ⟨by have := HK1.out; first | omega | exact Nat.le_refl _⟩, ⟨by (with_reducible repeat (first | apply Kd.R_alloc | apply Kd.R_drewN | apply Kd.R_drew)); exact Kd.R_mono (Kd.R_far (p := ⟨gb232, 4, none⟩) (Kd.R_far (p := ⟨gb232, 3, none⟩) (Kd.R_far (p := ⟨gb232, 2, none⟩) (Kd.R_far (p := ⟨gb232, 1, none⟩) (Kd.R_far (p := ⟨gb232, 0, none⟩) (Kd.R_types HO_30.out BK232.out (by decide)) (fun _ hk => (by first | exact hk.2 | exact True.intro)) (.int .i64 t226)) (fun _ hk => (by first | exact hk.2 | exact True.intro)) (.string t227)) (fun _ hk => (by first | exact hk.2 | exact True.intro)) (.string t228)) (fun _ hk => (by first | exact hk.2 | exact True.intro)) (.string t229)) (fun _ hk => (by first | exact hk.2 | exact True.intro)) (.bool t230)) (fun _ hk => trivial)⟩, ⟨by repeat (first | (with_reducible first | exact HB.out | apply below_alloc | apply pw_below_drewN | apply below_drew1 | refine below_set ?_ GE232.out) | exact HB.out)⟩⟩
                        · rw [if_neg c28] at H
                          exact absurd H (by simp)
                      · rw [if_neg c27] at H
                        exact absurd H (by simp)
                    case rest =>
                      clear HC26
                      try clear c1
                      try clear q1
                      try clear c2
                      try clear p2
                      try clear q2
                      try clear hx2
                      try clear c3
                      try clear c4
                      try clear c5
                      try clear c5b0
                      try clear c5b1
                      try clear c7
                      try clear c8
                      try clear c8b0
                      try clear c9
                      try clear c9b0
                      try clear c11
                      try clear c12
                      try clear c12b0
                      try clear c12b1
                      try clear c12b2
                      try clear c14
                      try clear c14b0
                      try clear c14b1
                      try clear c14b2
                      try clear p21
                      try clear q21
                      try clear hx21
                      try clear p22
                      try clear q22
                      try clear hx22
                      try clear c25
                      try clear c25b0
                      try clear c27
                      try clear c27b0
                      try clear c28
                      try clear c28b0
                      try clear c30
                      try clear c30b0
                      try clear c30b1
                      try clear c33
                      try clear c33b0
                      try clear c33b1
                      try clear c34
                      try clear c34b0
                      try clear c41
                      try clear hcz37_0
                      try clear hcz37_1
                      try clear hcz37_2
                      try clear hcz37_3
                      try clear hcz37_4
                      try clear hcz42_0
                      try clear hcz42_1
                      try clear hcz42_2
                      try clear hcz42_3
                      try clear hcz42_4
                      try clear hcz43_0
                      try clear hcz43_1
                      try clear hcz43_2
                      try clear hcz43_3
                      try clear hcz43_4
                      try clear hcz46_0
                      try clear hcz46_1
                      try clear hcz46_2
                      try clear hcz46_3
                      try clear hcz46_4
                      try clear hfz37_0
                      try clear hfz37_1
                      try clear hfz37_2
                      try clear hfz37_3
                      try clear hfz37_4
                      try clear hfz42_0
                      try clear hfz42_1
                      try clear hfz42_2
                      try clear hfz42_3
                      try clear hfz42_4
                      try clear hfz43_0
                      try clear hfz43_1
                      try clear hfz43_2
                      try clear hfz43_3
                      try clear hfz43_4
                      try clear hfz46_0
                      try clear hfz46_1
                      try clear hfz46_2
                      try clear hfz46_3
                      try clear hfz46_4
                      try clear hx218_0
                      try clear hx225_0
                      try clear p2
                      try clear p21
                      try clear p218
                      try clear p225
                      try clear q1
                      try clear q2
                      try clear q21
                      try clear q218
                      try clear q225
                      obtain ⟨kq, HA, HJ25, HO_30, HB⟩ := hcut
                      cases kq with
                      | zero => exact absurd HA.out (by simp [parallaxlaw7_TargetBack.j1])
                      | succ kj25 =>
                        have H := HA.out
                        clear HA
                        simp only [parallaxlaw7_TargetBack.j1] at H
                        have H' := Aside0.mk H
                        clear H
                        go_wp2
                        (try any_goals (exfalso; have h_ := ‹some undef = some (Value.bool _)›; revert h_; simp [undef]; done))
                        go_roundg kj25
                        case measure => have := HK1.out; have := HJ25.out; omega
                        case rel => exact ⟨(wrap64 (x32_1 + 1)), (by first | rfl | (simp; done) | (simp [*]; done)), H', ⟨by have := HK1.out; have := HJ25.out; omega⟩, ⟨by (with_reducible repeat (first | apply Kd.R_alloc | apply Kd.R_drewN | apply Kd.R_drew)); exact HO_30.out⟩, ⟨by repeat (first | (with_reducible first | exact HB.out | apply below_alloc | apply pw_below_drewN | apply below_drew1) | exact HB.out)⟩⟩
                  · rw [if_neg c25] at H
                    have c25b0 : decide (x32_1 < (y222.length : Int)) = false := decide_eq_false c25
                    clear c25
                    obtain rfl := Option.some.inj H
                    go_wp2
                    (try any_goals (exfalso; have h_ := ‹some undef = some (Value.bool _)›; revert h_; simp [undef]; done))
                    go_ret
                    exact ⟨by first | rfl | (simp [errW_none, errW_some] <;> rfl) | (simp only [← hji7]; first | rfl | (simp [errW_none, errW_some] <;> rfl)) | (simp [*, errW_none, errW_some] <;> rfl), by repeat (first | (with_reducible first | exact HB.out | apply below_alloc | apply pw_below_drewN | apply below_drew1) | exact HB.out)⟩
            · rw [if_neg c14] at H
              exact absurd H (by simp)
          · rw [if_neg c12] at H
            exact absurd H (by simp)
        · rw [if_neg c9] at H
          exact absurd H (by simp)
      · rw [if_neg c8] at H
        exact absurd H (by simp)
  · replace c4 := Bool.eq_false_iff.mpr c4
    subst c4
    rw [if_neg (show ¬ (false = true) by decide)] at H
    exact absurd ((Option.some.inj H).trans HT.out) (by decide)

/-- THE ONE PURE STATEMENT of parallaxlaw7_TargetBack: yours. -/
def parallaxlaw7_TargetBack.Pure : Prop := ∀ (l0 : List Int) (a1 : Int), l0.length ≤ maxLen → l0.length * 1 ≤ 140737488351232 → (∀ x ∈ l0, (Lit.int .u8 x).wf = true) → (Lit.int .u8 a1).wf = true → ∃ k, parallaxlaw7_TargetBack.f k l0 a1 = some true
theorem parallaxlaw7_TargetBack.walk (P : parallaxlaw7_TargetBack.Pure) (a0 : Option Addr) (len0 cap0 : Nat) (z0 : List Int) (a1 : Int) (w : World) (w0 : (a0 = none ∧ len0 = 0 ∧ cap0 = 0 ∧ z0 = []) ∨ ∃ x, a0 = some x ∧ len0 ≤ cap0 ∧ cap0 ≤ maxLen ∧ z0.length = cap0 ∧ (∀ i, i < z0.length → w.cell? (x.add i) = some (.int .u8 (z0.getD i 0))) ∧ ∀ n ∈ z0, (Lit.int .u8 n).wf = true) (y0 : len0 * 1 ≤ 140737488351232) (w1 : (Lit.int .u8 a1).wf = true) :
    Calls Try.prog 4 #[.slice a0 len0 cap0, .int .u8 a1] w fun e w' => e = .returned (.bool true) ∧ Below w.heap.size w w' := by
  obtain ⟨l0, rfl, hr0, hm0, hw0, hc0⟩ := ReadsInt.ofRowC w0
  obtain ⟨k, h⟩ := P l0 a1 hm0 y0 hw0 w1
  refine (parallaxlaw7_TargetBack.calls k _ _ l0 a1 true w (Kd.C_of_reads (d := (0 : Int)) (h1 := fun _ => rfl) hr0) hc0 w1 rfl h).mono ?_
  rintro e w' ⟨rfl, hd⟩
  exact ⟨rfl, hd⟩

end Go.Proofs.Ytnnehbbfokoklaa.PTargetBack
