-- Written by a program of this session (wip/tools/myprint.sh)
import Derived.Test.YtjpgnkkfkkpheaaDoorPTextLowerx0
import Derived.Test.YtjpgnkkfkkpheaaDoorPTextLowerx2
import Derived.Test.YtjpgnkkfkkpheaaDoorPTextLowerx3
namespace Go.Proofs.YtjpgnkkfkkpheaaDoor.PTextLower
open Go.RowKit Go.Proofs.YtjpgnkkfkkpheaaDoorW.PrintWords Go.Proofs.YtjpgnkkfkkpheaaDoorW.PrintLast Go.Proofs.YtjpgnkkfkkpheaaDoorW.PrintMore
attribute [local go_sem] max2_int min2_int max_two min_two max_three min_three max_four min_four   -- for this text's walks alone
set_option linter.unusedVariables false
set_option linter.unusedSimpArgs false

/-! ### parallaxlaw3_TextLower: function 5 -/
def parallaxlaw3_TextLower.l0 : Nat → List Int → Int → ByteArray → ByteArray → Int → Option (Bool)
  | 0, _, _, _, _, _ => none
  | k + 1, x0, x1, x5, x6, x7 => if x7 < (x5.size : Int) then (if 0 ≤ x7 then (if (bt x5 x7) ≥ 65 then (if (bt x5 x7) ≤ 90 then (if x7 < (x6.size : Int) then (if (bt x6 x7) = (((bt x5 x7) + 32) % 256) then (parallaxlaw3_TextLower.l0 k x0 x1 x5 x6 (wrap64 (x7 + 1))) else (some false)) else (none)) else (if x7 < (x6.size : Int) then (if (bt x6 x7) = (bt x5 x7) then (parallaxlaw3_TextLower.l0 k x0 x1 x5 x6 (wrap64 (x7 + 1))) else (some false)) else (none))) else (if x7 < (x6.size : Int) then (if (bt x6 x7) = (bt x5 x7) then (parallaxlaw3_TextLower.l0 k x0 x1 x5 x6 (wrap64 (x7 + 1))) else (some false)) else (none))) else (none)) else (if (x0.length : Int) = 0 then (some true) else (if ([] : List Int).length + x0.length < 140737488355328 then ((some (([] : List Int) ++ x0 : List Int)).bind fun y173 => (if (y173.length : Int) = 0 then (none) else (if 0 ≤ (Int.tmod (wrap64 (x1)) (y173.length : Int)) then (if (Int.tmod (wrap64 (x1)) (y173.length : Int)) < (y173.length : Int) then (if 0 ≤ (Int.tmod (wrap64 (x1)) (x0.length : Int)) then (if (Int.tmod (wrap64 (x1)) (x0.length : Int)) < (x0.length : Int) then ((text_Same.f x5 (strOfNums (y173.set ((Int.tmod (wrap64 (x1)) (y173.length : Int)) : Int).toNat (Go.bits .xor .u8 (rd y173 (Int.tmod (wrap64 (x1)) (y173.length : Int))) 32)))).bind fun t179 => (if (Go.bits .or .u8 (rd x0 (Int.tmod (wrap64 (x1)) (x0.length : Int))) 32) ≥ 97 then (some (t179 == (decide ((Go.bits .or .u8 (rd x0 (Int.tmod (wrap64 (x1)) (x0.length : Int))) 32) ≤ 122)))) else (some (t179 == false)))) else (none)) else (none)) else (none)) else (none)))) else (none)))
def parallaxlaw3_TextLower.f (k : Nat) (l0 : List Int) (a1 : Int) : Option (Bool) := (parallaxlaw3_known.f k).bind fun t170 => (if t170 = true then (if (l0.length : Int) > 80 then (some true) else ((text_Lower.f (strOfNums l0)).bind fun t171 => (if (t171.size : Int) = ((strOfNums l0).size : Int) then ((text_Lower.f t171).bind fun t172 => (if t172.toList = t171.toList then (parallaxlaw3_TextLower.l0 k l0 a1 (strOfNums l0) t171 0) else (some false))) else (some false)))) else (some false))
theorem parallaxlaw3_TextLower.mono_l : ∀ k, (∀ y0 y1 y2 y3 y4, LeO (parallaxlaw3_TextLower.l0 k y0 y1 y2 y3 y4) (parallaxlaw3_TextLower.l0 (k + 1) y0 y1 y2 y3 y4))
  | 0 => fun _ _ _ _ _ r h => by simp [parallaxlaw3_TextLower.l0] at h
  | k + 1 => by
    have ih0 := parallaxlaw3_TextLower.mono_l k
    · intro y0 y1 y2 y3 y4
      unfold parallaxlaw3_TextLower.l0
      repeat' first
      | (with_reducible exact ih0 _ _ _ _ _)
      | (with_reducible exact parallaxlaw3_known.mono _)
      | (with_reducible exact LeO.refl _)
      | (with_reducible exact LeO.none _)
      | (with_reducible refine LeO.ite ?_ ?_)
      | (with_reducible refine LeO.bind ?_ (fun _ => ?_))
      | exact ih0 _ _ _ _ _
      | exact parallaxlaw3_known.mono _
      | exact LeO.none _
      | refine LeO.ite ?_ ?_
      | refine LeO.bind ?_ (fun _ => ?_)
theorem parallaxlaw3_TextLower.mono : ∀ a0 a1 k, LeO (parallaxlaw3_TextLower.f k a0 a1) (parallaxlaw3_TextLower.f (k + 1) a0 a1) := by
  intro a0 a1 k
  have ih0 := parallaxlaw3_TextLower.mono_l k
  unfold parallaxlaw3_TextLower.f
  repeat' first
      | (with_reducible exact ih0 _ _ _ _ _)
      | (with_reducible exact parallaxlaw3_known.mono _)
      | (with_reducible exact LeO.refl _)
      | (with_reducible exact LeO.none _)
      | (with_reducible refine LeO.ite ?_ ?_)
      | (with_reducible refine LeO.bind ?_ (fun _ => ?_))
      | exact ih0 _ _ _ _ _
      | exact parallaxlaw3_known.mono _
      | exact LeO.none _
      | refine LeO.ite ?_ ?_
      | refine LeO.bind ?_ (fun _ => ?_)
set_option maxHeartbeats 8000000 in
set_option maxRecDepth 100000 in
theorem parallaxlaw3_TextLower.calls (k : Nat) (A0 : Option Addr) (c0 : Nat) (l0 : List Int) (a1 : Int) (r : Bool) (w : World) (hr0 : Kd.C (Kd.int .u8) w A0 l0.length l0) (hc0 : l0.length ≤ c0) (hq1 : (Lit.int .u8 a1).wf = true) (hT : r = true) (h : parallaxlaw3_TextLower.f k l0 a1 = some r) :
    Calls Tryd.prog 5 #[.slice A0 l0.length c0, .int .u8 a1] w fun e w' => e = .returned (.bool r) ∧ Below w.heap.size w w' := by
  have HQ1 := Aside0.mk hq1
  clear hq1
  have HT := Aside0.mk hT
  clear hT
  have HR0 := Aside0.mk hr0
  have HC0 := Aside0.mk hc0
  clear hr0 hc0
  have HB := Aside0.mk (Below.refl w.heap.size w)
  have H : ((parallaxlaw3_known.f k).bind fun t170 => (if t170 = true then (if (l0.length : Int) > 80 then (some true) else ((text_Lower.f (strOfNums l0)).bind fun t171 => (if (t171.size : Int) = ((strOfNums l0).size : Int) then ((text_Lower.f t171).bind fun t172 => (if t172.toList = t171.toList then (parallaxlaw3_TextLower.l0 k l0 a1 (strOfNums l0) t171 0) else (some false))) else (some false)))) else (some false))) = some r := h
  clear h
  replace H := Option.bind_eq_some_iff.mp H
  obtain ⟨t170, A30, H⟩ := H
  (try dsimp only at H)
  have A3 := Aside0.mk A30
  clear A30
  by_cases c4 : t170 = true
  · subst c4
    rw [if_pos rfl] at H
    by_cases c5 : (l0.length : Int) > 80
    · rw [if_pos c5] at H
      have c5b0 : decide (80 < (l0.length : Int)) = true := decide_eq_true c5
      have c5b1 : decide (80 < l0.length) = true := decide_eq_true (by omega)
      clear c5
      obtain rfl := Option.some.inj H
      go_enter Tryd.func5, Tryd.ntmps5
      go_wp2_with (first | ((with_reducible refine gate_callee (f := 7) rfl ?_); refine goesL_ (some 11) rfl rfl Tryd.func7 (by kernel_rfl) rfl #[] rfl (by (try simp only [List.map_toArray, List.map_cons, List.map_nil]); first | done | rfl | (simp only [List.length_drop, List.length_take]; rfl)) ?_; (with_reducible refine (parallaxlaw3_known.calls k  true _ A3.out).mono ?_); rintro e w6 ⟨rfl, hb⟩; refine ⟨_, rfl, ?_⟩; have n0_ := Aside0.mk (below_step (by repeat (first | (with_reducible first | exact HB.out | apply below_alloc | apply pw_below_drewN | apply below_drew1) | exact HB.out)) hb); clear HB; have HB := n0_; clear n0_; (try clear hb); (try clear hb2); (try clear hk); (try clear hi)) | (go_at_call 7; (with_reducible refine (parallaxlaw3_known.calls k  true _ A3.out).mono ?_); rintro e w6 ⟨rfl, hb⟩; have n0_ := Aside0.mk (below_step (by repeat (first | (with_reducible first | exact HB.out | apply below_alloc | apply pw_below_drewN | apply below_drew1) | exact HB.out)) hb); clear HB; have HB := n0_; clear n0_; (try clear hb); (try clear hb2); (try clear hk); (try clear hi)))
      (try any_goals (exfalso; have h_ := ‹some undef = some (Value.bool _)›; revert h_; simp [undef]; done))
      go_ret
      exact ⟨by first | rfl | (simp [errW_none, errW_some] <;> rfl) | (simp [*, errW_none, errW_some] <;> rfl), by repeat (first | (with_reducible first | exact HB.out | apply below_alloc | apply pw_below_drewN | apply below_drew1) | exact HB.out)⟩
    · rw [if_neg c5] at H
      have c5b0 : decide (80 < (l0.length : Int)) = false := decide_eq_false c5
      have c5b1 : decide (80 < l0.length) = false := decide_eq_false (by omega)
      clear c5
      replace H := Option.bind_eq_some_iff.mp H
      obtain ⟨t171, A70, H⟩ := H
      (try dsimp only at H)
      have A7 := Aside0.mk A70
      clear A70
      by_cases c8 : (t171.size : Int) = ((strOfNums l0).size : Int)
      · rw [if_pos c8] at H
        have c8b0 : ((t171.size : Int) == ((strOfNums l0).size : Int)) = true := beq_iff_eq.mpr c8
        have c8b1 : ((t171.size : Int) != ((strOfNums l0).size : Int)) = false := bne_eq_false_iff_eq.mpr c8
        have c8b2 : (t171.size == (strOfNums l0).size) = true := by first | simpa using c8 | (simp at c8 ⊢; omega)
        clear c8
        replace H := Option.bind_eq_some_iff.mp H
        obtain ⟨t172, A90, H⟩ := H
        (try dsimp only at H)
        have A9 := Aside0.mk A90
        clear A90
        by_cases c10 : t172.toList = t171.toList
        · rw [if_pos c10] at H
          have c10b0 : (t172.toList == t171.toList) = true := beq_iff_eq.mpr c10
          have c10b1 : (t172.toList != t171.toList) = false := bne_eq_false_iff_eq.mpr c10
          clear c10
          have H' := Aside0.mk H
          clear H
          go_enter Tryd.func5, Tryd.ntmps5
          go_wp2_with (first | ((with_reducible refine gate_callee (f := 7) rfl ?_); refine goesL_ (some 11) rfl rfl Tryd.func7 (by kernel_rfl) rfl #[] rfl (by (try simp only [List.map_toArray, List.map_cons, List.map_nil]); first | done | rfl | (simp only [List.length_drop, List.length_take]; rfl)) ?_; (with_reducible refine (parallaxlaw3_known.calls k  true _ A3.out).mono ?_); rintro e w11 ⟨rfl, hb⟩; refine ⟨_, rfl, ?_⟩; have n0_ := Aside0.mk (below_step (by repeat (first | (with_reducible first | exact HB.out | apply below_alloc | apply pw_below_drewN | apply below_drew1) | exact HB.out)) hb); clear HB; have HB := n0_; clear n0_; (try clear hb); (try clear hb2); (try clear hk); (try clear hi); have hcv12 := Kd.C_string (P := Tryd.prog) (A := A0) (c := c0) Tryd.underlying32 Tryd.underlying5 Tryd.underlying9 (Kd.C_below HR0.out HB.out)) | ((with_reducible refine gate_callee (f := 9) rfl ?_); refine goesL_ (some 19) rfl rfl Tryd.func9 (by kernel_rfl) rfl #[.string (strOfNums l0)] rfl (by (try simp only [List.map_toArray, List.map_cons, List.map_nil]); first | done | rfl | (simp only [List.length_drop, List.length_take]; rfl)) ?_; (with_reducible refine (text_Lower.calls (strOfNums l0) t171 _ A7.out).mono ?_); rintro e w13 ⟨rfl, hb⟩; refine ⟨_, rfl, ?_⟩; have n0_ := Aside0.mk (below_step (by repeat (first | (with_reducible first | exact HB.out | apply below_alloc | apply pw_below_drewN | apply below_drew1) | exact HB.out)) hb); clear HB; have HB := n0_; clear n0_; (try clear hb); (try clear hb2); (try clear hk); (try clear hi)) | (go_at_call 9; (with_reducible refine (text_Lower.calls t171 t172 _ A9.out).mono ?_); rintro e w14 ⟨rfl, hb⟩; have n0_ := Aside0.mk (below_step (by repeat (first | (with_reducible first | exact HB.out | apply below_alloc | apply pw_below_drewN | apply below_drew1) | exact HB.out)) hb); clear HB; have HB := n0_; clear n0_; (try clear hb); (try clear hb2); (try clear hk); (try clear hi)) | (go_at_call 7; (with_reducible refine (parallaxlaw3_known.calls k  true _ A3.out).mono ?_); rintro e w11 ⟨rfl, hb⟩; have n0_ := Aside0.mk (below_step (by repeat (first | (with_reducible first | exact HB.out | apply below_alloc | apply pw_below_drewN | apply below_drew1) | exact HB.out)) hb); clear HB; have HB := n0_; clear n0_; (try clear hb); (try clear hb2); (try clear hk); (try clear hi); have hcv12 := Kd.C_string (P := Tryd.prog) (A := A0) (c := c0) Tryd.underlying32 Tryd.underlying5 Tryd.underlying9 (Kd.C_below HR0.out HB.out)) | (go_at_call 9; (with_reducible refine (text_Lower.calls (strOfNums l0) t171 _ A7.out).mono ?_); rintro e w13 ⟨rfl, hb⟩; have n0_ := Aside0.mk (below_step (by repeat (first | (with_reducible first | exact HB.out | apply below_alloc | apply pw_below_drewN | apply below_drew1) | exact HB.out)) hb); clear HB; have HB := n0_; clear n0_; (try clear hb); (try clear hb2); (try clear hk); (try clear hi)))
          (try any_goals (exfalso; have h_ := ‹some undef = some (Value.bool _)›; revert h_; simp [undef]; done))
          go_loopg [7] k (fun kq v7 w' => ∃ (x7_1 : Int), v7 = .int .i64 x7_1 ∧ Aside0 (parallaxlaw3_TextLower.l0 kq l0 a1 (strOfNums l0) t171 x7_1 = some r) ∧ Aside0 (kq ≤ k) ∧ Aside0 (Below w.heap.size w w'))
          case atStart => exact ⟨(0), (by first | rfl | (simp; done) | (simp [*]; done)), H', ⟨Nat.le_refl _⟩, ⟨by repeat (first | (with_reducible first | exact HB.out | apply below_alloc | apply pw_below_drewN | apply below_drew1) | exact HB.out)⟩⟩
          case round =>
            clear H'
            try clear c1
            try clear q1
            try clear hcv1
            try clear p2
            try clear c4
            try clear c5
            try clear c5b0
            try clear c5b1
            try clear c7
            try clear c8
            try clear c8b0
            try clear c8b1
            try clear c8b2
            try clear c9
            try clear c10
            try clear c10b0
            try clear c10b1
            try clear hcv12
            obtain ⟨x7_1, rfl, HA, HK1, HB⟩ := hrel
            cases gk with
            | zero => exact absurd HA.out (by simp [parallaxlaw3_TextLower.l0])
            | succ k1 =>
              have H := HA.out
              clear HA
              simp only [parallaxlaw3_TextLower.l0] at H
              by_cases c15 : x7_1 < ((strOfNums l0).size : Int)
              · rw [if_pos c15] at H
                have c15b0 : decide (x7_1 < ((strOfNums l0).size : Int)) = true := decide_eq_true c15
                clear c15
                by_cases c16 : 0 ≤ x7_1
                · rw [if_pos c16] at H
                  have c16b0 : decide (0 ≤ x7_1) = true := decide_eq_true c16
                  clear c16
                  by_cases c18 : (bt (strOfNums l0) x7_1) ≥ 65
                  · rw [if_pos c18] at H
                    have c18b0 : decide (65 ≤ (bt (strOfNums l0) x7_1)) = true := decide_eq_true c18
                    clear c18
                    by_cases c19 : (bt (strOfNums l0) x7_1) ≤ 90
                    · rw [if_pos c19] at H
                      have c19b0 : decide ((bt (strOfNums l0) x7_1) ≤ 90) = true := decide_eq_true c19
                      clear c19
                      by_cases c20 : x7_1 < (t171.size : Int)
                      · rw [if_pos c20] at H
                        have c20b0 : decide (x7_1 < (t171.size : Int)) = true := decide_eq_true c20
                        clear c20
                        by_cases c22 : (bt t171 x7_1) = (((bt (strOfNums l0) x7_1) + 32) % 256)
                        · rw [if_pos c22] at H
                          have c22b0 : ((bt t171 x7_1) == (((bt (strOfNums l0) x7_1) + 32) % 256)) = true := beq_iff_eq.mpr c22
                          have c22b1 : ((bt t171 x7_1) != (((bt (strOfNums l0) x7_1) + 32) % 256)) = false := bne_eq_false_iff_eq.mpr c22
                          clear c22
                          have H' := Aside0.mk H
                          clear H
                          have p17 : 0 ≤ (x7_1 : Int) := of_decide_eq_true (by first | (with_reducible assumption) | assumption)
                          have q17 : x7_1 < ((strOfNums l0).size : Int) := of_decide_eq_true (by first | (with_reducible assumption) | assumption)
                          have hx17 := bt_at (strOfNums l0) x7_1
                          replace p17 := eq_true p17
                          replace q17 := eq_true q17
                          have p21 : 0 ≤ (x7_1 : Int) := of_decide_eq_true (by first | (with_reducible assumption) | assumption)
                          have q21 : x7_1 < (t171.size : Int) := of_decide_eq_true (by first | (with_reducible assumption) | assumption)
                          have hx21 := bt_at t171 x7_1
                          replace p21 := eq_true p21
                          replace q21 := eq_true q21
                          go_wp2
                          (try any_goals (exfalso; have h_ := ‹some undef = some (Value.bool _)›; revert h_; simp [undef]; done))
                          go_roundg k1
                          case measure => have := HK1.out; omega
                          case rel => exact ⟨(wrap64 (x7_1 + 1)), (by first | rfl | (simp; done) | (simp [*]; done)), H', ⟨by have := HK1.out; omega⟩, ⟨by repeat (first | (with_reducible first | exact HB.out | apply below_alloc | apply pw_below_drewN | apply below_drew1) | exact HB.out)⟩⟩
                        · rw [if_neg c22] at H
                          have c22b0 : ((bt t171 x7_1) == (((bt (strOfNums l0) x7_1) + 32) % 256)) = false := beq_eq_false_iff_ne.mpr c22
                          have c22b1 : ((bt t171 x7_1) != (((bt (strOfNums l0) x7_1) + 32) % 256)) = true := bne_iff_ne.mpr c22
                          exact absurd ((Option.some.inj H).trans HT.out) (by decide)
                      · rw [if_neg c20] at H
                        exact absurd H (by simp)
                    · rw [if_neg c19] at H
                      have c19b0 : decide ((bt (strOfNums l0) x7_1) ≤ 90) = false := decide_eq_false c19
                      clear c19
                      by_cases c23 : x7_1 < (t171.size : Int)
                      · rw [if_pos c23] at H
                        have c23b0 : decide (x7_1 < (t171.size : Int)) = true := decide_eq_true c23
                        clear c23
                        by_cases c25 : (bt t171 x7_1) = (bt (strOfNums l0) x7_1)
                        · rw [if_pos c25] at H
                          have c25b0 : ((bt t171 x7_1) == (bt (strOfNums l0) x7_1)) = true := beq_iff_eq.mpr c25
                          have c25b1 : ((bt t171 x7_1) != (bt (strOfNums l0) x7_1)) = false := bne_eq_false_iff_eq.mpr c25
                          clear c25
                          have H' := Aside0.mk H
                          clear H
                          have p17 : 0 ≤ (x7_1 : Int) := of_decide_eq_true (by first | (with_reducible assumption) | assumption)
                          have q17 : x7_1 < ((strOfNums l0).size : Int) := of_decide_eq_true (by first | (with_reducible assumption) | assumption)
                          have hx17 := bt_at (strOfNums l0) x7_1
                          replace p17 := eq_true p17
                          replace q17 := eq_true q17
                          have p24 : 0 ≤ (x7_1 : Int) := of_decide_eq_true (by first | (with_reducible assumption) | assumption)
                          have q24 : x7_1 < (t171.size : Int) := of_decide_eq_true (by first | (with_reducible assumption) | assumption)
                          have hx24 := bt_at t171 x7_1
                          replace p24 := eq_true p24
                          replace q24 := eq_true q24
                          go_wp2
                          (try any_goals (exfalso; have h_ := ‹some undef = some (Value.bool _)›; revert h_; simp [undef]; done))
                          go_roundg k1
                          case measure => have := HK1.out; omega
                          case rel => exact ⟨(wrap64 (x7_1 + 1)), (by first | rfl | (simp; done) | (simp [*]; done)), H', ⟨by have := HK1.out; omega⟩, ⟨by repeat (first | (with_reducible first | exact HB.out | apply below_alloc | apply pw_below_drewN | apply below_drew1) | exact HB.out)⟩⟩
                        · rw [if_neg c25] at H
                          have c25b0 : ((bt t171 x7_1) == (bt (strOfNums l0) x7_1)) = false := beq_eq_false_iff_ne.mpr c25
                          have c25b1 : ((bt t171 x7_1) != (bt (strOfNums l0) x7_1)) = true := bne_iff_ne.mpr c25
                          exact absurd ((Option.some.inj H).trans HT.out) (by decide)
                      · rw [if_neg c23] at H
                        exact absurd H (by simp)
                  · rw [if_neg c18] at H
                    have c18b0 : decide (65 ≤ (bt (strOfNums l0) x7_1)) = false := decide_eq_false c18
                    clear c18
                    by_cases c26 : x7_1 < (t171.size : Int)
                    · rw [if_pos c26] at H
                      have c26b0 : decide (x7_1 < (t171.size : Int)) = true := decide_eq_true c26
                      clear c26
                      by_cases c28 : (bt t171 x7_1) = (bt (strOfNums l0) x7_1)
                      · rw [if_pos c28] at H
                        have c28b0 : ((bt t171 x7_1) == (bt (strOfNums l0) x7_1)) = true := beq_iff_eq.mpr c28
                        have c28b1 : ((bt t171 x7_1) != (bt (strOfNums l0) x7_1)) = false := bne_eq_false_iff_eq.mpr c28
                        clear c28
                        have H' := Aside0.mk H
                        clear H
                        have p17 : 0 ≤ (x7_1 : Int) := of_decide_eq_true (by first | (with_reducible assumption) | assumption)
                        have q17 : x7_1 < ((strOfNums l0).size : Int) := of_decide_eq_true (by first | (with_reducible assumption) | assumption)
                        have hx17 := bt_at (strOfNums l0) x7_1
                        replace p17 := eq_true p17
                        replace q17 := eq_true q17
                        have p27 : 0 ≤ (x7_1 : Int) := of_decide_eq_true (by first | (with_reducible assumption) | assumption)
                        have q27 : x7_1 < (t171.size : Int) := of_decide_eq_true (by first | (with_reducible assumption) | assumption)
                        have hx27 := bt_at t171 x7_1
                        replace p27 := eq_true p27
                        replace q27 := eq_true q27
                        go_wp2
                        (try any_goals (exfalso; have h_ := ‹some undef = some (Value.bool _)›; revert h_; simp [undef]; done))
                        go_roundg k1
                        case measure => have := HK1.out; omega
                        case rel => exact ⟨(wrap64 (x7_1 + 1)), (by first | rfl | (simp; done) | (simp [*]; done)), H', ⟨by have := HK1.out; omega⟩, ⟨by repeat (first | (with_reducible first | exact HB.out | apply below_alloc | apply pw_below_drewN | apply below_drew1) | exact HB.out)⟩⟩
                      · rw [if_neg c28] at H
                        have c28b0 : ((bt t171 x7_1) == (bt (strOfNums l0) x7_1)) = false := beq_eq_false_iff_ne.mpr c28
                        have c28b1 : ((bt t171 x7_1) != (bt (strOfNums l0) x7_1)) = true := bne_iff_ne.mpr c28
                        exact absurd ((Option.some.inj H).trans HT.out) (by decide)
                    · rw [if_neg c26] at H
                      exact absurd H (by simp)
                · rw [if_neg c16] at H
                  exact absurd H (by simp)
              · rw [if_neg c15] at H
                have c15b0 : decide (x7_1 < ((strOfNums l0).size : Int)) = false := decide_eq_false c15
                clear c15
                by_cases c29 : (l0.length : Int) = 0
                · rw [if_pos c29] at H
                  have c29b0 : ((l0.length : Int) == 0) = true := beq_iff_eq.mpr c29
                  have c29b1 : ((l0.length : Int) != 0) = false := bne_eq_false_iff_eq.mpr c29
                  clear c29
                  obtain rfl := Option.some.inj H
                  go_wp2
                  (try any_goals (exfalso; have h_ := ‹some undef = some (Value.bool _)›; revert h_; simp [undef]; done))
                  go_ret
                  exact ⟨by first | rfl | (simp [errW_none, errW_some] <;> rfl) | (simp [*, errW_none, errW_some] <;> rfl), by repeat (first | (with_reducible first | exact HB.out | apply below_alloc | apply pw_below_drewN | apply below_drew1) | exact HB.out)⟩
                · rw [if_neg c29] at H
                  have c29b0 : ((l0.length : Int) == 0) = false := beq_eq_false_iff_ne.mpr c29
                  have c29b1 : ((l0.length : Int) != 0) = true := bne_iff_ne.mpr c29
                  have c29b2 : ¬ (l0 = []) := fun h_ => c29 (by rw [h_]; rfl)
                  by_cases c30 : ([] : List Int).length + l0.length < 140737488355328
                  · rw [if_pos c30] at H
                    have LMc30 := Aside0.mk c30
                    clear c30
                    obtain ⟨y173, hy173⟩ : ∃ y_ : List Int, y_ = (([] : List Int) ++ l0) := ⟨_, rfl⟩
                    replace H : (if (y173.length : Int) = 0 then (none) else (if 0 ≤ (Int.tmod (wrap64 (a1)) (y173.length : Int)) then (if (Int.tmod (wrap64 (a1)) (y173.length : Int)) < (y173.length : Int) then (if 0 ≤ (Int.tmod (wrap64 (a1)) (l0.length : Int)) then (if (Int.tmod (wrap64 (a1)) (l0.length : Int)) < (l0.length : Int) then ((text_Same.f (strOfNums l0) (strOfNums (y173.set ((Int.tmod (wrap64 (a1)) (y173.length : Int)) : Int).toNat (Go.bits .xor .u8 (rd y173 (Int.tmod (wrap64 (a1)) (y173.length : Int))) 32)))).bind fun t179 => (if (Go.bits .or .u8 (rd l0 (Int.tmod (wrap64 (a1)) (l0.length : Int))) 32) ≥ 97 then (some (t179 == (decide ((Go.bits .or .u8 (rd l0 (Int.tmod (wrap64 (a1)) (l0.length : Int))) 32) ≤ 122)))) else (some (t179 == false)))) else (none)) else (none)) else (none)) else (none))) = some r := by first | (rw [hy173]; with_reducible exact H) | (have H2_ := (Option.bind_some _ _).symm.trans H; rw [hy173]; with_reducible exact H2_) | (have H2_ := (Option.bind_some _ _).symm.trans H; with_reducible exact H2_) | with_reducible exact H | (rw [hy173]; exact H) | exact H
                    have Ny173 := Aside0.mk hy173
                    clear hy173
                    by_cases c31 : (y173.length : Int) = 0
                    · rw [if_pos c31] at H
                      exact absurd H (by simp)
                    · rw [if_neg c31] at H
                      have c31b0 : ((y173.length : Int) == 0) = false := beq_eq_false_iff_ne.mpr c31
                      have c31b1 : ((y173.length : Int) != 0) = true := bne_iff_ne.mpr c31
                      have c31b2 : ¬ (y173 = []) := fun h_ => c31 (by rw [h_]; rfl)
                      obtain ⟨ji32, hji32⟩ : ∃ j_ : Int, (Int.tmod (wrap64 (a1)) (y173.length : Int)) = j_ := ⟨_, rfl⟩
                      replace H : (if 0 ≤ (ji32) then (if (ji32) < (y173.length : Int) then (if 0 ≤ (Int.tmod (wrap64 (a1)) (l0.length : Int)) then (if (Int.tmod (wrap64 (a1)) (l0.length : Int)) < (l0.length : Int) then ((text_Same.f (strOfNums l0) (strOfNums (y173.set ((ji32) : Int).toNat (Go.bits .xor .u8 (rd y173 (ji32)) 32)))).bind fun t179 => (if (Go.bits .or .u8 (rd l0 (Int.tmod (wrap64 (a1)) (l0.length : Int))) 32) ≥ 97 then (some (t179 == (decide ((Go.bits .or .u8 (rd l0 (Int.tmod (wrap64 (a1)) (l0.length : Int))) 32) ≤ 122)))) else (some (t179 == false)))) else (none)) else (none)) else (none)) else (none)) = some r := by first | (rw [hji32] at H; exact H) | (simp only [hji32] at H ⊢; exact H)
                      by_cases c33 : 0 ≤ (ji32)
                      · rw [if_pos c33] at H
                        have c33b0 : decide (0 ≤ (ji32)) = true := decide_eq_true c33
                        clear c33
                        by_cases c34 : (ji32) < (y173.length : Int)
                        · rw [if_pos c34] at H
                          have c34b0 : decide ((ji32) < (y173.length : Int)) = true := decide_eq_true c34
                          clear c34
                          obtain ⟨y177, hy177⟩ : ∃ y_ : List Int, y_ = (y173.set ((ji32) : Int).toNat (Go.bits .xor .u8 (rd y173 (ji32)) 32)) := ⟨_, rfl⟩
                          replace H : (if 0 ≤ (Int.tmod (wrap64 (a1)) (l0.length : Int)) then (if (Int.tmod (wrap64 (a1)) (l0.length : Int)) < (l0.length : Int) then ((text_Same.f (strOfNums l0) (strOfNums y177)).bind fun t179 => (if (Go.bits .or .u8 (rd l0 (Int.tmod (wrap64 (a1)) (l0.length : Int))) 32) ≥ 97 then (some (t179 == (decide ((Go.bits .or .u8 (rd l0 (Int.tmod (wrap64 (a1)) (l0.length : Int))) 32) ≤ 122)))) else (some (t179 == false)))) else (none)) else (none)) = some r := by first | (rw [hy177]; with_reducible exact H) | (have H2_ := (Option.bind_some _ _).symm.trans H; rw [hy177]; with_reducible exact H2_) | (have H2_ := (Option.bind_some _ _).symm.trans H; with_reducible exact H2_) | with_reducible exact H | (rw [hy177]; exact H) | exact H
                          have Ny177 := Aside0.mk hy177
                          clear hy177
                          obtain ⟨ji36, hji36⟩ : ∃ j_ : Int, (Int.tmod (wrap64 (a1)) (l0.length : Int)) = j_ := ⟨_, rfl⟩
                          replace H : (if 0 ≤ (ji36) then (if (ji36) < (l0.length : Int) then ((text_Same.f (strOfNums l0) (strOfNums y177)).bind fun t179 => (if (Go.bits .or .u8 (rd l0 (ji36)) 32) ≥ 97 then (some (t179 == (decide ((Go.bits .or .u8 (rd l0 (ji36)) 32) ≤ 122)))) else (some (t179 == false)))) else (none)) else (none)) = some r := by first | (rw [hji36] at H; exact H) | (simp only [hji36] at H ⊢; exact H)
                          by_cases c37 : 0 ≤ (ji36)
                          · rw [if_pos c37] at H
                            have c37b0 : decide (0 ≤ (ji36)) = true := decide_eq_true c37
                            clear c37
                            by_cases c38 : (ji36) < (l0.length : Int)
                            · rw [if_pos c38] at H
                              have c38b0 : decide ((ji36) < (l0.length : Int)) = true := decide_eq_true c38
                              clear c38
                              replace H := Option.bind_eq_some_iff.mp H
                              obtain ⟨t179, A390, H⟩ := H
                              (try dsimp only at H)
                              have A39 := Aside0.mk A390
                              clear A390
                              by_cases c40 : (Go.bits .or .u8 (rd l0 (ji36)) 32) ≥ 97
                              · rw [if_pos c40] at H
                                have c40b0 : decide (97 ≤ (Go.bits .or .u8 (rd l0 (ji36)) 32)) = true := decide_eq_true c40
                                clear c40
                                obtain rfl := Option.some.inj H
                                go_wp2_with (first | ((with_reducible refine gate_builtin (b := .append) (xs := #[.const (.slice none 0 0), .tmp 56]) rfl ?_); at_builtin; refine Kd.R_append_rows (Kd.int .u8) (w0 := w) w.heap.size rfl (.const (.slice none 0 0)) (.tmp 56) 32 5 (.int .u8 0) 1 rfl Tryd.underlying32 info5 rfl (by decide) (by omega) (.slice none 0 0) ([] : List Int) l0 _ _ _ (fun _ => True) (fun _ => False) rfl rfl ?aO ?aR (fun _ _ h => h) (fun _ h => h.elim) ?aF ?aB ?aS ?aL ?_; (case aR => repeat (first | exact (Kd.C_below HR0.out HB.out) | (with_reducible refine Kd.C_alloc ?_ _) | (with_reducible refine Kd.C_drewN ?_ _) | (with_reducible refine Kd.C_drew ?_))); (case aB => exact (by repeat (first | (with_reducible first | exact HB.out | apply below_alloc | apply pw_below_drewN | apply below_drew1) | exact HB.out))); (case aF => exact (fun _ _ => trivial)); (case aO => exact ((Kd.R_nil _ _ _ _ (fun _ => True)))); (case aS => exact (below_size (by repeat (first | (with_reducible first | exact HB.out | apply below_alloc | apply pw_below_drewN | apply below_drew1) | exact HB.out)))); (case aL => have := LMc30.out; omega); intro v174 w41 ho hb hg hat; rw [← Ny173.out] at ho; have n0_ := Aside0.mk (hb); have n1_ := Aside0.mk (ho); clear HB; have HB := n0_; have HO175 := n1_; clear n0_ n1_; clear ho hb hg hat; obtain ⟨Ao42, co42, eo42⟩ := Kd.R_slice HO175.out; subst eo42; have p176 : 0 ≤ ((ji32) : Int) := of_decide_eq_true (by first | (with_reducible assumption) | assumption); have q176 : (ji32) < (y173.length : Int) := of_decide_eq_true (by first | (with_reducible assumption) | assumption); obtain ⟨ad176, e176, hx176_0⟩ := Kd.at_int (Kd.R_reads' HO175.out).2.2 (ji32) p176 q176; cases e176; replace p176 := eq_true p176; replace q176 := eq_true q176; have p35 : 0 ≤ ((ji32) : Int) := of_decide_eq_true (by first | (with_reducible assumption) | assumption); have q35 : ((ji32) : Int) < ((y173.length : Int) : Int) := of_decide_eq_true (by first | (with_reducible assumption) | assumption); obtain ⟨go35, co35, eo35, gb35, gl35, cl35, HG35⟩ := Kd.R_form HO175.out (by omega); (first | cases eo35 | (injection eo35 with ea_ en_ ec_; (first | subst ea_ | (injection ea_ with ea_; subst ea_)); subst ec_; clear en_)); have GB35 := Aside0.mk gb35; have GG35 := Aside0.mk HG35; clear gb35 gl35 HG35; (first | simp only [add_plain] at hx176_0 | skip); obtain ⟨hx35_0, hf35_0⟩ := Kd.R_celln 0 HO175.out ((ji32) : Int) p35 q35; replace p35 := eq_true p35; replace q35 := eq_true q35; obtain ⟨hy43_, hz43_⟩ := Kd.R_celln 0 HO175.out ((ji32) : Int) (of_decide_eq_true (by first | (with_reducible assumption) | assumption)) (of_decide_eq_true (by first | (with_reducible assumption) | assumption)); have HP43 := Kd.R_putg HO175.out ((ji32) : Int) (Go.bits .xor .u8 (rd y173 (ji32)) 32)) | ((with_reducible refine gate_store (t := 5) (p := 67) rfl ?_); refine store_event (t := 5) (p := 67) (v := ?vo_w44) (w1 := (w41.setCell ⟨go35, ((ji32) : Int).toNat, none⟩ (.int .u8 (Go.bits .xor .u8 (rd y173 (ji32)) 32)))) ?hg ?ho ?hn ?hr ?_; (case ho => rfl); (case hg => rfl); (case hn => rfl); (case hr => first | (go_simp; done) | (go_simp; rfl)); intro w44 hw; have hg : w41.grownBy w44 (some go35) := (by rw [hw]; exact HP43.2); have hp_ : Kd.R (Kd.int .u8) 5 w44 w.heap.size (fun _ => True) (.slice (some ⟨go35, 0, none⟩) y173.length co42) y177 := (by rw [hw, Ny177.out]; exact HP43.1); clear HP43; have n0_ := Aside0.mk (hp_); have n1_ := Aside0.mk ((by rw [hw]; exact below_set (HB.out) GB35.out : Below w.heap.size w w44)); clear HO175; clear HB; have HO175 := n0_; have HB := n1_; clear n0_ n1_; clear hg hw hp_; have p178 : 0 ≤ ((ji36) : Int) := of_decide_eq_true (by first | (with_reducible assumption) | assumption); have q178 : (ji36) < (l0.length : Int) := of_decide_eq_true (by first | (with_reducible assumption) | assumption); obtain ⟨ad178, e178, hx178_0⟩ := Kd.at_int HR0.out (ji36) p178 q178; cases e178; replace hx178_0 := (HB.out.cell (World.block_lt_of_cell? w _ hx178_0)).trans hx178_0; replace p178 := eq_true p178; replace q178 := eq_true q178; have hcv45 := own_string (P := Tryd.prog) Tryd.underlying32 Tryd.underlying5 Tryd.underlying9 (Kd.own_of_R HO175.out)) | ((with_reducible refine gate_callee (f := 11) rfl ?_); refine goesL_ (some 80) rfl rfl Tryd.func11 (by kernel_rfl) rfl #[.string (strOfNums l0), .string (strOfNums y177)] rfl (by (try simp only [List.map_toArray, List.map_cons, List.map_nil]); first | done | rfl | (simp only [List.length_drop, List.length_take]; rfl)) ?_; (with_reducible refine (text_Same.calls (strOfNums l0) (strOfNums y177) t179 _ A39.out).mono ?_); rintro e w46 ⟨rfl, hb⟩; refine ⟨_, rfl, ?_⟩; have n0_ := Aside0.mk (Kd.R_below (by (with_reducible repeat (first | apply Kd.R_alloc | apply Kd.R_drewN | apply Kd.R_drew)); exact HO175.out) hb); have n1_ := Aside0.mk (below_step (by repeat (first | (with_reducible first | exact HB.out | apply below_alloc | apply pw_below_drewN | apply below_drew1) | exact HB.out)) hb); clear HO175; clear HB; have HO175 := n0_; have HB := n1_; clear n0_ n1_; (try clear hb); (try clear hb2); (try clear hk); (try clear hi)) | (go_at_call 11; (with_reducible refine (text_Same.calls (strOfNums l0) (strOfNums y177) t179 _ A39.out).mono ?_); rintro e w46 ⟨rfl, hb⟩; have n0_ := Aside0.mk (Kd.R_below (by (with_reducible repeat (first | apply Kd.R_alloc | apply Kd.R_drewN | apply Kd.R_drew)); exact HO175.out) hb); have n1_ := Aside0.mk (below_step (by repeat (first | (with_reducible first | exact HB.out | apply below_alloc | apply pw_below_drewN | apply below_drew1) | exact HB.out)) hb); clear HO175; clear HB; have HO175 := n0_; have HB := n1_; clear n0_ n1_; (try clear hb); (try clear hb2); (try clear hk); (try clear hi)))
                                (try any_goals (exfalso; have h_ := ‹some undef = some (Value.bool _)›; revert h_; simp [undef]; done))
                                go_ret
                                exact ⟨by first | rfl | (simp [errW_none, errW_some] <;> rfl) | (simp only [← hji32, ← hji36]; first | rfl | (simp [errW_none, errW_some] <;> rfl)) | (simp [*, errW_none, errW_some] <;> rfl), by repeat (first | (with_reducible first | exact HB.out | apply below_alloc | apply pw_below_drewN | apply below_drew1) | exact HB.out)⟩
                              · rw [if_neg c40] at H
                                have c40b0 : decide (97 ≤ (Go.bits .or .u8 (rd l0 (ji36)) 32)) = false := decide_eq_false c40
                                clear c40
                                obtain rfl := Option.some.inj H
                                go_wp2_with (first | ((with_reducible refine gate_builtin (b := .append) (xs := #[.const (.slice none 0 0), .tmp 56]) rfl ?_); at_builtin; refine Kd.R_append_rows (Kd.int .u8) (w0 := w) w.heap.size rfl (.const (.slice none 0 0)) (.tmp 56) 32 5 (.int .u8 0) 1 rfl Tryd.underlying32 info5 rfl (by decide) (by omega) (.slice none 0 0) ([] : List Int) l0 _ _ _ (fun _ => True) (fun _ => False) rfl rfl ?aO ?aR (fun _ _ h => h) (fun _ h => h.elim) ?aF ?aB ?aS ?aL ?_; (case aR => repeat (first | exact (Kd.C_below HR0.out HB.out) | (with_reducible refine Kd.C_alloc ?_ _) | (with_reducible refine Kd.C_drewN ?_ _) | (with_reducible refine Kd.C_drew ?_))); (case aB => exact (by repeat (first | (with_reducible first | exact HB.out | apply below_alloc | apply pw_below_drewN | apply below_drew1) | exact HB.out))); (case aF => exact (fun _ _ => trivial)); (case aO => exact ((Kd.R_nil _ _ _ _ (fun _ => True)))); (case aS => exact (below_size (by repeat (first | (with_reducible first | exact HB.out | apply below_alloc | apply pw_below_drewN | apply below_drew1) | exact HB.out)))); (case aL => have := LMc30.out; omega); intro v174 w47 ho hb hg hat; rw [← Ny173.out] at ho; have n0_ := Aside0.mk (hb); have n1_ := Aside0.mk (ho); clear HB; have HB := n0_; have HO175 := n1_; clear n0_ n1_; clear ho hb hg hat; obtain ⟨Ao48, co48, eo48⟩ := Kd.R_slice HO175.out; subst eo48; have p176 : 0 ≤ ((ji32) : Int) := of_decide_eq_true (by first | (with_reducible assumption) | assumption); have q176 : (ji32) < (y173.length : Int) := of_decide_eq_true (by first | (with_reducible assumption) | assumption); obtain ⟨ad176, e176, hx176_0⟩ := Kd.at_int (Kd.R_reads' HO175.out).2.2 (ji32) p176 q176; cases e176; replace p176 := eq_true p176; replace q176 := eq_true q176; have p35 : 0 ≤ ((ji32) : Int) := of_decide_eq_true (by first | (with_reducible assumption) | assumption); have q35 : ((ji32) : Int) < ((y173.length : Int) : Int) := of_decide_eq_true (by first | (with_reducible assumption) | assumption); obtain ⟨go35, co35, eo35, gb35, gl35, cl35, HG35⟩ := Kd.R_form HO175.out (by omega); (first | cases eo35 | (injection eo35 with ea_ en_ ec_; (first | subst ea_ | (injection ea_ with ea_; subst ea_)); subst ec_; clear en_)); have GB35 := Aside0.mk gb35; have GG35 := Aside0.mk HG35; clear gb35 gl35 HG35; (first | simp only [add_plain] at hx176_0 | skip); obtain ⟨hx35_0, hf35_0⟩ := Kd.R_celln 0 HO175.out ((ji32) : Int) p35 q35; replace p35 := eq_true p35; replace q35 := eq_true q35; obtain ⟨hy49_, hz49_⟩ := Kd.R_celln 0 HO175.out ((ji32) : Int) (of_decide_eq_true (by first | (with_reducible assumption) | assumption)) (of_decide_eq_true (by first | (with_reducible assumption) | assumption)); have HP49 := Kd.R_putg HO175.out ((ji32) : Int) (Go.bits .xor .u8 (rd y173 (ji32)) 32)) | ((with_reducible refine gate_store (t := 5) (p := 67) rfl ?_); refine store_event (t := 5) (p := 67) (v := ?vo_w50) (w1 := (w47.setCell ⟨go35, ((ji32) : Int).toNat, none⟩ (.int .u8 (Go.bits .xor .u8 (rd y173 (ji32)) 32)))) ?hg ?ho ?hn ?hr ?_; (case ho => rfl); (case hg => rfl); (case hn => rfl); (case hr => first | (go_simp; done) | (go_simp; rfl)); intro w50 hw; have hg : w47.grownBy w50 (some go35) := (by rw [hw]; exact HP49.2); have hp_ : Kd.R (Kd.int .u8) 5 w50 w.heap.size (fun _ => True) (.slice (some ⟨go35, 0, none⟩) y173.length co48) y177 := (by rw [hw, Ny177.out]; exact HP49.1); clear HP49; have n0_ := Aside0.mk (hp_); have n1_ := Aside0.mk ((by rw [hw]; exact below_set (HB.out) GB35.out : Below w.heap.size w w50)); clear HO175; clear HB; have HO175 := n0_; have HB := n1_; clear n0_ n1_; clear hg hw hp_; have p178 : 0 ≤ ((ji36) : Int) := of_decide_eq_true (by first | (with_reducible assumption) | assumption); have q178 : (ji36) < (l0.length : Int) := of_decide_eq_true (by first | (with_reducible assumption) | assumption); obtain ⟨ad178, e178, hx178_0⟩ := Kd.at_int HR0.out (ji36) p178 q178; cases e178; replace hx178_0 := (HB.out.cell (World.block_lt_of_cell? w _ hx178_0)).trans hx178_0; replace p178 := eq_true p178; replace q178 := eq_true q178; have hcv51 := own_string (P := Tryd.prog) Tryd.underlying32 Tryd.underlying5 Tryd.underlying9 (Kd.own_of_R HO175.out)) | ((with_reducible refine gate_callee (f := 11) rfl ?_); refine goesL_ (some 80) rfl rfl Tryd.func11 (by kernel_rfl) rfl #[.string (strOfNums l0), .string (strOfNums y177)] rfl (by (try simp only [List.map_toArray, List.map_cons, List.map_nil]); first | done | rfl | (simp only [List.length_drop, List.length_take]; rfl)) ?_; (with_reducible refine (text_Same.calls (strOfNums l0) (strOfNums y177) t179 _ A39.out).mono ?_); rintro e w52 ⟨rfl, hb⟩; refine ⟨_, rfl, ?_⟩; have n0_ := Aside0.mk (Kd.R_below (by (with_reducible repeat (first | apply Kd.R_alloc | apply Kd.R_drewN | apply Kd.R_drew)); exact HO175.out) hb); have n1_ := Aside0.mk (below_step (by repeat (first | (with_reducible first | exact HB.out | apply below_alloc | apply pw_below_drewN | apply below_drew1) | exact HB.out)) hb); clear HO175; clear HB; have HO175 := n0_; have HB := n1_; clear n0_ n1_; (try clear hb); (try clear hb2); (try clear hk); (try clear hi)) | (go_at_call 11; (with_reducible refine (text_Same.calls (strOfNums l0) (strOfNums y177) t179 _ A39.out).mono ?_); rintro e w52 ⟨rfl, hb⟩; have n0_ := Aside0.mk (Kd.R_below (by (with_reducible repeat (first | apply Kd.R_alloc | apply Kd.R_drewN | apply Kd.R_drew)); exact HO175.out) hb); have n1_ := Aside0.mk (below_step (by repeat (first | (with_reducible first | exact HB.out | apply below_alloc | apply pw_below_drewN | apply below_drew1) | exact HB.out)) hb); clear HO175; clear HB; have HO175 := n0_; have HB := n1_; clear n0_ n1_; (try clear hb); (try clear hb2); (try clear hk); (try clear hi)))
                                (try any_goals (exfalso; have h_ := ‹some undef = some (Value.bool _)›; revert h_; simp [undef]; done))
                                go_ret
                                exact ⟨by first | rfl | (simp [errW_none, errW_some] <;> rfl) | (simp only [← hji32, ← hji36]; first | rfl | (simp [errW_none, errW_some] <;> rfl)) | (simp [*, errW_none, errW_some] <;> rfl), by repeat (first | (with_reducible first | exact HB.out | apply below_alloc | apply pw_below_drewN | apply below_drew1) | exact HB.out)⟩
                            · rw [if_neg c38] at H
                              exact absurd H (by simp)
                          · rw [if_neg c37] at H
                            exact absurd H (by simp)
                        · rw [if_neg c34] at H
                          exact absurd H (by simp)
                      · rw [if_neg c33] at H
                        exact absurd H (by simp)
                  · rw [if_neg c30] at H
                    exact absurd H (by simp)
        · rw [if_neg c10] at H
          have c10b0 : (t172.toList == t171.toList) = false := beq_eq_false_iff_ne.mpr c10
          have c10b1 : (t172.toList != t171.toList) = true := bne_iff_ne.mpr c10
          exact absurd ((Option.some.inj H).trans HT.out) (by decide)
      · rw [if_neg c8] at H
        have c8b0 : ((t171.size : Int) == ((strOfNums l0).size : Int)) = false := beq_eq_false_iff_ne.mpr c8
        have c8b1 : ((t171.size : Int) != ((strOfNums l0).size : Int)) = true := bne_iff_ne.mpr c8
        have c8b2 : (t171.size == (strOfNums l0).size) = false := by first | simpa using c8 | (simp at c8 ⊢; omega)
        exact absurd ((Option.some.inj H).trans HT.out) (by decide)
  · replace c4 := Bool.eq_false_iff.mpr c4
    subst c4
    rw [if_neg (show ¬ (false = true) by decide)] at H
    exact absurd ((Option.some.inj H).trans HT.out) (by decide)

/-- THE ONE PURE STATEMENT of parallaxlaw3_TextLower: yours. -/
def parallaxlaw3_TextLower.Pure : Prop := ∀ (l0 : List Int) (a1 : Int), l0.length ≤ maxLen → l0.length * 1 ≤ 140737488351232 → (∀ x ∈ l0, (Lit.int .u8 x).wf = true) → (Lit.int .u8 a1).wf = true → ∃ k, parallaxlaw3_TextLower.f k l0 a1 = some true
theorem parallaxlaw3_TextLower.walk (P : parallaxlaw3_TextLower.Pure) (a0 : Option Addr) (len0 cap0 : Nat) (z0 : List Int) (a1 : Int) (w : World) (w0 : (a0 = none ∧ len0 = 0 ∧ cap0 = 0 ∧ z0 = []) ∨ ∃ x, a0 = some x ∧ len0 ≤ cap0 ∧ cap0 ≤ maxLen ∧ z0.length = cap0 ∧ (∀ i, i < z0.length → w.cell? (x.add i) = some (.int .u8 (z0.getD i 0))) ∧ ∀ n ∈ z0, (Lit.int .u8 n).wf = true) (y0 : len0 * 1 ≤ 140737488351232) (w1 : (Lit.int .u8 a1).wf = true) :
    Calls Tryd.prog 5 #[.slice a0 len0 cap0, .int .u8 a1] w fun e w' => e = .returned (.bool true) ∧ Below w.heap.size w w' := by
  obtain ⟨l0, rfl, hr0, hm0, hw0, hc0⟩ := ReadsInt.ofRowC w0
  obtain ⟨k, h⟩ := P l0 a1 hm0 y0 hw0 w1
  refine (parallaxlaw3_TextLower.calls k _ _ l0 a1 true w (Kd.C_of_reads (d := (0 : Int)) (h1 := fun _ => rfl) hr0) hc0 w1 rfl h).mono ?_
  rintro e w' ⟨rfl, hd⟩
  exact ⟨rfl, hd⟩

end Go.Proofs.YtjpgnkkfkkpheaaDoor.PTextLower
