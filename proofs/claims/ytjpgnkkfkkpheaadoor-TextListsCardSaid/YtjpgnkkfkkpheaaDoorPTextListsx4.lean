-- Written by a program of this session (wip/tools/myprint.sh)
import Derived.Test.YtjpgnkkfkkpheaaDoorPTextListsx0
import Derived.Test.YtjpgnkkfkkpheaaDoorPTextListsx2
import Derived.Test.YtjpgnkkfkkpheaaDoorPTextListsx3
namespace Go.Proofs.YtjpgnkkfkkpheaaDoor.PTextLists
open Go.RowKit Go.Proofs.YtjpgnkkfkkpheaaDoorW.PrintWords Go.Proofs.YtjpgnkkfkkpheaaDoorW.PrintLast Go.Proofs.YtjpgnkkfkkpheaaDoorW.PrintMore
attribute [local go_sem] max2_int min2_int max_two min_two max_three min_three max_four min_four   -- for this text's walks alone
set_option linter.unusedVariables false
set_option linter.unusedSimpArgs false

/-! ### parallaxlaw3_TextLists: function 6 -/
mutual
def parallaxlaw3_TextLists.l0 : Nat → List (List Int) → ByteArray → List ByteArray → Int → Option (Bool)
  | 0, _, _, _, _ => none
  | k + 1, x0, x3, x4, x5 => if x5 < (x0.length : Int) then (if 0 ≤ x5 then (if ((rd_L3 x0 x5).length : Int) > 30 then (some true) else (parallaxlaw3_TextLists.l1 k x0 x3 x4 x5 (⟨#[]⟩ : ByteArray) 0)) else (none)) else ((text_List.f k (([x3] : List ByteArray))).bind fun t191 => (if 1 + x3.size ≤ 9223372036854775807 then (if ((⟨#[32]⟩ : ByteArray) ++ x3).size + 1 ≤ 9223372036854775807 then ((text_List.f k (([((⟨#[32]⟩ : ByteArray) ++ x3) ++ (⟨#[32]⟩ : ByteArray), x3] : List ByteArray))).bind fun t197 => (if (t191.length : Int) = (x4.length : Int) then (if (t197.length : Int) = (wrap64 (2 * (x4.length : Int))) then (parallaxlaw3_TextLists.l2 k x4 t191 t197 0) else (some false)) else (some false))) else (none)) else (none)))
def parallaxlaw3_TextLists.l1 : Nat → List (List Int) → ByteArray → List ByteArray → Int → ByteArray → Int → Option (Bool)
  | 0, _, _, _, _, _, _ => none
  | k + 1, x0, x3, x4, x5, x6, x7 => if 0 ≤ x5 then (if x5 < (x0.length : Int) then (if x7 < ((rd_L3 x0 x5).length : Int) then (if 0 ≤ x7 then (if (rd (rd_L3 x0 x5) x7) = 44 then (parallaxlaw3_TextLists.l1 k x0 x3 x4 x5 x6 (wrap64 (x7 + 1))) else (if (rd (rd_L3 x0 x5) x7) = 32 then (parallaxlaw3_TextLists.l1 k x0 x3 x4 x5 x6 (wrap64 (x7 + 1))) else (if (rd (rd_L3 x0 x5) x7) = 9 then (parallaxlaw3_TextLists.l1 k x0 x3 x4 x5 x6 (wrap64 (x7 + 1))) else ((some (([rd (rd_L3 x0 x5) x7] : List Int) : List Int)).bind fun y175 => (if x6.size + (strOfNums y175).size ≤ 9223372036854775807 then (parallaxlaw3_TextLists.l1 k x0 x3 x4 x5 (x6 ++ (strOfNums y175)) (wrap64 (x7 + 1))) else (none)))))) else (none)) else (if x5 > 0 then ((some (([(⟨#[44]⟩ : ByteArray), (⟨#[32, 44]⟩ : ByteArray), (⟨#[44, 32, 9]⟩ : ByteArray)] : List ByteArray) : List ByteArray)).bind fun y178 => (if 0 ≤ (Int.tmod x5 3) then (if (Int.tmod x5 3) < (y178.length : Int) then (if x3.size + (rdOf ByteArray.empty y178 (Int.tmod x5 3)).size ≤ 9223372036854775807 then (if (x3 ++ (rdOf ByteArray.empty y178 (Int.tmod x5 3))).size + x6.size ≤ 9223372036854775807 then (if x4.length < 8796093022208 then (parallaxlaw3_TextLists.l0 k x0 ((x3 ++ (rdOf ByteArray.empty y178 (Int.tmod x5 3))) ++ x6) (x4 ++ [x6]) (wrap64 (x5 + 1))) else (none)) else (none)) else (none)) else (none)) else (none))) else (if x3.size + x6.size ≤ 9223372036854775807 then (if x4.length < 8796093022208 then (parallaxlaw3_TextLists.l0 k x0 (x3 ++ x6) (x4 ++ [x6]) (wrap64 (x5 + 1))) else (none)) else (none)))) else (none)) else (none)
def parallaxlaw3_TextLists.l2 : Nat → List ByteArray → List ByteArray → List ByteArray → Int → Option (Bool)
  | 0, _, _, _, _ => none
  | k + 1, x4, x9, x10, x11 => if x11 < (x4.length : Int) then (if 0 ≤ x11 then (if x11 < (x9.length : Int) then (if (rdOf ByteArray.empty x9 x11).toList = (rdOf ByteArray.empty x4 x11).toList then (if x11 < (x10.length : Int) then (if (rdOf ByteArray.empty x10 x11).toList = (rdOf ByteArray.empty x4 x11).toList then (if 0 ≤ (wrap64 (x11 + (x4.length : Int))) then (if (wrap64 (x11 + (x4.length : Int))) < (x10.length : Int) then (if (rdOf ByteArray.empty x10 (wrap64 (x11 + (x4.length : Int)))).toList = (rdOf ByteArray.empty x4 x11).toList then (parallaxlaw3_TextLists.l2 k x4 x9 x10 (wrap64 (x11 + 1))) else (some false)) else (none)) else (none)) else (some false)) else (none)) else (some false)) else (none)) else (none)) else (some true)
end
def parallaxlaw3_TextLists.f (k : Nat) (l0 : List (List Int)) : Option (Bool) := (parallaxlaw3_known.f k).bind fun t170 => (if t170 = true then (if (l0.length : Int) > 8 then (some true) else (if (l0.length : Int) = 0 then (some true) else (parallaxlaw3_TextLists.l0 k l0 (⟨#[]⟩ : ByteArray) ([] : List ByteArray) 0))) else (some false))
theorem parallaxlaw3_TextLists.mono_l : ∀ k, (∀ y0 y1 y2 y3, LeO (parallaxlaw3_TextLists.l0 k y0 y1 y2 y3) (parallaxlaw3_TextLists.l0 (k + 1) y0 y1 y2 y3)) ∧ (∀ y0 y1 y2 y3 y4 y5, LeO (parallaxlaw3_TextLists.l1 k y0 y1 y2 y3 y4 y5) (parallaxlaw3_TextLists.l1 (k + 1) y0 y1 y2 y3 y4 y5)) ∧ (∀ y0 y1 y2 y3, LeO (parallaxlaw3_TextLists.l2 k y0 y1 y2 y3) (parallaxlaw3_TextLists.l2 (k + 1) y0 y1 y2 y3))
  | 0 => ⟨fun _ _ _ _ r h => by simp [parallaxlaw3_TextLists.l0] at h, fun _ _ _ _ _ _ r h => by simp [parallaxlaw3_TextLists.l1] at h, fun _ _ _ _ r h => by simp [parallaxlaw3_TextLists.l2] at h⟩
  | k + 1 => by
    obtain ⟨ih0, ih1, ih2⟩ := parallaxlaw3_TextLists.mono_l k
    refine ⟨?_, ?_, ?_⟩
    · intro y0 y1 y2 y3
      unfold parallaxlaw3_TextLists.l0
      repeat' first
      | (with_reducible exact ih0 _ _ _ _)
      | (with_reducible exact ih1 _ _ _ _ _ _)
      | (with_reducible exact ih2 _ _ _ _)
      | (with_reducible exact parallaxlaw3_known.mono _)
      | (with_reducible exact text_List.mono _ _)
      | (with_reducible exact LeO.refl _)
      | (with_reducible exact LeO.none _)
      | (with_reducible refine LeO.ite ?_ ?_)
      | (with_reducible refine LeO.bind ?_ (fun _ => ?_))
      | exact ih0 _ _ _ _
      | exact ih1 _ _ _ _ _ _
      | exact ih2 _ _ _ _
      | exact parallaxlaw3_known.mono _
      | exact text_List.mono _ _
      | exact LeO.none _
      | refine LeO.ite ?_ ?_
      | refine LeO.bind ?_ (fun _ => ?_)
    · intro y0 y1 y2 y3 y4 y5
      unfold parallaxlaw3_TextLists.l1
      repeat' first
      | (with_reducible exact ih0 _ _ _ _)
      | (with_reducible exact ih1 _ _ _ _ _ _)
      | (with_reducible exact ih2 _ _ _ _)
      | (with_reducible exact parallaxlaw3_known.mono _)
      | (with_reducible exact text_List.mono _ _)
      | (with_reducible exact LeO.refl _)
      | (with_reducible exact LeO.none _)
      | (with_reducible refine LeO.ite ?_ ?_)
      | (with_reducible refine LeO.bind ?_ (fun _ => ?_))
      | exact ih0 _ _ _ _
      | exact ih1 _ _ _ _ _ _
      | exact ih2 _ _ _ _
      | exact parallaxlaw3_known.mono _
      | exact text_List.mono _ _
      | exact LeO.none _
      | refine LeO.ite ?_ ?_
      | refine LeO.bind ?_ (fun _ => ?_)
    · intro y0 y1 y2 y3
      unfold parallaxlaw3_TextLists.l2
      repeat' first
      | (with_reducible exact ih0 _ _ _ _)
      | (with_reducible exact ih1 _ _ _ _ _ _)
      | (with_reducible exact ih2 _ _ _ _)
      | (with_reducible exact parallaxlaw3_known.mono _)
      | (with_reducible exact text_List.mono _ _)
      | (with_reducible exact LeO.refl _)
      | (with_reducible exact LeO.none _)
      | (with_reducible refine LeO.ite ?_ ?_)
      | (with_reducible refine LeO.bind ?_ (fun _ => ?_))
      | exact ih0 _ _ _ _
      | exact ih1 _ _ _ _ _ _
      | exact ih2 _ _ _ _
      | exact parallaxlaw3_known.mono _
      | exact text_List.mono _ _
      | exact LeO.none _
      | refine LeO.ite ?_ ?_
      | refine LeO.bind ?_ (fun _ => ?_)
theorem parallaxlaw3_TextLists.mono : ∀ a0 k, LeO (parallaxlaw3_TextLists.f k a0) (parallaxlaw3_TextLists.f (k + 1) a0) := by
  intro a0 k
  obtain ⟨ih0, ih1, ih2⟩ := parallaxlaw3_TextLists.mono_l k
  unfold parallaxlaw3_TextLists.f
  repeat' first
      | (with_reducible exact ih0 _ _ _ _)
      | (with_reducible exact ih1 _ _ _ _ _ _)
      | (with_reducible exact ih2 _ _ _ _)
      | (with_reducible exact parallaxlaw3_known.mono _)
      | (with_reducible exact text_List.mono _ _)
      | (with_reducible exact LeO.refl _)
      | (with_reducible exact LeO.none _)
      | (with_reducible refine LeO.ite ?_ ?_)
      | (with_reducible refine LeO.bind ?_ (fun _ => ?_))
      | exact ih0 _ _ _ _
      | exact ih1 _ _ _ _ _ _
      | exact ih2 _ _ _ _
      | exact parallaxlaw3_known.mono _
      | exact text_List.mono _ _
      | exact LeO.none _
      | refine LeO.ite ?_ ?_
      | refine LeO.bind ?_ (fun _ => ?_)
set_option maxHeartbeats 8000000 in
set_option maxRecDepth 100000 in
theorem parallaxlaw3_TextLists.calls (k : Nat) (A0 : Option Addr) (c0 : Nat) (l0 : List (List Int)) (r : Bool) (w : World) (hr0 : Kd.C (Kd.slice 5 (Kd.int .u8)) w A0 l0.length l0) (hc0 : l0.length ≤ c0) (hT : r = true) (h : parallaxlaw3_TextLists.f k l0 = some r) :
    Calls Tryd.prog 6 #[.slice A0 l0.length c0] w fun e w' => e = .returned (.bool r) ∧ Below w.heap.size w w' := by
  have HT := Aside0.mk hT
  clear hT
  have HR0 := Aside0.mk hr0
  have HC0 := Aside0.mk hc0
  clear hr0 hc0
  have HB := Aside0.mk (Below.refl w.heap.size w)
  have H : ((parallaxlaw3_known.f k).bind fun t170 => (if t170 = true then (if (l0.length : Int) > 8 then (some true) else (if (l0.length : Int) = 0 then (some true) else (parallaxlaw3_TextLists.l0 k l0 (⟨#[]⟩ : ByteArray) ([] : List ByteArray) 0))) else (some false))) = some r := h
  clear h
  replace H := Option.bind_eq_some_iff.mp H
  obtain ⟨t170, A20, H⟩ := H
  (try dsimp only at H)
  have A2 := Aside0.mk A20
  clear A20
  by_cases c3 : t170 = true
  · subst c3
    rw [if_pos rfl] at H
    by_cases c4 : (l0.length : Int) > 8
    · rw [if_pos c4] at H
      have c4b0 : decide (8 < (l0.length : Int)) = true := decide_eq_true c4
      have c4b1 : decide (8 < l0.length) = true := decide_eq_true (by omega)
      clear c4
      obtain rfl := Option.some.inj H
      go_enter Tryd.func6, Tryd.ntmps6
      go_wp2_with (first | (go_at_call 7; (with_reducible refine (parallaxlaw3_known.calls k  true _ A2.out).mono ?_); rintro e w5 ⟨rfl, hb⟩; have n0_ := Aside0.mk (below_step (by repeat (first | (with_reducible first | exact HB.out | apply below_alloc | apply pw_below_drewN | apply below_drew1) | exact HB.out)) hb); clear HB; have HB := n0_; clear n0_; (try clear hb); (try clear hb2); (try clear hk); (try clear hi)))
      repeat (go_quiet (first | (go_at_call 7; (with_reducible refine (parallaxlaw3_known.calls k  true _ A2.out).mono ?_); rintro e w5 ⟨rfl, hb⟩; have n0_ := Aside0.mk (below_step (by repeat (first | (with_reducible first | exact HB.out | apply below_alloc | apply pw_below_drewN | apply below_drew1) | exact HB.out)) hb); clear HB; have HB := n0_; clear n0_; (try clear hb); (try clear hb2); (try clear hk); (try clear hi))); try go_wp2_with (first | (go_at_call 7; (with_reducible refine (parallaxlaw3_known.calls k  true _ A2.out).mono ?_); rintro e w5 ⟨rfl, hb⟩; have n0_ := Aside0.mk (below_step (by repeat (first | (with_reducible first | exact HB.out | apply below_alloc | apply pw_below_drewN | apply below_drew1) | exact HB.out)) hb); clear HB; have HB := n0_; clear n0_; (try clear hb); (try clear hb2); (try clear hk); (try clear hi))))
      go_ret
      exact ⟨by first | rfl | (simp [errW_none, errW_some] <;> rfl) | (simp [*, errW_none, errW_some] <;> rfl), by repeat (first | (with_reducible first | exact HB.out | apply below_alloc | apply pw_below_drewN | apply below_drew1) | exact HB.out)⟩
    · rw [if_neg c4] at H
      have c4b0 : decide (8 < (l0.length : Int)) = false := decide_eq_false c4
      have c4b1 : decide (8 < l0.length) = false := decide_eq_false (by omega)
      clear c4
      by_cases c6 : (l0.length : Int) = 0
      · rw [if_pos c6] at H
        have c6b0 : ((l0.length : Int) == 0) = true := beq_iff_eq.mpr c6
        have c6b1 : ((l0.length : Int) != 0) = false := bne_eq_false_iff_eq.mpr c6
        clear c6
        obtain rfl := Option.some.inj H
        go_enter Tryd.func6, Tryd.ntmps6
        go_wp2_with (first | (go_at_call 7; (with_reducible refine (parallaxlaw3_known.calls k  true _ A2.out).mono ?_); rintro e w7 ⟨rfl, hb⟩; have n0_ := Aside0.mk (below_step (by repeat (first | (with_reducible first | exact HB.out | apply below_alloc | apply pw_below_drewN | apply below_drew1) | exact HB.out)) hb); clear HB; have HB := n0_; clear n0_; (try clear hb); (try clear hb2); (try clear hk); (try clear hi)))
        repeat (go_quiet (first | (go_at_call 7; (with_reducible refine (parallaxlaw3_known.calls k  true _ A2.out).mono ?_); rintro e w7 ⟨rfl, hb⟩; have n0_ := Aside0.mk (below_step (by repeat (first | (with_reducible first | exact HB.out | apply below_alloc | apply pw_below_drewN | apply below_drew1) | exact HB.out)) hb); clear HB; have HB := n0_; clear n0_; (try clear hb); (try clear hb2); (try clear hk); (try clear hi))); try go_wp2_with (first | (go_at_call 7; (with_reducible refine (parallaxlaw3_known.calls k  true _ A2.out).mono ?_); rintro e w7 ⟨rfl, hb⟩; have n0_ := Aside0.mk (below_step (by repeat (first | (with_reducible first | exact HB.out | apply below_alloc | apply pw_below_drewN | apply below_drew1) | exact HB.out)) hb); clear HB; have HB := n0_; clear n0_; (try clear hb); (try clear hb2); (try clear hk); (try clear hi))))
        go_ret
        exact ⟨by first | rfl | (simp [errW_none, errW_some] <;> rfl) | (simp [*, errW_none, errW_some] <;> rfl), by repeat (first | (with_reducible first | exact HB.out | apply below_alloc | apply pw_below_drewN | apply below_drew1) | exact HB.out)⟩
      · rw [if_neg c6] at H
        have c6b0 : ((l0.length : Int) == 0) = false := beq_eq_false_iff_ne.mpr c6
        have c6b1 : ((l0.length : Int) != 0) = true := bne_iff_ne.mpr c6
        have c6b2 : ¬ (l0 = []) := fun h_ => c6 (by rw [h_]; rfl)
        have H' := Aside0.mk H
        clear H
        go_enter Tryd.func6, Tryd.ntmps6
        go_wp2_with (first | (go_at_call 7; (with_reducible refine (parallaxlaw3_known.calls k  true _ A2.out).mono ?_); rintro e w8 ⟨rfl, hb⟩; have n0_ := Aside0.mk (below_step (by repeat (first | (with_reducible first | exact HB.out | apply below_alloc | apply pw_below_drewN | apply below_drew1) | exact HB.out)) hb); clear HB; have HB := n0_; clear n0_; (try clear hb); (try clear hb2); (try clear hk); (try clear hi)))
        repeat (go_quiet (first | (go_at_call 7; (with_reducible refine (parallaxlaw3_known.calls k  true _ A2.out).mono ?_); rintro e w8 ⟨rfl, hb⟩; have n0_ := Aside0.mk (below_step (by repeat (first | (with_reducible first | exact HB.out | apply below_alloc | apply pw_below_drewN | apply below_drew1) | exact HB.out)) hb); clear HB; have HB := n0_; clear n0_; (try clear hb); (try clear hb2); (try clear hk); (try clear hi))); try go_wp2_with (first | (go_at_call 7; (with_reducible refine (parallaxlaw3_known.calls k  true _ A2.out).mono ?_); rintro e w8 ⟨rfl, hb⟩; have n0_ := Aside0.mk (below_step (by repeat (first | (with_reducible first | exact HB.out | apply below_alloc | apply pw_below_drewN | apply below_drew1) | exact HB.out)) hb); clear HB; have HB := n0_; clear n0_; (try clear hb); (try clear hb2); (try clear hk); (try clear hi))))
        go_loopg [3, 4, 5] k (fun kq v3 v4 v5 w' => ∃ (x3_1 : ByteArray) (x4_1 : List ByteArray) (x5_1 : Int), v3 = .string x3_1 ∧ v5 = .int .i64 x5_1 ∧ Aside0 (parallaxlaw3_TextLists.l0 kq l0 x3_1 x4_1 x5_1 = some r) ∧ Aside0 (kq ≤ k) ∧ Aside0 (Kd.R Kd.string 9 w' w.heap.size (fun _ => True) v4 x4_1) ∧ Aside0 (Below w.heap.size w w'))
        case atStart => exact ⟨((⟨#[]⟩ : ByteArray)), (([] : List ByteArray)), (0), (by first | rfl | (simp; done) | (simp [*]; done)), (by first | rfl | (simp; done) | (simp [*]; done)), H', ⟨Nat.le_refl _⟩, ⟨by first | exact Kd.R_nil _ _ _ _ _ | exact Kd.N_nil _ _ _ _ _ | exact Kd.V_nil _ _ _ _ _ | exact Kd.Q_nil _ _ _ _ _ | exact Kd.S_nil _ _ _ _ _⟩, ⟨by repeat (first | (with_reducible first | exact HB.out | apply below_alloc | apply pw_below_drewN | apply below_drew1) | exact HB.out)⟩⟩
        case round =>
          clear H'
          try clear p2
          try clear c3
          try clear c4
          try clear c4b0
          try clear c4b1
          try clear c6
          try clear c6b0
          try clear c6b1
          try clear c6b2
          obtain ⟨x3_1, x4_1, x5_1, rfl, rfl, HA, HK1, HO_4, HB⟩ := hrel
          cases gk with
          | zero => exact absurd HA.out (by simp [parallaxlaw3_TextLists.l0])
          | succ k1 =>
            have H := HA.out
            clear HA
            simp only [parallaxlaw3_TextLists.l0] at H
            by_cases c9 : x5_1 < (l0.length : Int)
            · rw [if_pos c9] at H
              have c9b0 : decide (x5_1 < (l0.length : Int)) = true := decide_eq_true c9
              clear c9
              by_cases c10 : 0 ≤ x5_1
              · rw [if_pos c10] at H
                have c10b0 : decide (0 ≤ x5_1) = true := decide_eq_true c10
                clear c10
                by_cases c11 : ((rd_L3 l0 x5_1).length : Int) > 30
                · rw [if_pos c11] at H
                  have c11b0 : decide (30 < ((rd_L3 l0 x5_1).length : Int)) = true := decide_eq_true c11
                  have c11b1 : decide (30 < (rd_L3 l0 x5_1).length) = true := decide_eq_true (by omega)
                  clear c11
                  obtain rfl := Option.some.inj H
                  have p171 : 0 ≤ (x5_1 : Int) := of_decide_eq_true (by first | (with_reducible assumption) | assumption)
                  have q171 : x5_1 < (l0.length : Int) := of_decide_eq_true (by first | (with_reducible assumption) | assumption)
                  obtain ⟨ad171, A171_0, c171_0, e171, hx171_0, hl171_0, hi171_0⟩ := at_L3 HR0.out x5_1 p171 q171
                  cases e171
                  replace hx171_0 := (HB.out.cell (World.block_lt_of_cell? w _ hx171_0)).trans hx171_0
                  have HR171_0 := Aside0.mk hi171_0
                  have HC171_0 := Aside0.mk hl171_0
                  clear hi171_0 hl171_0
                  replace p171 := eq_true p171
                  replace q171 := eq_true q171
                  go_wp2
                  repeat (go_quiet (fail); try go_wp2)
                  go_ret
                  exact ⟨by first | rfl | (simp [errW_none, errW_some] <;> rfl) | (simp [*, errW_none, errW_some] <;> rfl), by repeat (first | (with_reducible first | exact HB.out | apply below_alloc | apply pw_below_drewN | apply below_drew1) | exact HB.out)⟩
                · rw [if_neg c11] at H
                  have c11b0 : decide (30 < ((rd_L3 l0 x5_1).length : Int)) = false := decide_eq_false c11
                  have c11b1 : decide (30 < (rd_L3 l0 x5_1).length) = false := decide_eq_false (by omega)
                  clear c11
                  have H' := Aside0.mk H
                  clear H
                  have p171 : 0 ≤ (x5_1 : Int) := of_decide_eq_true (by first | (with_reducible assumption) | assumption)
                  have q171 : x5_1 < (l0.length : Int) := of_decide_eq_true (by first | (with_reducible assumption) | assumption)
                  obtain ⟨ad171, A171_0, c171_0, e171, hx171_0, hl171_0, hi171_0⟩ := at_L3 HR0.out x5_1 p171 q171
                  cases e171
                  replace hx171_0 := (HB.out.cell (World.block_lt_of_cell? w _ hx171_0)).trans hx171_0
                  have HR171_0 := Aside0.mk hi171_0
                  have HC171_0 := Aside0.mk hl171_0
                  clear hi171_0 hl171_0
                  replace p171 := eq_true p171
                  replace q171 := eq_true q171
                  go_wp2
                  repeat (go_quiet (fail); try go_wp2)
                  go_loopg [6, 7] k1 (fun kq v6 v7 w' => ∃ (x6_2 : ByteArray) (x7_2 : Int), v6 = .string x6_2 ∧ v7 = .int .i64 x7_2 ∧ Aside0 (parallaxlaw3_TextLists.l1 kq l0 x3_1 x4_1 x5_1 x6_2 x7_2 = some r) ∧ Aside0 (kq ≤ k1) ∧ Aside0 (Kd.R Kd.string 9 w' w.heap.size (fun _ => True) u4 x4_1) ∧ Aside0 (Below w.heap.size w w'))
                  case atStart => exact ⟨((⟨#[]⟩ : ByteArray)), (0), (by first | rfl | (simp; done) | (simp [*]; done)), (by first | rfl | (simp; done) | (simp [*]; done)), H', ⟨Nat.le_refl _⟩, ⟨by (with_reducible repeat (first | apply Kd.R_alloc | apply Kd.R_drewN | apply Kd.R_drew)); exact HO_4.out⟩, ⟨by repeat (first | (with_reducible first | exact HB.out | apply below_alloc | apply pw_below_drewN | apply below_drew1) | exact HB.out)⟩⟩
                  case round =>
                    clear H'
                    try clear c1
                    try clear p1
                    try clear q1
                    try clear hx1
                    try clear p2
                    try clear c3
                    try clear c4
                    try clear c4b0
                    try clear c4b1
                    try clear c6
                    try clear c6b0
                    try clear c6b1
                    try clear c6b2
                    try clear c9
                    try clear c9b0
                    try clear c10
                    try clear c10b0
                    try clear c11
                    try clear c11b0
                    try clear c11b1
                    try clear hx171_0
                    try clear p171
                    try clear p2
                    try clear q171
                    obtain ⟨x6_2, x7_2, rfl, rfl, HA, HK2, HO_4, HB⟩ := hrel
                    cases gk with
                    | zero => exact absurd HA.out (by simp [parallaxlaw3_TextLists.l1])
                    | succ k2 =>
                      have H := HA.out
                      clear HA
                      simp only [parallaxlaw3_TextLists.l1] at H
                      by_cases c12 : 0 ≤ x5_1
                      · rw [if_pos c12] at H
                        have c12b0 : decide (0 ≤ x5_1) = true := decide_eq_true c12
                        clear c12
                        by_cases c13 : x5_1 < (l0.length : Int)
                        · rw [if_pos c13] at H
                          have c13b0 : decide (x5_1 < (l0.length : Int)) = true := decide_eq_true c13
                          clear c13
                          by_cases c14 : x7_2 < ((rd_L3 l0 x5_1).length : Int)
                          · rw [if_pos c14] at H
                            have c14b0 : decide (x7_2 < ((rd_L3 l0 x5_1).length : Int)) = true := decide_eq_true c14
                            clear c14
                            by_cases c15 : 0 ≤ x7_2
                            · rw [if_pos c15] at H
                              have c15b0 : decide (0 ≤ x7_2) = true := decide_eq_true c15
                              clear c15
                              by_cases c16 : (rd (rd_L3 l0 x5_1) x7_2) = 44
                              · rw [if_pos c16] at H
                                have c16b0 : ((rd (rd_L3 l0 x5_1) x7_2) == 44) = true := beq_iff_eq.mpr c16
                                have c16b1 : ((rd (rd_L3 l0 x5_1) x7_2) != 44) = false := bne_eq_false_iff_eq.mpr c16
                                clear c16
                                have H' := Aside0.mk H
                                clear H
                                have p172 : 0 ≤ (x5_1 : Int) := of_decide_eq_true (by first | (with_reducible assumption) | assumption)
                                have q172 : x5_1 < (l0.length : Int) := of_decide_eq_true (by first | (with_reducible assumption) | assumption)
                                obtain ⟨ad172, A172_0, c172_0, e172, hx172_0, hl172_0, hi172_0⟩ := at_L3 HR0.out x5_1 p172 q172
                                obtain rfl : ad171 = ad172 := (by injection e172)
                                replace hx172_0 := (HB.out.cell (World.block_lt_of_cell? w _ hx172_0)).trans hx172_0
                                have HR172_0 := Aside0.mk hi172_0
                                have HC172_0 := Aside0.mk hl172_0
                                clear hi172_0 hl172_0
                                replace p172 := eq_true p172
                                replace q172 := eq_true q172
                                have p173 : 0 ≤ (x5_1 : Int) := of_decide_eq_true (by first | (with_reducible assumption) | assumption)
                                have q173 : x5_1 < (l0.length : Int) := of_decide_eq_true (by first | (with_reducible assumption) | assumption)
                                obtain ⟨ad173, A173_0, c173_0, e173, hx173_0, hl173_0, hi173_0⟩ := at_L3 HR0.out x5_1 p173 q173
                                obtain rfl : ad171 = ad173 := (by injection e173)
                                replace hx173_0 := (HB.out.cell (World.block_lt_of_cell? w _ hx173_0)).trans hx173_0
                                have HR173_0 := Aside0.mk hi173_0
                                have HC173_0 := Aside0.mk hl173_0
                                clear hi173_0 hl173_0
                                replace p173 := eq_true p173
                                replace q173 := eq_true q173
                                have ea_ := Option.some.inj (hx172_0.symm.trans hx173_0)
                                injection ea_ with ea_ en_ ec_
                                subst ea_
                                subst ec_
                                clear en_
                                have p174 : 0 ≤ (x7_2 : Int) := of_decide_eq_true (by first | (with_reducible assumption) | assumption)
                                have q174 : x7_2 < ((rd_L3 l0 x5_1).length : Int) := of_decide_eq_true (by first | (with_reducible assumption) | assumption)
                                obtain ⟨ad174, e174, hx174_0⟩ := Kd.at_int HR173_0.out x7_2 p174 q174
                                cases e174
                                replace hx174_0 := (HB.out.cell (World.block_lt_of_cell? w _ hx174_0)).trans hx174_0
                                replace p174 := eq_true p174
                                replace q174 := eq_true q174
                                go_wp2
                                repeat (go_quiet (fail); try go_wp2)
                                go_roundg k2
                                case measure => have := HK1.out; have := HK2.out; omega
                                case rel => exact ⟨(x6_2), (wrap64 (x7_2 + 1)), (by first | rfl | (simp; done) | (simp [*]; done)), (by first | rfl | (simp; done) | (simp [*]; done)), H', ⟨by have := HK1.out; have := HK2.out; omega⟩, ⟨by (with_reducible repeat (first | apply Kd.R_alloc | apply Kd.R_drewN | apply Kd.R_drew)); exact HO_4.out⟩, ⟨by repeat (first | (with_reducible first | exact HB.out | apply below_alloc | apply pw_below_drewN | apply below_drew1) | exact HB.out)⟩⟩
                              · rw [if_neg c16] at H
                                have c16b0 : ((rd (rd_L3 l0 x5_1) x7_2) == 44) = false := beq_eq_false_iff_ne.mpr c16
                                have c16b1 : ((rd (rd_L3 l0 x5_1) x7_2) != 44) = true := bne_iff_ne.mpr c16
                                by_cases c17 : (rd (rd_L3 l0 x5_1) x7_2) = 32
                                · rw [if_pos c17] at H
                                  have c17b0 : ((rd (rd_L3 l0 x5_1) x7_2) == 32) = true := beq_iff_eq.mpr c17
                                  have c17b1 : ((rd (rd_L3 l0 x5_1) x7_2) != 32) = false := bne_eq_false_iff_eq.mpr c17
                                  clear c17
                                  have H' := Aside0.mk H
                                  clear H
                                  have p172 : 0 ≤ (x5_1 : Int) := of_decide_eq_true (by first | (with_reducible assumption) | assumption)
                                  have q172 : x5_1 < (l0.length : Int) := of_decide_eq_true (by first | (with_reducible assumption) | assumption)
                                  obtain ⟨ad172, A172_0, c172_0, e172, hx172_0, hl172_0, hi172_0⟩ := at_L3 HR0.out x5_1 p172 q172
                                  obtain rfl : ad171 = ad172 := (by injection e172)
                                  replace hx172_0 := (HB.out.cell (World.block_lt_of_cell? w _ hx172_0)).trans hx172_0
                                  have HR172_0 := Aside0.mk hi172_0
                                  have HC172_0 := Aside0.mk hl172_0
                                  clear hi172_0 hl172_0
                                  replace p172 := eq_true p172
                                  replace q172 := eq_true q172
                                  have p173 : 0 ≤ (x5_1 : Int) := of_decide_eq_true (by first | (with_reducible assumption) | assumption)
                                  have q173 : x5_1 < (l0.length : Int) := of_decide_eq_true (by first | (with_reducible assumption) | assumption)
                                  obtain ⟨ad173, A173_0, c173_0, e173, hx173_0, hl173_0, hi173_0⟩ := at_L3 HR0.out x5_1 p173 q173
                                  obtain rfl : ad171 = ad173 := (by injection e173)
                                  replace hx173_0 := (HB.out.cell (World.block_lt_of_cell? w _ hx173_0)).trans hx173_0
                                  have HR173_0 := Aside0.mk hi173_0
                                  have HC173_0 := Aside0.mk hl173_0
                                  clear hi173_0 hl173_0
                                  replace p173 := eq_true p173
                                  replace q173 := eq_true q173
                                  have ea_ := Option.some.inj (hx172_0.symm.trans hx173_0)
                                  injection ea_ with ea_ en_ ec_
                                  subst ea_
                                  subst ec_
                                  clear en_
                                  have p174 : 0 ≤ (x7_2 : Int) := of_decide_eq_true (by first | (with_reducible assumption) | assumption)
                                  have q174 : x7_2 < ((rd_L3 l0 x5_1).length : Int) := of_decide_eq_true (by first | (with_reducible assumption) | assumption)
                                  obtain ⟨ad174, e174, hx174_0⟩ := Kd.at_int HR173_0.out x7_2 p174 q174
                                  cases e174
                                  replace hx174_0 := (HB.out.cell (World.block_lt_of_cell? w _ hx174_0)).trans hx174_0
                                  replace p174 := eq_true p174
                                  replace q174 := eq_true q174
                                  go_wp2
                                  repeat (go_quiet (fail); try go_wp2)
                                  go_roundg k2
                                  case measure => have := HK1.out; have := HK2.out; omega
                                  case rel => exact ⟨(x6_2), (wrap64 (x7_2 + 1)), (by first | rfl | (simp; done) | (simp [*]; done)), (by first | rfl | (simp; done) | (simp [*]; done)), H', ⟨by have := HK1.out; have := HK2.out; omega⟩, ⟨by (with_reducible repeat (first | apply Kd.R_alloc | apply Kd.R_drewN | apply Kd.R_drew)); exact HO_4.out⟩, ⟨by repeat (first | (with_reducible first | exact HB.out | apply below_alloc | apply pw_below_drewN | apply below_drew1) | exact HB.out)⟩⟩
                                · rw [if_neg c17] at H
                                  have c17b0 : ((rd (rd_L3 l0 x5_1) x7_2) == 32) = false := beq_eq_false_iff_ne.mpr c17
                                  have c17b1 : ((rd (rd_L3 l0 x5_1) x7_2) != 32) = true := bne_iff_ne.mpr c17
                                  by_cases c18 : (rd (rd_L3 l0 x5_1) x7_2) = 9
                                  · rw [if_pos c18] at H
                                    have c18b0 : ((rd (rd_L3 l0 x5_1) x7_2) == 9) = true := beq_iff_eq.mpr c18
                                    have c18b1 : ((rd (rd_L3 l0 x5_1) x7_2) != 9) = false := bne_eq_false_iff_eq.mpr c18
                                    clear c18
                                    have H' := Aside0.mk H
                                    clear H
                                    have p172 : 0 ≤ (x5_1 : Int) := of_decide_eq_true (by first | (with_reducible assumption) | assumption)
                                    have q172 : x5_1 < (l0.length : Int) := of_decide_eq_true (by first | (with_reducible assumption) | assumption)
                                    obtain ⟨ad172, A172_0, c172_0, e172, hx172_0, hl172_0, hi172_0⟩ := at_L3 HR0.out x5_1 p172 q172
                                    obtain rfl : ad171 = ad172 := (by injection e172)
                                    replace hx172_0 := (HB.out.cell (World.block_lt_of_cell? w _ hx172_0)).trans hx172_0
                                    have HR172_0 := Aside0.mk hi172_0
                                    have HC172_0 := Aside0.mk hl172_0
                                    clear hi172_0 hl172_0
                                    replace p172 := eq_true p172
                                    replace q172 := eq_true q172
                                    have p173 : 0 ≤ (x5_1 : Int) := of_decide_eq_true (by first | (with_reducible assumption) | assumption)
                                    have q173 : x5_1 < (l0.length : Int) := of_decide_eq_true (by first | (with_reducible assumption) | assumption)
                                    obtain ⟨ad173, A173_0, c173_0, e173, hx173_0, hl173_0, hi173_0⟩ := at_L3 HR0.out x5_1 p173 q173
                                    obtain rfl : ad171 = ad173 := (by injection e173)
                                    replace hx173_0 := (HB.out.cell (World.block_lt_of_cell? w _ hx173_0)).trans hx173_0
                                    have HR173_0 := Aside0.mk hi173_0
                                    have HC173_0 := Aside0.mk hl173_0
                                    clear hi173_0 hl173_0
                                    replace p173 := eq_true p173
                                    replace q173 := eq_true q173
                                    have ea_ := Option.some.inj (hx172_0.symm.trans hx173_0)
                                    injection ea_ with ea_ en_ ec_
                                    subst ea_
                                    subst ec_
                                    clear en_
                                    have p174 : 0 ≤ (x7_2 : Int) := of_decide_eq_true (by first | (with_reducible assumption) | assumption)
                                    have q174 : x7_2 < ((rd_L3 l0 x5_1).length : Int) := of_decide_eq_true (by first | (with_reducible assumption) | assumption)
                                    obtain ⟨ad174, e174, hx174_0⟩ := Kd.at_int HR173_0.out x7_2 p174 q174
                                    cases e174
                                    replace hx174_0 := (HB.out.cell (World.block_lt_of_cell? w _ hx174_0)).trans hx174_0
                                    replace p174 := eq_true p174
                                    replace q174 := eq_true q174
                                    go_wp2
                                    repeat (go_quiet (fail); try go_wp2)
                                    go_roundg k2
                                    case measure => have := HK1.out; have := HK2.out; omega
                                    case rel => exact ⟨(x6_2), (wrap64 (x7_2 + 1)), (by first | rfl | (simp; done) | (simp [*]; done)), (by first | rfl | (simp; done) | (simp [*]; done)), H', ⟨by have := HK1.out; have := HK2.out; omega⟩, ⟨by (with_reducible repeat (first | apply Kd.R_alloc | apply Kd.R_drewN | apply Kd.R_drew)); exact HO_4.out⟩, ⟨by repeat (first | (with_reducible first | exact HB.out | apply below_alloc | apply pw_below_drewN | apply below_drew1) | exact HB.out)⟩⟩
                                  · rw [if_neg c18] at H
                                    have c18b0 : ((rd (rd_L3 l0 x5_1) x7_2) == 9) = false := beq_eq_false_iff_ne.mpr c18
                                    have c18b1 : ((rd (rd_L3 l0 x5_1) x7_2) != 9) = true := bne_iff_ne.mpr c18
                                    obtain ⟨y175, hy175⟩ : ∃ y_ : List Int, y_ = (([rd (rd_L3 l0 x5_1) x7_2] : List Int)) := ⟨_, rfl⟩
                                    replace H : (if x6_2.size + (strOfNums y175).size ≤ 9223372036854775807 then (parallaxlaw3_TextLists.l1 k2 l0 x3_1 x4_1 x5_1 (x6_2 ++ (strOfNums y175)) (wrap64 (x7_2 + 1))) else (none)) = some r := by first | (rw [hy175]; with_reducible exact H) | (have H2_ := (Option.bind_some _ _).symm.trans H; rw [hy175]; with_reducible exact H2_) | (have H2_ := (Option.bind_some _ _).symm.trans H; with_reducible exact H2_) | with_reducible exact H | (rw [hy175]; exact H) | exact H
                                    have Ny175 := Aside0.mk hy175
                                    clear hy175
                                    by_cases c19 : x6_2.size + (strOfNums y175).size ≤ 9223372036854775807
                                    · rw [if_pos c19] at H
                                      have c19b0 := eq_true c19
                                      have c19b1 : decide (x6_2.size + (strOfNums y175).size ≤ 9223372036854775807) = true := decide_eq_true c19
                                      try have c19b2 : (9223372036854775807 < x6_2.size + (strOfNums y175).size) = False := eq_false (Nat.not_lt.2 c19)
                                      have H' := Aside0.mk H
                                      clear H
                                      have p172 : 0 ≤ (x5_1 : Int) := of_decide_eq_true (by first | (with_reducible assumption) | assumption)
                                      have q172 : x5_1 < (l0.length : Int) := of_decide_eq_true (by first | (with_reducible assumption) | assumption)
                                      obtain ⟨ad172, A172_0, c172_0, e172, hx172_0, hl172_0, hi172_0⟩ := at_L3 HR0.out x5_1 p172 q172
                                      obtain rfl : ad171 = ad172 := (by injection e172)
                                      replace hx172_0 := (HB.out.cell (World.block_lt_of_cell? w _ hx172_0)).trans hx172_0
                                      have HR172_0 := Aside0.mk hi172_0
                                      have HC172_0 := Aside0.mk hl172_0
                                      clear hi172_0 hl172_0
                                      replace p172 := eq_true p172
                                      replace q172 := eq_true q172
                                      have p173 : 0 ≤ (x5_1 : Int) := of_decide_eq_true (by first | (with_reducible assumption) | assumption)
                                      have q173 : x5_1 < (l0.length : Int) := of_decide_eq_true (by first | (with_reducible assumption) | assumption)
                                      obtain ⟨ad173, A173_0, c173_0, e173, hx173_0, hl173_0, hi173_0⟩ := at_L3 HR0.out x5_1 p173 q173
                                      obtain rfl : ad171 = ad173 := (by injection e173)
                                      replace hx173_0 := (HB.out.cell (World.block_lt_of_cell? w _ hx173_0)).trans hx173_0
                                      have HR173_0 := Aside0.mk hi173_0
                                      have HC173_0 := Aside0.mk hl173_0
                                      clear hi173_0 hl173_0
                                      replace p173 := eq_true p173
                                      replace q173 := eq_true q173
                                      have ea_ := Option.some.inj (hx172_0.symm.trans hx173_0)
                                      injection ea_ with ea_ en_ ec_
                                      subst ea_
                                      subst ec_
                                      clear en_
                                      have p174 : 0 ≤ (x7_2 : Int) := of_decide_eq_true (by first | (with_reducible assumption) | assumption)
                                      have q174 : x7_2 < ((rd_L3 l0 x5_1).length : Int) := of_decide_eq_true (by first | (with_reducible assumption) | assumption)
                                      obtain ⟨ad174, e174, hx174_0⟩ := Kd.at_int HR173_0.out x7_2 p174 q174
                                      cases e174
                                      replace hx174_0 := (HB.out.cell (World.block_lt_of_cell? w _ hx174_0)).trans hx174_0
                                      replace p174 := eq_true p174
                                      replace q174 := eq_true q174
                                      go_wp2_with (first | ((with_reducible refine gate_dst (N := 62) rfl ?_); (try (refine gate_guard (by rfl) ?_; dsimp only)); refine Kd.R_lit (Kd.int .u8) _ 5 ?hg (N := 62) ?hd (xs := ([rd (rd_L3 l0 x5_1) x7_2] : List Int)) (inner := [.int .u8 (rd (rd_L3 l0 x5_1) x7_2)]) (ok := fun _ => True) (okp := fun _ => True) ?hr ?hp (fun _ hk => hk) trivial (Below.refl _ _) (Nat.le_refl _) (by simp) ?_; (case hd => rfl); (case hg => rfl); (case hr => first | (go_simp; done) | (go_simp; rfl)); (case hp => exact (Reps.one (show Kd.M (Kd.int .u8) _ _ _ (rd (rd_L3 l0 x5_1) x7_2) [.int .u8 (rd (rd_L3 l0 x5_1) x7_2)] from rfl) (Reps.none _ _))); intro v176 w20 ho21 hb hg_ hnew_; clear hg_ hnew_; (first | rw [← Ny175.out] at ho21 | (simp only [Int.reduceToNat] at ho21; rw [← Ny175.out] at ho21)); have n0_ := Aside0.mk (Kd.R_below (by (with_reducible repeat (first | apply Kd.R_alloc | apply Kd.R_drewN | apply Kd.R_drew)); exact HO_4.out) hb); have n1_ := Aside0.mk (Kd.R_lower ho21 (below_size (by repeat (first | (with_reducible first | exact HB.out | apply below_alloc | apply pw_below_drewN | apply below_drew1) | exact HB.out)))); have n2_ := Aside0.mk (below_step (by repeat (first | (with_reducible first | exact HB.out | apply below_alloc | apply pw_below_drewN | apply below_drew1) | exact HB.out)) hb); clear HO_4; clear HB; have HO_4 := n0_; have HO177 := n1_; have HB := n2_; clear n0_ n1_ n2_; clear hb ho21; have hcv22 := own_string (P := Tryd.prog) Tryd.underlying32 Tryd.underlying5 Tryd.underlying9 (Kd.own_of_R HO177.out)))
                                      repeat (go_quiet (first | ((with_reducible refine gate_dst (N := 62) rfl ?_); (try (refine gate_guard (by rfl) ?_; dsimp only)); refine Kd.R_lit (Kd.int .u8) _ 5 ?hg (N := 62) ?hd (xs := ([rd (rd_L3 l0 x5_1) x7_2] : List Int)) (inner := [.int .u8 (rd (rd_L3 l0 x5_1) x7_2)]) (ok := fun _ => True) (okp := fun _ => True) ?hr ?hp (fun _ hk => hk) trivial (Below.refl _ _) (Nat.le_refl _) (by simp) ?_; (case hd => rfl); (case hg => rfl); (case hr => first | (go_simp; done) | (go_simp; rfl)); (case hp => exact (Reps.one (show Kd.M (Kd.int .u8) _ _ _ (rd (rd_L3 l0 x5_1) x7_2) [.int .u8 (rd (rd_L3 l0 x5_1) x7_2)] from rfl) (Reps.none _ _))); intro v176 w20 ho21 hb hg_ hnew_; clear hg_ hnew_; (first | rw [← Ny175.out] at ho21 | (simp only [Int.reduceToNat] at ho21; rw [← Ny175.out] at ho21)); have n0_ := Aside0.mk (Kd.R_below (by (with_reducible repeat (first | apply Kd.R_alloc | apply Kd.R_drewN | apply Kd.R_drew)); exact HO_4.out) hb); have n1_ := Aside0.mk (Kd.R_lower ho21 (below_size (by repeat (first | (with_reducible first | exact HB.out | apply below_alloc | apply pw_below_drewN | apply below_drew1) | exact HB.out)))); have n2_ := Aside0.mk (below_step (by repeat (first | (with_reducible first | exact HB.out | apply below_alloc | apply pw_below_drewN | apply below_drew1) | exact HB.out)) hb); clear HO_4; clear HB; have HO_4 := n0_; have HO177 := n1_; have HB := n2_; clear n0_ n1_ n2_; clear hb ho21; have hcv22 := own_string (P := Tryd.prog) Tryd.underlying32 Tryd.underlying5 Tryd.underlying9 (Kd.own_of_R HO177.out))); try go_wp2_with (first | ((with_reducible refine gate_dst (N := 62) rfl ?_); (try (refine gate_guard (by rfl) ?_; dsimp only)); refine Kd.R_lit (Kd.int .u8) _ 5 ?hg (N := 62) ?hd (xs := ([rd (rd_L3 l0 x5_1) x7_2] : List Int)) (inner := [.int .u8 (rd (rd_L3 l0 x5_1) x7_2)]) (ok := fun _ => True) (okp := fun _ => True) ?hr ?hp (fun _ hk => hk) trivial (Below.refl _ _) (Nat.le_refl _) (by simp) ?_; (case hd => rfl); (case hg => rfl); (case hr => first | (go_simp; done) | (go_simp; rfl)); (case hp => exact (Reps.one (show Kd.M (Kd.int .u8) _ _ _ (rd (rd_L3 l0 x5_1) x7_2) [.int .u8 (rd (rd_L3 l0 x5_1) x7_2)] from rfl) (Reps.none _ _))); intro v176 w20 ho21 hb hg_ hnew_; clear hg_ hnew_; (first | rw [← Ny175.out] at ho21 | (simp only [Int.reduceToNat] at ho21; rw [← Ny175.out] at ho21)); have n0_ := Aside0.mk (Kd.R_below (by (with_reducible repeat (first | apply Kd.R_alloc | apply Kd.R_drewN | apply Kd.R_drew)); exact HO_4.out) hb); have n1_ := Aside0.mk (Kd.R_lower ho21 (below_size (by repeat (first | (with_reducible first | exact HB.out | apply below_alloc | apply pw_below_drewN | apply below_drew1) | exact HB.out)))); have n2_ := Aside0.mk (below_step (by repeat (first | (with_reducible first | exact HB.out | apply below_alloc | apply pw_below_drewN | apply below_drew1) | exact HB.out)) hb); clear HO_4; clear HB; have HO_4 := n0_; have HO177 := n1_; have HB := n2_; clear n0_ n1_ n2_; clear hb ho21; have hcv22 := own_string (P := Tryd.prog) Tryd.underlying32 Tryd.underlying5 Tryd.underlying9 (Kd.own_of_R HO177.out))))
                                      go_roundg k2
                                      case measure => have := HK1.out; have := HK2.out; omega
                                      case rel => exact ⟨(x6_2 ++ (strOfNums y175)), (wrap64 (x7_2 + 1)), (by first | rfl | (simp; done) | (simp [*]; done)), (by first | rfl | (simp; done) | (simp [*]; done)), H', ⟨by have := HK1.out; have := HK2.out; omega⟩, ⟨by (with_reducible repeat (first | apply Kd.R_alloc | apply Kd.R_drewN | apply Kd.R_drew)); exact HO_4.out⟩, ⟨by repeat (first | (with_reducible first | exact HB.out | apply below_alloc | apply pw_below_drewN | apply below_drew1) | exact HB.out)⟩⟩
                                    · rw [if_neg c19] at H
                                      exact absurd H (by simp)
                            · rw [if_neg c15] at H
                              exact absurd H (by simp)
                          · rw [if_neg c14] at H
                            have c14b0 : decide (x7_2 < ((rd_L3 l0 x5_1).length : Int)) = false := decide_eq_false c14
                            clear c14
                            by_cases c23 : x5_1 > 0
                            · rw [if_pos c23] at H
                              have c23b0 : decide (0 < x5_1) = true := decide_eq_true c23
                              clear c23
                              obtain ⟨y178, hy178⟩ : ∃ y_ : List ByteArray, y_ = (([(⟨#[44]⟩ : ByteArray), (⟨#[32, 44]⟩ : ByteArray), (⟨#[44, 32, 9]⟩ : ByteArray)] : List ByteArray)) := ⟨_, rfl⟩
                              replace H : (if 0 ≤ (Int.tmod x5_1 3) then (if (Int.tmod x5_1 3) < (y178.length : Int) then (if x3_1.size + (rdOf ByteArray.empty y178 (Int.tmod x5_1 3)).size ≤ 9223372036854775807 then (if (x3_1 ++ (rdOf ByteArray.empty y178 (Int.tmod x5_1 3))).size + x6_2.size ≤ 9223372036854775807 then (if x4_1.length < 8796093022208 then (parallaxlaw3_TextLists.l0 k2 l0 ((x3_1 ++ (rdOf ByteArray.empty y178 (Int.tmod x5_1 3))) ++ x6_2) (x4_1 ++ [x6_2]) (wrap64 (x5_1 + 1))) else (none)) else (none)) else (none)) else (none)) else (none)) = some r := by first | (rw [hy178]; with_reducible exact H) | (have H2_ := (Option.bind_some _ _).symm.trans H; rw [hy178]; with_reducible exact H2_) | (have H2_ := (Option.bind_some _ _).symm.trans H; with_reducible exact H2_) | with_reducible exact H | (rw [hy178]; exact H) | exact H
                              have Ny178 := Aside0.mk hy178
                              clear hy178
                              obtain ⟨ji24, hji24⟩ : ∃ j_ : Int, (Int.tmod x5_1 3) = j_ := ⟨_, rfl⟩
                              replace H : (if 0 ≤ (ji24) then (if (ji24) < (y178.length : Int) then (if x3_1.size + (rdOf ByteArray.empty y178 (ji24)).size ≤ 9223372036854775807 then (if (x3_1 ++ (rdOf ByteArray.empty y178 (ji24))).size + x6_2.size ≤ 9223372036854775807 then (if x4_1.length < 8796093022208 then (parallaxlaw3_TextLists.l0 k2 l0 ((x3_1 ++ (rdOf ByteArray.empty y178 (ji24))) ++ x6_2) (x4_1 ++ [x6_2]) (wrap64 (x5_1 + 1))) else (none)) else (none)) else (none)) else (none)) else (none)) = some r := by first | (rw [hji24] at H; exact H) | (simp only [hji24] at H ⊢; exact H)
                              by_cases c25 : 0 ≤ (ji24)
                              · rw [if_pos c25] at H
                                have c25b0 : decide (0 ≤ (ji24)) = true := decide_eq_true c25
                                clear c25
                                by_cases c26 : (ji24) < (y178.length : Int)
                                · rw [if_pos c26] at H
                                  have c26b0 : decide ((ji24) < (y178.length : Int)) = true := decide_eq_true c26
                                  clear c26
                                  by_cases c27 : x3_1.size + (rdOf ByteArray.empty y178 (ji24)).size ≤ 9223372036854775807
                                  · rw [if_pos c27] at H
                                    have c27b0 := eq_true c27
                                    have c27b1 : decide (x3_1.size + (rdOf ByteArray.empty y178 (ji24)).size ≤ 9223372036854775807) = true := decide_eq_true c27
                                    try have c27b2 : (9223372036854775807 < x3_1.size + (rdOf ByteArray.empty y178 (ji24)).size) = False := eq_false (Nat.not_lt.2 c27)
                                    by_cases c28 : (x3_1 ++ (rdOf ByteArray.empty y178 (ji24))).size + x6_2.size ≤ 9223372036854775807
                                    · rw [if_pos c28] at H
                                      have c28b0 := eq_true c28
                                      have c28b1 : decide ((x3_1 ++ (rdOf ByteArray.empty y178 (ji24))).size + x6_2.size ≤ 9223372036854775807) = true := decide_eq_true c28
                                      try have c28b2 : (9223372036854775807 < (x3_1 ++ (rdOf ByteArray.empty y178 (ji24))).size + x6_2.size) = False := eq_false (Nat.not_lt.2 c28)
                                      (try (have c28b3 : (9223372036854775807 < x3_1.size + (rdOf ByteArray.empty y178 (ji24)).size + x6_2.size) = False := eq_false (by have h_ := c28; simp only [ByteArray.size_append] at h_; exact Nat.not_lt.mpr h_)))
                                      (try (have c28b4 : decide (x3_1.size + (rdOf ByteArray.empty y178 (ji24)).size + x6_2.size ≤ 9223372036854775807) = true := decide_eq_true (by have h_ := c28; simp only [ByteArray.size_append] at h_; exact h_)))
                                      by_cases c29 : x4_1.length < 8796093022208
                                      · rw [if_pos c29] at H
                                        have LMc29 := Aside0.mk c29
                                        clear c29
                                        obtain ⟨y182, hy182⟩ : ∃ y_ : List ByteArray, y_ = (x4_1 ++ [x6_2]) := ⟨_, rfl⟩
                                        replace H : (parallaxlaw3_TextLists.l0 k2 l0 ((x3_1 ++ (rdOf ByteArray.empty y178 (ji24))) ++ x6_2) y182 (wrap64 (x5_1 + 1))) = some r := by first | (rw [hy182]; with_reducible exact H) | (have H2_ := (Option.bind_some _ _).symm.trans H; rw [hy182]; with_reducible exact H2_) | (have H2_ := (Option.bind_some _ _).symm.trans H; with_reducible exact H2_) | with_reducible exact H | (rw [hy182]; exact H) | exact H
                                        have Ny182 := Aside0.mk hy182
                                        clear hy182
                                        have H' := Aside0.mk H
                                        clear H
                                        have p172 : 0 ≤ (x5_1 : Int) := of_decide_eq_true (by first | (with_reducible assumption) | assumption)
                                        have q172 : x5_1 < (l0.length : Int) := of_decide_eq_true (by first | (with_reducible assumption) | assumption)
                                        obtain ⟨ad172, A172_0, c172_0, e172, hx172_0, hl172_0, hi172_0⟩ := at_L3 HR0.out x5_1 p172 q172
                                        obtain rfl : ad171 = ad172 := (by injection e172)
                                        replace hx172_0 := (HB.out.cell (World.block_lt_of_cell? w _ hx172_0)).trans hx172_0
                                        have HR172_0 := Aside0.mk hi172_0
                                        have HC172_0 := Aside0.mk hl172_0
                                        clear hi172_0 hl172_0
                                        replace p172 := eq_true p172
                                        replace q172 := eq_true q172
                                        go_wp2_with (first | ((with_reducible refine gate_dst (N := 68) rfl ?_); (try (refine gate_guard (by rfl) ?_; dsimp only)); refine Kd.R_lit Kd.string _ 9 ?hg (N := 68) ?hd (xs := ([(⟨#[44]⟩ : ByteArray), (⟨#[32, 44]⟩ : ByteArray), (⟨#[44, 32, 9]⟩ : ByteArray)] : List ByteArray)) (inner := [.string (⟨#[44]⟩ : ByteArray), .string (⟨#[32, 44]⟩ : ByteArray), .string (⟨#[44, 32, 9]⟩ : ByteArray)]) (ok := fun _ => True) (okp := fun _ => True) ?hr ?hp (fun _ hk => hk) trivial (Below.refl _ _) (Nat.le_refl _) (by simp) ?_; (case hd => rfl); (case hg => rfl); (case hr => first | (go_simp; done) | (go_simp; rfl)); (case hp => exact (Reps.one (show Kd.M Kd.string _ _ _ (⟨#[44]⟩ : ByteArray) [.string (⟨#[44]⟩ : ByteArray)] from rfl) (Reps.one (show Kd.M Kd.string _ _ _ (⟨#[32, 44]⟩ : ByteArray) [.string (⟨#[32, 44]⟩ : ByteArray)] from rfl) (Reps.one (show Kd.M Kd.string _ _ _ (⟨#[44, 32, 9]⟩ : ByteArray) [.string (⟨#[44, 32, 9]⟩ : ByteArray)] from rfl) (Reps.none _ _))))); intro v179 w30 ho31 hb hg_ hnew_; clear hg_ hnew_; (first | rw [← Ny178.out] at ho31 | (simp only [Int.reduceToNat] at ho31; rw [← Ny178.out] at ho31)); have n0_ := Aside0.mk (Kd.R_elder' (by (with_reducible repeat (first | apply Kd.R_alloc | apply Kd.R_drewN | apply Kd.R_drew)); exact HO_4.out) (Kd.R_base ho31) hb); have n1_ := Aside0.mk (Kd.R_lower (Kd.R_new' ho31 (Kd.R_lt (by (with_reducible repeat (first | apply Kd.R_alloc | apply Kd.R_drewN | apply Kd.R_drew)); exact HO_4.out))) (below_size (by repeat (first | (with_reducible first | exact HB.out | apply below_alloc | apply pw_below_drewN | apply below_drew1) | exact HB.out)))); have n2_ := Aside0.mk (below_step (by repeat (first | (with_reducible first | exact HB.out | apply below_alloc | apply pw_below_drewN | apply below_drew1) | exact HB.out)) hb); clear HO_4; clear HB; have HO_4 := n0_; have HO180 := n1_; have HB := n2_; clear n0_ n1_ n2_; clear hb ho31; obtain ⟨Ao32, co32, eo32⟩ := Kd.R_slice HO180.out; subst eo32; have p181 : 0 ≤ ((ji24) : Int) := of_decide_eq_true (by first | (with_reducible assumption) | assumption); have q181 : (ji24) < (y178.length : Int) := of_decide_eq_true (by first | (with_reducible assumption) | assumption); obtain ⟨ad181, e181, hx181_0⟩ := Kd.at_string (Kd.R_reads' HO180.out).2.2 (ji24) p181 q181; cases e181; replace p181 := eq_true p181; replace q181 := eq_true q181) | ((with_reducible refine gate_builtin (b := .append) (xs := #[.tmp 77, .tmp 79]) rfl ?_); (try (refine gate_guard (by rfl) ?_; dsimp only)); at_builtin; refine Kd.R_append Kd.string (w0 := w) w.heap.size rfl (.tmp 77) (.tmp 79) 22 9 (.string ⟨#[]⟩) 16 rfl Tryd.underlying22 info9 rfl (by decide) (by omega) u4 x4_1 x6_2 [.string x6_2] (fun k_ => some k_ ≠ (.slice (some ad181) y178.length co32 : Value).ownBlock) (fun _ => False) rfl rfl ?aP (fun _ hk => hk.elim) ?aF ?aO ?aB ?aS ?aL ?_; (case aP => exact rfl); (case aB => exact (by repeat (first | (with_reducible first | exact HB.out | apply below_alloc | apply pw_below_drewN | apply below_drew1) | exact HB.out))); (case aF => exact (fun k_ hk => Kd.fresh' (Kd.R_lt (by (with_reducible repeat (first | apply Kd.R_alloc | apply Kd.R_drewN | apply Kd.R_drew)); exact HO180.out)) k_ hk)); (case aO => exact (by (with_reducible repeat (first | apply Kd.R_alloc | apply Kd.R_drewN | apply Kd.R_drew)); exact Kd.R_mono HO_4.out (fun _ hk => hk.2))); (case aS => exact (below_size (by repeat (first | (with_reducible first | exact HB.out | apply below_alloc | apply pw_below_drewN | apply below_drew1) | exact HB.out)))); (case aL => have := LMc29.out; omega); intro v183 w33 ho hb hg hat; rw [← Ny182.out] at ho; have n0_ := Aside0.mk (Kd.R_after (ok := (fun _ => True)) (by (with_reducible repeat (first | apply Kd.R_alloc | apply Kd.R_drewN | apply Kd.R_drew)); exact HO180.out) hg hat); have n1_ := Aside0.mk (hb); have n2_ := Aside0.mk (ho); clear HO180; clear HB; clear HO_4; have HO180 := n0_; have HB := n1_; have HO184 := n2_; clear n0_ n1_ n2_; clear ho hb hg hat))
                                        repeat (go_quiet (first | ((with_reducible refine gate_dst (N := 68) rfl ?_); (try (refine gate_guard (by rfl) ?_; dsimp only)); refine Kd.R_lit Kd.string _ 9 ?hg (N := 68) ?hd (xs := ([(⟨#[44]⟩ : ByteArray), (⟨#[32, 44]⟩ : ByteArray), (⟨#[44, 32, 9]⟩ : ByteArray)] : List ByteArray)) (inner := [.string (⟨#[44]⟩ : ByteArray), .string (⟨#[32, 44]⟩ : ByteArray), .string (⟨#[44, 32, 9]⟩ : ByteArray)]) (ok := fun _ => True) (okp := fun _ => True) ?hr ?hp (fun _ hk => hk) trivial (Below.refl _ _) (Nat.le_refl _) (by simp) ?_; (case hd => rfl); (case hg => rfl); (case hr => first | (go_simp; done) | (go_simp; rfl)); (case hp => exact (Reps.one (show Kd.M Kd.string _ _ _ (⟨#[44]⟩ : ByteArray) [.string (⟨#[44]⟩ : ByteArray)] from rfl) (Reps.one (show Kd.M Kd.string _ _ _ (⟨#[32, 44]⟩ : ByteArray) [.string (⟨#[32, 44]⟩ : ByteArray)] from rfl) (Reps.one (show Kd.M Kd.string _ _ _ (⟨#[44, 32, 9]⟩ : ByteArray) [.string (⟨#[44, 32, 9]⟩ : ByteArray)] from rfl) (Reps.none _ _))))); intro v179 w30 ho31 hb hg_ hnew_; clear hg_ hnew_; (first | rw [← Ny178.out] at ho31 | (simp only [Int.reduceToNat] at ho31; rw [← Ny178.out] at ho31)); have n0_ := Aside0.mk (Kd.R_elder' (by (with_reducible repeat (first | apply Kd.R_alloc | apply Kd.R_drewN | apply Kd.R_drew)); exact HO_4.out) (Kd.R_base ho31) hb); have n1_ := Aside0.mk (Kd.R_lower (Kd.R_new' ho31 (Kd.R_lt (by (with_reducible repeat (first | apply Kd.R_alloc | apply Kd.R_drewN | apply Kd.R_drew)); exact HO_4.out))) (below_size (by repeat (first | (with_reducible first | exact HB.out | apply below_alloc | apply pw_below_drewN | apply below_drew1) | exact HB.out)))); have n2_ := Aside0.mk (below_step (by repeat (first | (with_reducible first | exact HB.out | apply below_alloc | apply pw_below_drewN | apply below_drew1) | exact HB.out)) hb); clear HO_4; clear HB; have HO_4 := n0_; have HO180 := n1_; have HB := n2_; clear n0_ n1_ n2_; clear hb ho31; obtain ⟨Ao32, co32, eo32⟩ := Kd.R_slice HO180.out; subst eo32; have p181 : 0 ≤ ((ji24) : Int) := of_decide_eq_true (by first | (with_reducible assumption) | assumption); have q181 : (ji24) < (y178.length : Int) := of_decide_eq_true (by first | (with_reducible assumption) | assumption); obtain ⟨ad181, e181, hx181_0⟩ := Kd.at_string (Kd.R_reads' HO180.out).2.2 (ji24) p181 q181; cases e181; replace p181 := eq_true p181; replace q181 := eq_true q181) | ((with_reducible refine gate_builtin (b := .append) (xs := #[.tmp 77, .tmp 79]) rfl ?_); (try (refine gate_guard (by rfl) ?_; dsimp only)); at_builtin; refine Kd.R_append Kd.string (w0 := w) w.heap.size rfl (.tmp 77) (.tmp 79) 22 9 (.string ⟨#[]⟩) 16 rfl Tryd.underlying22 info9 rfl (by decide) (by omega) u4 x4_1 x6_2 [.string x6_2] (fun k_ => some k_ ≠ (.slice (some ad181) y178.length co32 : Value).ownBlock) (fun _ => False) rfl rfl ?aP (fun _ hk => hk.elim) ?aF ?aO ?aB ?aS ?aL ?_; (case aP => exact rfl); (case aB => exact (by repeat (first | (with_reducible first | exact HB.out | apply below_alloc | apply pw_below_drewN | apply below_drew1) | exact HB.out))); (case aF => exact (fun k_ hk => Kd.fresh' (Kd.R_lt (by (with_reducible repeat (first | apply Kd.R_alloc | apply Kd.R_drewN | apply Kd.R_drew)); exact HO180.out)) k_ hk)); (case aO => exact (by (with_reducible repeat (first | apply Kd.R_alloc | apply Kd.R_drewN | apply Kd.R_drew)); exact Kd.R_mono HO_4.out (fun _ hk => hk.2))); (case aS => exact (below_size (by repeat (first | (with_reducible first | exact HB.out | apply below_alloc | apply pw_below_drewN | apply below_drew1) | exact HB.out)))); (case aL => have := LMc29.out; omega); intro v183 w33 ho hb hg hat; rw [← Ny182.out] at ho; have n0_ := Aside0.mk (Kd.R_after (ok := (fun _ => True)) (by (with_reducible repeat (first | apply Kd.R_alloc | apply Kd.R_drewN | apply Kd.R_drew)); exact HO180.out) hg hat); have n1_ := Aside0.mk (hb); have n2_ := Aside0.mk (ho); clear HO180; clear HB; clear HO_4; have HO180 := n0_; have HB := n1_; have HO184 := n2_; clear n0_ n1_ n2_; clear ho hb hg hat)); try go_wp2_with (first | ((with_reducible refine gate_dst (N := 68) rfl ?_); (try (refine gate_guard (by rfl) ?_; dsimp only)); refine Kd.R_lit Kd.string _ 9 ?hg (N := 68) ?hd (xs := ([(⟨#[44]⟩ : ByteArray), (⟨#[32, 44]⟩ : ByteArray), (⟨#[44, 32, 9]⟩ : ByteArray)] : List ByteArray)) (inner := [.string (⟨#[44]⟩ : ByteArray), .string (⟨#[32, 44]⟩ : ByteArray), .string (⟨#[44, 32, 9]⟩ : ByteArray)]) (ok := fun _ => True) (okp := fun _ => True) ?hr ?hp (fun _ hk => hk) trivial (Below.refl _ _) (Nat.le_refl _) (by simp) ?_; (case hd => rfl); (case hg => rfl); (case hr => first | (go_simp; done) | (go_simp; rfl)); (case hp => exact (Reps.one (show Kd.M Kd.string _ _ _ (⟨#[44]⟩ : ByteArray) [.string (⟨#[44]⟩ : ByteArray)] from rfl) (Reps.one (show Kd.M Kd.string _ _ _ (⟨#[32, 44]⟩ : ByteArray) [.string (⟨#[32, 44]⟩ : ByteArray)] from rfl) (Reps.one (show Kd.M Kd.string _ _ _ (⟨#[44, 32, 9]⟩ : ByteArray) [.string (⟨#[44, 32, 9]⟩ : ByteArray)] from rfl) (Reps.none _ _))))); intro v179 w30 ho31 hb hg_ hnew_; clear hg_ hnew_; (first | rw [← Ny178.out] at ho31 | (simp only [Int.reduceToNat] at ho31; rw [← Ny178.out] at ho31)); have n0_ := Aside0.mk (Kd.R_elder' (by (with_reducible repeat (first | apply Kd.R_alloc | apply Kd.R_drewN | apply Kd.R_drew)); exact HO_4.out) (Kd.R_base ho31) hb); have n1_ := Aside0.mk (Kd.R_lower (Kd.R_new' ho31 (Kd.R_lt (by (with_reducible repeat (first | apply Kd.R_alloc | apply Kd.R_drewN | apply Kd.R_drew)); exact HO_4.out))) (below_size (by repeat (first | (with_reducible first | exact HB.out | apply below_alloc | apply pw_below_drewN | apply below_drew1) | exact HB.out)))); have n2_ := Aside0.mk (below_step (by repeat (first | (with_reducible first | exact HB.out | apply below_alloc | apply pw_below_drewN | apply below_drew1) | exact HB.out)) hb); clear HO_4; clear HB; have HO_4 := n0_; have HO180 := n1_; have HB := n2_; clear n0_ n1_ n2_; clear hb ho31; obtain ⟨Ao32, co32, eo32⟩ := Kd.R_slice HO180.out; subst eo32; have p181 : 0 ≤ ((ji24) : Int) := of_decide_eq_true (by first | (with_reducible assumption) | assumption); have q181 : (ji24) < (y178.length : Int) := of_decide_eq_true (by first | (with_reducible assumption) | assumption); obtain ⟨ad181, e181, hx181_0⟩ := Kd.at_string (Kd.R_reads' HO180.out).2.2 (ji24) p181 q181; cases e181; replace p181 := eq_true p181; replace q181 := eq_true q181) | ((with_reducible refine gate_builtin (b := .append) (xs := #[.tmp 77, .tmp 79]) rfl ?_); (try (refine gate_guard (by rfl) ?_; dsimp only)); at_builtin; refine Kd.R_append Kd.string (w0 := w) w.heap.size rfl (.tmp 77) (.tmp 79) 22 9 (.string ⟨#[]⟩) 16 rfl Tryd.underlying22 info9 rfl (by decide) (by omega) u4 x4_1 x6_2 [.string x6_2] (fun k_ => some k_ ≠ (.slice (some ad181) y178.length co32 : Value).ownBlock) (fun _ => False) rfl rfl ?aP (fun _ hk => hk.elim) ?aF ?aO ?aB ?aS ?aL ?_; (case aP => exact rfl); (case aB => exact (by repeat (first | (with_reducible first | exact HB.out | apply below_alloc | apply pw_below_drewN | apply below_drew1) | exact HB.out))); (case aF => exact (fun k_ hk => Kd.fresh' (Kd.R_lt (by (with_reducible repeat (first | apply Kd.R_alloc | apply Kd.R_drewN | apply Kd.R_drew)); exact HO180.out)) k_ hk)); (case aO => exact (by (with_reducible repeat (first | apply Kd.R_alloc | apply Kd.R_drewN | apply Kd.R_drew)); exact Kd.R_mono HO_4.out (fun _ hk => hk.2))); (case aS => exact (below_size (by repeat (first | (with_reducible first | exact HB.out | apply below_alloc | apply pw_below_drewN | apply below_drew1) | exact HB.out)))); (case aL => have := LMc29.out; omega); intro v183 w33 ho hb hg hat; rw [← Ny182.out] at ho; have n0_ := Aside0.mk (Kd.R_after (ok := (fun _ => True)) (by (with_reducible repeat (first | apply Kd.R_alloc | apply Kd.R_drewN | apply Kd.R_drew)); exact HO180.out) hg hat); have n1_ := Aside0.mk (hb); have n2_ := Aside0.mk (ho); clear HO180; clear HB; clear HO_4; have HO180 := n0_; have HB := n1_; have HO184 := n2_; clear n0_ n1_ n2_; clear ho hb hg hat)))
                                        go_roundg k2
                                        case measure => have := HK1.out; have := HK2.out; omega
                                        case rel => exact ⟨((x3_1 ++ (rdOf ByteArray.empty y178 (ji24))) ++ x6_2), (y182), (wrap64 (x5_1 + 1)), (by first | rfl | (simp; done) | (simp only [← hji24] <;> (first | rfl | simp)) | (simp [*]; done)), (by first | rfl | (simp; done) | (simp [*]; done)), H', ⟨by have := HK1.out; have := HK2.out; omega⟩, ⟨by (with_reducible repeat (first | apply Kd.R_alloc | apply Kd.R_drewN | apply Kd.R_drew)); exact Kd.R_mono HO184.out (fun _ hk => trivial)⟩, ⟨by repeat (first | (with_reducible first | exact HB.out | apply below_alloc | apply pw_below_drewN | apply below_drew1) | exact HB.out)⟩⟩
                                      · rw [if_neg c29] at H
                                        exact absurd H (by simp)
                                    · rw [if_neg c28] at H
                                      exact absurd H (by simp)
                                  · rw [if_neg c27] at H
                                    exact absurd H (by simp)
                                · rw [if_neg c26] at H
                                  exact absurd H (by simp)
                              · rw [if_neg c25] at H
                                exact absurd H (by simp)
                            · rw [if_neg c23] at H
                              have c23b0 : decide (0 < x5_1) = false := decide_eq_false c23
                              clear c23
                              by_cases c34 : x3_1.size + x6_2.size ≤ 9223372036854775807
                              · rw [if_pos c34] at H
                                have c34b0 := eq_true c34
                                have c34b1 : decide (x3_1.size + x6_2.size ≤ 9223372036854775807) = true := decide_eq_true c34
                                try have c34b2 : (9223372036854775807 < x3_1.size + x6_2.size) = False := eq_false (Nat.not_lt.2 c34)
                                by_cases c35 : x4_1.length < 8796093022208
                                · rw [if_pos c35] at H
                                  have LMc35 := Aside0.mk c35
                                  clear c35
                                  obtain ⟨y185, hy185⟩ : ∃ y_ : List ByteArray, y_ = (x4_1 ++ [x6_2]) := ⟨_, rfl⟩
                                  replace H : (parallaxlaw3_TextLists.l0 k2 l0 (x3_1 ++ x6_2) y185 (wrap64 (x5_1 + 1))) = some r := by first | (rw [hy185]; with_reducible exact H) | (have H2_ := (Option.bind_some _ _).symm.trans H; rw [hy185]; with_reducible exact H2_) | (have H2_ := (Option.bind_some _ _).symm.trans H; with_reducible exact H2_) | with_reducible exact H | (rw [hy185]; exact H) | exact H
                                  have Ny185 := Aside0.mk hy185
                                  clear hy185
                                  have H' := Aside0.mk H
                                  clear H
                                  have p172 : 0 ≤ (x5_1 : Int) := of_decide_eq_true (by first | (with_reducible assumption) | assumption)
                                  have q172 : x5_1 < (l0.length : Int) := of_decide_eq_true (by first | (with_reducible assumption) | assumption)
                                  obtain ⟨ad172, A172_0, c172_0, e172, hx172_0, hl172_0, hi172_0⟩ := at_L3 HR0.out x5_1 p172 q172
                                  obtain rfl : ad171 = ad172 := (by injection e172)
                                  replace hx172_0 := (HB.out.cell (World.block_lt_of_cell? w _ hx172_0)).trans hx172_0
                                  have HR172_0 := Aside0.mk hi172_0
                                  have HC172_0 := Aside0.mk hl172_0
                                  clear hi172_0 hl172_0
                                  replace p172 := eq_true p172
                                  replace q172 := eq_true q172
                                  go_wp2_with (first | ((with_reducible refine gate_builtin (b := .append) (xs := #[.tmp 77, .tmp 79]) rfl ?_); (try (refine gate_guard (by rfl) ?_; dsimp only)); at_builtin; refine Kd.R_append Kd.string (w0 := w) w.heap.size rfl (.tmp 77) (.tmp 79) 22 9 (.string ⟨#[]⟩) 16 rfl Tryd.underlying22 info9 rfl (by decide) (by omega) u4 x4_1 x6_2 [.string x6_2] (fun _ => True) (fun _ => False) rfl rfl ?aP (fun _ hk => hk.elim) ?aF ?aO ?aB ?aS ?aL ?_; (case aP => exact rfl); (case aB => exact (by repeat (first | (with_reducible first | exact HB.out | apply below_alloc | apply pw_below_drewN | apply below_drew1) | exact HB.out))); (case aF => exact (fun _ _ => trivial)); (case aO => exact (by (with_reducible repeat (first | apply Kd.R_alloc | apply Kd.R_drewN | apply Kd.R_drew)); exact HO_4.out)); (case aS => exact (below_size (by repeat (first | (with_reducible first | exact HB.out | apply below_alloc | apply pw_below_drewN | apply below_drew1) | exact HB.out)))); (case aL => have := LMc35.out; omega); intro v186 w36 ho hb hg hat; rw [← Ny185.out] at ho; have n0_ := Aside0.mk (hb); have n1_ := Aside0.mk (ho); clear HB; clear HO_4; have HB := n0_; have HO187 := n1_; clear n0_ n1_; clear ho hb hg hat))
                                  repeat (go_quiet (first | ((with_reducible refine gate_builtin (b := .append) (xs := #[.tmp 77, .tmp 79]) rfl ?_); (try (refine gate_guard (by rfl) ?_; dsimp only)); at_builtin; refine Kd.R_append Kd.string (w0 := w) w.heap.size rfl (.tmp 77) (.tmp 79) 22 9 (.string ⟨#[]⟩) 16 rfl Tryd.underlying22 info9 rfl (by decide) (by omega) u4 x4_1 x6_2 [.string x6_2] (fun _ => True) (fun _ => False) rfl rfl ?aP (fun _ hk => hk.elim) ?aF ?aO ?aB ?aS ?aL ?_; (case aP => exact rfl); (case aB => exact (by repeat (first | (with_reducible first | exact HB.out | apply below_alloc | apply pw_below_drewN | apply below_drew1) | exact HB.out))); (case aF => exact (fun _ _ => trivial)); (case aO => exact (by (with_reducible repeat (first | apply Kd.R_alloc | apply Kd.R_drewN | apply Kd.R_drew)); exact HO_4.out)); (case aS => exact (below_size (by repeat (first | (with_reducible first | exact HB.out | apply below_alloc | apply pw_below_drewN | apply below_drew1) | exact HB.out)))); (case aL => have := LMc35.out; omega); intro v186 w36 ho hb hg hat; rw [← Ny185.out] at ho; have n0_ := Aside0.mk (hb); have n1_ := Aside0.mk (ho); clear HB; clear HO_4; have HB := n0_; have HO187 := n1_; clear n0_ n1_; clear ho hb hg hat)); try go_wp2_with (first | ((with_reducible refine gate_builtin (b := .append) (xs := #[.tmp 77, .tmp 79]) rfl ?_); (try (refine gate_guard (by rfl) ?_; dsimp only)); at_builtin; refine Kd.R_append Kd.string (w0 := w) w.heap.size rfl (.tmp 77) (.tmp 79) 22 9 (.string ⟨#[]⟩) 16 rfl Tryd.underlying22 info9 rfl (by decide) (by omega) u4 x4_1 x6_2 [.string x6_2] (fun _ => True) (fun _ => False) rfl rfl ?aP (fun _ hk => hk.elim) ?aF ?aO ?aB ?aS ?aL ?_; (case aP => exact rfl); (case aB => exact (by repeat (first | (with_reducible first | exact HB.out | apply below_alloc | apply pw_below_drewN | apply below_drew1) | exact HB.out))); (case aF => exact (fun _ _ => trivial)); (case aO => exact (by (with_reducible repeat (first | apply Kd.R_alloc | apply Kd.R_drewN | apply Kd.R_drew)); exact HO_4.out)); (case aS => exact (below_size (by repeat (first | (with_reducible first | exact HB.out | apply below_alloc | apply pw_below_drewN | apply below_drew1) | exact HB.out)))); (case aL => have := LMc35.out; omega); intro v186 w36 ho hb hg hat; rw [← Ny185.out] at ho; have n0_ := Aside0.mk (hb); have n1_ := Aside0.mk (ho); clear HB; clear HO_4; have HB := n0_; have HO187 := n1_; clear n0_ n1_; clear ho hb hg hat)))
                                  go_roundg k2
                                  case measure => have := HK1.out; have := HK2.out; omega
                                  case rel => exact ⟨(x3_1 ++ x6_2), (y185), (wrap64 (x5_1 + 1)), (by first | rfl | (simp; done) | (simp [*]; done)), (by first | rfl | (simp; done) | (simp [*]; done)), H', ⟨by have := HK1.out; have := HK2.out; omega⟩, ⟨by (with_reducible repeat (first | apply Kd.R_alloc | apply Kd.R_drewN | apply Kd.R_drew)); exact HO187.out⟩, ⟨by repeat (first | (with_reducible first | exact HB.out | apply below_alloc | apply pw_below_drewN | apply below_drew1) | exact HB.out)⟩⟩
                                · rw [if_neg c35] at H
                                  exact absurd H (by simp)
                              · rw [if_neg c34] at H
                                exact absurd H (by simp)
                        · rw [if_neg c13] at H
                          exact absurd H (by simp)
                      · rw [if_neg c12] at H
                        exact absurd H (by simp)
              · rw [if_neg c10] at H
                exact absurd H (by simp)
            · rw [if_neg c9] at H
              have c9b0 : decide (x5_1 < (l0.length : Int)) = false := decide_eq_false c9
              clear c9
              obtain ⟨y188, hy188⟩ : ∃ y_ : List ByteArray, y_ = (([x3_1] : List ByteArray)) := ⟨_, rfl⟩
              replace H : ((text_List.f k1 y188).bind fun t191 => (if 1 + x3_1.size ≤ 9223372036854775807 then (if ((⟨#[32]⟩ : ByteArray) ++ x3_1).size + 1 ≤ 9223372036854775807 then ((text_List.f k1 (([((⟨#[32]⟩ : ByteArray) ++ x3_1) ++ (⟨#[32]⟩ : ByteArray), x3_1] : List ByteArray))).bind fun t197 => (if (t191.length : Int) = (x4_1.length : Int) then (if (t197.length : Int) = (wrap64 (2 * (x4_1.length : Int))) then (parallaxlaw3_TextLists.l2 k1 x4_1 t191 t197 0) else (some false)) else (some false))) else (none)) else (none))) = some r := by first | (rw [hy188]; with_reducible exact H) | (have H2_ := (Option.bind_some _ _).symm.trans H; rw [hy188]; with_reducible exact H2_) | (have H2_ := (Option.bind_some _ _).symm.trans H; with_reducible exact H2_) | with_reducible exact H | (rw [hy188]; exact H) | exact H
              have Ny188 := Aside0.mk hy188
              clear hy188
              replace H := Option.bind_eq_some_iff.mp H
              obtain ⟨t191, A370, H⟩ := H
              (try dsimp only at H)
              have A37 := Aside0.mk A370
              clear A370
              by_cases c38 : 1 + x3_1.size ≤ 9223372036854775807
              · rw [if_pos c38] at H
                have c38b0 := eq_true c38
                have c38b1 : decide (1 + x3_1.size ≤ 9223372036854775807) = true := decide_eq_true c38
                try have c38b2 : (9223372036854775807 < 1 + x3_1.size) = False := eq_false (Nat.not_lt.2 c38)
                by_cases c39 : ((⟨#[32]⟩ : ByteArray) ++ x3_1).size + 1 ≤ 9223372036854775807
                · rw [if_pos c39] at H
                  have c39b0 := eq_true c39
                  have c39b1 : decide (((⟨#[32]⟩ : ByteArray) ++ x3_1).size + 1 ≤ 9223372036854775807) = true := decide_eq_true c39
                  try have c39b2 : (9223372036854775807 < ((⟨#[32]⟩ : ByteArray) ++ x3_1).size + 1) = False := eq_false (Nat.not_lt.2 c39)
                  (try (have c39b3 : (9223372036854775807 < 1 + x3_1.size + 1) = False := eq_false (by have h_ := c39; simp only [ByteArray.size_append] at h_; exact Nat.not_lt.mpr h_)))
                  (try (have c39b4 : decide (1 + x3_1.size + 1 ≤ 9223372036854775807) = true := decide_eq_true (by have h_ := c39; simp only [ByteArray.size_append] at h_; exact h_)))
                  obtain ⟨y194, hy194⟩ : ∃ y_ : List ByteArray, y_ = (([((⟨#[32]⟩ : ByteArray) ++ x3_1) ++ (⟨#[32]⟩ : ByteArray), x3_1] : List ByteArray)) := ⟨_, rfl⟩
                  replace H : ((text_List.f k1 y194).bind fun t197 => (if (t191.length : Int) = (x4_1.length : Int) then (if (t197.length : Int) = (wrap64 (2 * (x4_1.length : Int))) then (parallaxlaw3_TextLists.l2 k1 x4_1 t191 t197 0) else (some false)) else (some false))) = some r := by first | (rw [hy194]; with_reducible exact H) | (have H2_ := (Option.bind_some _ _).symm.trans H; rw [hy194]; with_reducible exact H2_) | (have H2_ := (Option.bind_some _ _).symm.trans H; with_reducible exact H2_) | with_reducible exact H | (rw [hy194]; exact H) | exact H
                  have Ny194 := Aside0.mk hy194
                  clear hy194
                  replace H := Option.bind_eq_some_iff.mp H
                  obtain ⟨t197, A400, H⟩ := H
                  (try dsimp only at H)
                  have A40 := Aside0.mk A400
                  clear A400
                  by_cases c41 : (t191.length : Int) = (x4_1.length : Int)
                  · rw [if_pos c41] at H
                    have c41b0 : ((t191.length : Int) == (x4_1.length : Int)) = true := beq_iff_eq.mpr c41
                    have c41b1 : ((t191.length : Int) != (x4_1.length : Int)) = false := bne_eq_false_iff_eq.mpr c41
                    have c41b2 : (t191.length == x4_1.length) = true := by first | simpa using c41 | (simp at c41 ⊢; omega)
                    clear c41
                    by_cases c42 : (t197.length : Int) = (wrap64 (2 * (x4_1.length : Int)))
                    · rw [if_pos c42] at H
                      have c42b0 : ((t197.length : Int) == (wrap64 (2 * (x4_1.length : Int)))) = true := beq_iff_eq.mpr c42
                      have c42b1 : ((t197.length : Int) != (wrap64 (2 * (x4_1.length : Int)))) = false := bne_eq_false_iff_eq.mpr c42
                      clear c42
                      have H' := Aside0.mk H
                      clear H
                      go_wp2_with (first | ((with_reducible refine gate_dst (N := 82) rfl ?_); (try (refine gate_guard (by rfl) ?_; dsimp only)); refine Kd.R_lit Kd.string _ 9 ?hg (N := 82) ?hd (xs := ([x3_1] : List ByteArray)) (inner := [.string x3_1]) (ok := fun _ => True) (okp := fun _ => True) ?hr ?hp (fun _ hk => hk) trivial (Below.refl _ _) (Nat.le_refl _) (by simp) ?_; (case hd => rfl); (case hg => rfl); (case hr => first | (go_simp; done) | (go_simp; rfl)); (case hp => exact (Reps.one (show Kd.M Kd.string _ _ _ x3_1 [.string x3_1] from rfl) (Reps.none _ _))); intro v189 w43 ho44 hb hg_ hnew_; clear hg_ hnew_; (first | rw [← Ny188.out] at ho44 | (simp only [Int.reduceToNat] at ho44; rw [← Ny188.out] at ho44)); have n0_ := Aside0.mk (Kd.R_elder' (by (with_reducible repeat (first | apply Kd.R_alloc | apply Kd.R_drewN | apply Kd.R_drew)); exact HO_4.out) (Kd.R_base ho44) hb); have n1_ := Aside0.mk (Kd.R_lower (Kd.R_new' ho44 (Kd.R_lt (by (with_reducible repeat (first | apply Kd.R_alloc | apply Kd.R_drewN | apply Kd.R_drew)); exact HO_4.out))) (below_size (by repeat (first | (with_reducible first | exact HB.out | apply below_alloc | apply pw_below_drewN | apply below_drew1) | exact HB.out)))); have n2_ := Aside0.mk (below_step (by repeat (first | (with_reducible first | exact HB.out | apply below_alloc | apply pw_below_drewN | apply below_drew1) | exact HB.out)) hb); clear HO_4; clear HB; have HO_4 := n0_; have HO190 := n1_; have HB := n2_; clear n0_ n1_ n2_; clear hb ho44; obtain ⟨Ao45, co45, eo45⟩ := Kd.R_slice HO190.out; subst eo45) | (go_at_call 18; (with_reducible refine (text_List.calls k1 _ _ y188 t191 _ ?side1 ?side2 A37.out).mono ?_); (case side1 => repeat (first | exact (Kd.R_reads' HO190.out).2.2 | (with_reducible refine Kd.C_alloc ?_ _) | (with_reducible refine Kd.C_drewN ?_ _) | (with_reducible refine Kd.C_drew ?_))); (case side2 => exact (Kd.R_reads' HO190.out).2.1); rintro e w46 ⟨v192, rfl, ho0, hb⟩; have n0_ := Aside0.mk (Kd.R_elder' (by (with_reducible repeat (first | apply Kd.R_alloc | apply Kd.R_drewN | apply Kd.R_drew)); exact HO_4.out) (Kd.R_base ho0) hb); have n1_ := Aside0.mk (Kd.R_elder' (by (with_reducible repeat (first | apply Kd.R_alloc | apply Kd.R_drewN | apply Kd.R_drew)); exact HO190.out) (Kd.R_base ho0) hb); have n2_ := Aside0.mk (Kd.R_lower (Kd.R_new' (Kd.R_new' ho0 (Kd.R_lt (by (with_reducible repeat (first | apply Kd.R_alloc | apply Kd.R_drewN | apply Kd.R_drew)); exact HO_4.out))) (Kd.R_lt (by (with_reducible repeat (first | apply Kd.R_alloc | apply Kd.R_drewN | apply Kd.R_drew)); exact HO190.out))) (below_size (by repeat (first | (with_reducible first | exact HB.out | apply below_alloc | apply pw_below_drewN | apply below_drew1) | exact HB.out)))); have n3_ := Aside0.mk (below_step (by repeat (first | (with_reducible first | exact HB.out | apply below_alloc | apply pw_below_drewN | apply below_drew1) | exact HB.out)) hb); clear HO_4; clear HO190; clear HB; have HO_4 := n0_; have HO190 := n1_; have HO193 := n2_; have HB := n3_; clear n0_ n1_ n2_ n3_; (try clear hb); (try clear hb2); (try clear hk); (try clear hi); (try clear ho0)) | ((with_reducible refine gate_dst (N := 88) rfl ?_); (try (refine gate_guard (by rfl) ?_; dsimp only)); refine Kd.R_lit Kd.string _ 9 ?hg (N := 88) ?hd (xs := ([((⟨#[32]⟩ : ByteArray) ++ x3_1) ++ (⟨#[32]⟩ : ByteArray), x3_1] : List ByteArray)) (inner := [.string (((⟨#[32]⟩ : ByteArray) ++ x3_1) ++ (⟨#[32]⟩ : ByteArray)), .string x3_1]) (ok := fun _ => True) (okp := fun _ => True) ?hr ?hp (fun _ hk => hk) trivial (Below.refl _ _) (Nat.le_refl _) (by simp) ?_; (case hd => rfl); (case hg => rfl); (case hr => first | (go_simp; done) | (go_simp; rfl)); (case hp => exact (Reps.one (show Kd.M Kd.string _ _ _ (((⟨#[32]⟩ : ByteArray) ++ x3_1) ++ (⟨#[32]⟩ : ByteArray)) [.string (((⟨#[32]⟩ : ByteArray) ++ x3_1) ++ (⟨#[32]⟩ : ByteArray))] from rfl) (Reps.one (show Kd.M Kd.string _ _ _ x3_1 [.string x3_1] from rfl) (Reps.none _ _)))); intro v195 w47 ho48 hb hg_ hnew_; clear hg_ hnew_; (first | rw [← Ny194.out] at ho48 | (simp only [Int.reduceToNat] at ho48; rw [← Ny194.out] at ho48)); have n0_ := Aside0.mk (Kd.R_elder' (by (with_reducible repeat (first | apply Kd.R_alloc | apply Kd.R_drewN | apply Kd.R_drew)); exact HO_4.out) (Kd.R_base ho48) hb); have n1_ := Aside0.mk (Kd.R_elder' (by (with_reducible repeat (first | apply Kd.R_alloc | apply Kd.R_drewN | apply Kd.R_drew)); exact HO190.out) (Kd.R_base ho48) hb); have n2_ := Aside0.mk (Kd.R_elder' (by (with_reducible repeat (first | apply Kd.R_alloc | apply Kd.R_drewN | apply Kd.R_drew)); exact HO193.out) (Kd.R_base ho48) hb); have n3_ := Aside0.mk (Kd.R_lower (Kd.R_new' (Kd.R_new' (Kd.R_new' ho48 (Kd.R_lt (by (with_reducible repeat (first | apply Kd.R_alloc | apply Kd.R_drewN | apply Kd.R_drew)); exact HO_4.out))) (Kd.R_lt (by (with_reducible repeat (first | apply Kd.R_alloc | apply Kd.R_drewN | apply Kd.R_drew)); exact HO190.out))) (Kd.R_lt (by (with_reducible repeat (first | apply Kd.R_alloc | apply Kd.R_drewN | apply Kd.R_drew)); exact HO193.out))) (below_size (by repeat (first | (with_reducible first | exact HB.out | apply below_alloc | apply pw_below_drewN | apply below_drew1) | exact HB.out)))); have n4_ := Aside0.mk (below_step (by repeat (first | (with_reducible first | exact HB.out | apply below_alloc | apply pw_below_drewN | apply below_drew1) | exact HB.out)) hb); clear HO_4; clear HO190; clear HO193; clear HB; have HO_4 := n0_; have HO190 := n1_; have HO193 := n2_; have HO196 := n3_; have HB := n4_; clear n0_ n1_ n2_ n3_ n4_; clear hb ho48; obtain ⟨Ao49, co49, eo49⟩ := Kd.R_slice HO196.out; subst eo49) | (go_at_call 18; (with_reducible refine (text_List.calls k1 _ _ y194 t197 _ ?side1 ?side2 A40.out).mono ?_); (case side1 => repeat (first | exact (Kd.R_reads' HO196.out).2.2 | (with_reducible refine Kd.C_alloc ?_ _) | (with_reducible refine Kd.C_drewN ?_ _) | (with_reducible refine Kd.C_drew ?_))); (case side2 => exact (Kd.R_reads' HO196.out).2.1); rintro e w50 ⟨v198, rfl, ho0, hb⟩; have n0_ := Aside0.mk (Kd.R_elder' (by (with_reducible repeat (first | apply Kd.R_alloc | apply Kd.R_drewN | apply Kd.R_drew)); exact HO_4.out) (Kd.R_base ho0) hb); have n1_ := Aside0.mk (Kd.R_elder' (by (with_reducible repeat (first | apply Kd.R_alloc | apply Kd.R_drewN | apply Kd.R_drew)); exact HO190.out) (Kd.R_base ho0) hb); have n2_ := Aside0.mk (Kd.R_elder' (by (with_reducible repeat (first | apply Kd.R_alloc | apply Kd.R_drewN | apply Kd.R_drew)); exact HO193.out) (Kd.R_base ho0) hb); have n3_ := Aside0.mk (Kd.R_elder' (by (with_reducible repeat (first | apply Kd.R_alloc | apply Kd.R_drewN | apply Kd.R_drew)); exact HO196.out) (Kd.R_base ho0) hb); have n4_ := Aside0.mk (Kd.R_lower (Kd.R_new' (Kd.R_new' (Kd.R_new' (Kd.R_new' ho0 (Kd.R_lt (by (with_reducible repeat (first | apply Kd.R_alloc | apply Kd.R_drewN | apply Kd.R_drew)); exact HO_4.out))) (Kd.R_lt (by (with_reducible repeat (first | apply Kd.R_alloc | apply Kd.R_drewN | apply Kd.R_drew)); exact HO190.out))) (Kd.R_lt (by (with_reducible repeat (first | apply Kd.R_alloc | apply Kd.R_drewN | apply Kd.R_drew)); exact HO193.out))) (Kd.R_lt (by (with_reducible repeat (first | apply Kd.R_alloc | apply Kd.R_drewN | apply Kd.R_drew)); exact HO196.out))) (below_size (by repeat (first | (with_reducible first | exact HB.out | apply below_alloc | apply pw_below_drewN | apply below_drew1) | exact HB.out)))); have n5_ := Aside0.mk (below_step (by repeat (first | (with_reducible first | exact HB.out | apply below_alloc | apply pw_below_drewN | apply below_drew1) | exact HB.out)) hb); clear HO_4; clear HO190; clear HO193; clear HO196; clear HB; have HO_4 := n0_; have HO190 := n1_; have HO193 := n2_; have HO196 := n3_; have HO199 := n4_; have HB := n5_; clear n0_ n1_ n2_ n3_ n4_ n5_; (try clear hb); (try clear hb2); (try clear hk); (try clear hi); (try clear ho0); obtain ⟨Ao51, co51, eo51⟩ := Kd.R_slice HO193.out; subst eo51; obtain ⟨Ao52, co52, eo52⟩ := Kd.R_slice HO_4.out; subst eo52; obtain ⟨Ao53, co53, eo53⟩ := Kd.R_slice HO199.out; subst eo53))
                      repeat (go_quiet (first | ((with_reducible refine gate_dst (N := 82) rfl ?_); (try (refine gate_guard (by rfl) ?_; dsimp only)); refine Kd.R_lit Kd.string _ 9 ?hg (N := 82) ?hd (xs := ([x3_1] : List ByteArray)) (inner := [.string x3_1]) (ok := fun _ => True) (okp := fun _ => True) ?hr ?hp (fun _ hk => hk) trivial (Below.refl _ _) (Nat.le_refl _) (by simp) ?_; (case hd => rfl); (case hg => rfl); (case hr => first | (go_simp; done) | (go_simp; rfl)); (case hp => exact (Reps.one (show Kd.M Kd.string _ _ _ x3_1 [.string x3_1] from rfl) (Reps.none _ _))); intro v189 w43 ho44 hb hg_ hnew_; clear hg_ hnew_; (first | rw [← Ny188.out] at ho44 | (simp only [Int.reduceToNat] at ho44; rw [← Ny188.out] at ho44)); have n0_ := Aside0.mk (Kd.R_elder' (by (with_reducible repeat (first | apply Kd.R_alloc | apply Kd.R_drewN | apply Kd.R_drew)); exact HO_4.out) (Kd.R_base ho44) hb); have n1_ := Aside0.mk (Kd.R_lower (Kd.R_new' ho44 (Kd.R_lt (by (with_reducible repeat (first | apply Kd.R_alloc | apply Kd.R_drewN | apply Kd.R_drew)); exact HO_4.out))) (below_size (by repeat (first | (with_reducible first | exact HB.out | apply below_alloc | apply pw_below_drewN | apply below_drew1) | exact HB.out)))); have n2_ := Aside0.mk (below_step (by repeat (first | (with_reducible first | exact HB.out | apply below_alloc | apply pw_below_drewN | apply below_drew1) | exact HB.out)) hb); clear HO_4; clear HB; have HO_4 := n0_; have HO190 := n1_; have HB := n2_; clear n0_ n1_ n2_; clear hb ho44; obtain ⟨Ao45, co45, eo45⟩ := Kd.R_slice HO190.out; subst eo45) | (go_at_call 18; (with_reducible refine (text_List.calls k1 _ _ y188 t191 _ ?side1 ?side2 A37.out).mono ?_); (case side1 => repeat (first | exact (Kd.R_reads' HO190.out).2.2 | (with_reducible refine Kd.C_alloc ?_ _) | (with_reducible refine Kd.C_drewN ?_ _) | (with_reducible refine Kd.C_drew ?_))); (case side2 => exact (Kd.R_reads' HO190.out).2.1); rintro e w46 ⟨v192, rfl, ho0, hb⟩; have n0_ := Aside0.mk (Kd.R_elder' (by (with_reducible repeat (first | apply Kd.R_alloc | apply Kd.R_drewN | apply Kd.R_drew)); exact HO_4.out) (Kd.R_base ho0) hb); have n1_ := Aside0.mk (Kd.R_elder' (by (with_reducible repeat (first | apply Kd.R_alloc | apply Kd.R_drewN | apply Kd.R_drew)); exact HO190.out) (Kd.R_base ho0) hb); have n2_ := Aside0.mk (Kd.R_lower (Kd.R_new' (Kd.R_new' ho0 (Kd.R_lt (by (with_reducible repeat (first | apply Kd.R_alloc | apply Kd.R_drewN | apply Kd.R_drew)); exact HO_4.out))) (Kd.R_lt (by (with_reducible repeat (first | apply Kd.R_alloc | apply Kd.R_drewN | apply Kd.R_drew)); exact HO190.out))) (below_size (by repeat (first | (with_reducible first | exact HB.out | apply below_alloc | apply pw_below_drewN | apply below_drew1) | exact HB.out)))); have n3_ := Aside0.mk (below_step (by repeat (first | (with_reducible first | exact HB.out | apply below_alloc | apply pw_below_drewN | apply below_drew1) | exact HB.out)) hb); clear HO_4; clear HO190; clear HB; have HO_4 := n0_; have HO190 := n1_; have HO193 := n2_; have HB := n3_; clear n0_ n1_ n2_ n3_; (try clear hb); (try clear hb2); (try clear hk); (try clear hi); (try clear ho0)) | ((with_reducible refine gate_dst (N := 88) rfl ?_); (try (refine gate_guard (by rfl) ?_; dsimp only)); refine Kd.R_lit Kd.string _ 9 ?hg (N := 88) ?hd (xs := ([((⟨#[32]⟩ : ByteArray) ++ x3_1) ++ (⟨#[32]⟩ : ByteArray), x3_1] : List ByteArray)) (inner := [.string (((⟨#[32]⟩ : ByteArray) ++ x3_1) ++ (⟨#[32]⟩ : ByteArray)), .string x3_1]) (ok := fun _ => True) (okp := fun _ => True) ?hr ?hp (fun _ hk => hk) trivial (Below.refl _ _) (Nat.le_refl _) (by simp) ?_; (case hd => rfl); (case hg => rfl); (case hr => first | (go_simp; done) | (go_simp; rfl)); (case hp => exact (Reps.one (show Kd.M Kd.string _ _ _ (((⟨#[32]⟩ : ByteArray) ++ x3_1) ++ (⟨#[32]⟩ : ByteArray)) [.string (((⟨#[32]⟩ : ByteArray) ++ x3_1) ++ (⟨#[32]⟩ : ByteArray))] from rfl) (Reps.one (show Kd.M Kd.string _ _ _ x3_1 [.string x3_1] from rfl) (Reps.none _ _)))); intro v195 w47 ho48 hb hg_ hnew_; clear hg_ hnew_; (first | rw [← Ny194.out] at ho48 | (simp only [Int.reduceToNat] at ho48; rw [← Ny194.out] at ho48)); have n0_ := Aside0.mk (Kd.R_elder' (by (with_reducible repeat (first | apply Kd.R_alloc | apply Kd.R_drewN | apply Kd.R_drew)); exact HO_4.out) (Kd.R_base ho48) hb); have n1_ := Aside0.mk (Kd.R_elder' (by (with_reducible repeat (first | apply Kd.R_alloc | apply Kd.R_drewN | apply Kd.R_drew)); exact HO190.out) (Kd.R_base ho48) hb); have n2_ := Aside0.mk (Kd.R_elder' (by (with_reducible repeat (first | apply Kd.R_alloc | apply Kd.R_drewN | apply Kd.R_drew)); exact HO193.out) (Kd.R_base ho48) hb); have n3_ := Aside0.mk (Kd.R_lower (Kd.R_new' (Kd.R_new' (Kd.R_new' ho48 (Kd.R_lt (by (with_reducible repeat (first | apply Kd.R_alloc | apply Kd.R_drewN | apply Kd.R_drew)); exact HO_4.out))) (Kd.R_lt (by (with_reducible repeat (first | apply Kd.R_alloc | apply Kd.R_drewN | apply Kd.R_drew)); exact HO190.out))) (Kd.R_lt (by (with_reducible repeat (first | apply Kd.R_alloc | apply Kd.R_drewN | apply Kd.R_drew)); exact HO193.out))) (below_size (by repeat (first | (with_reducible first | exact HB.out | apply below_alloc | apply pw_below_drewN | apply below_drew1) | exact HB.out)))); have n4_ := Aside0.mk (below_step (by repeat (first | (with_reducible first | exact HB.out | apply below_alloc | apply pw_below_drewN | apply below_drew1) | exact HB.out)) hb); clear HO_4; clear HO190; clear HO193; clear HB; have HO_4 := n0_; have HO190 := n1_; have HO193 := n2_; have HO196 := n3_; have HB := n4_; clear n0_ n1_ n2_ n3_ n4_; clear hb ho48; obtain ⟨Ao49, co49, eo49⟩ := Kd.R_slice HO196.out; subst eo49) | (go_at_call 18; (with_reducible refine (text_List.calls k1 _ _ y194 t197 _ ?side1 ?side2 A40.out).mono ?_); (case side1 => repeat (first | exact (Kd.R_reads' HO196.out).2.2 | (with_reducible refine Kd.C_alloc ?_ _) | (with_reducible refine Kd.C_drewN ?_ _) | (with_reducible refine Kd.C_drew ?_))); (case side2 => exact (Kd.R_reads' HO196.out).2.1); rintro e w50 ⟨v198, rfl, ho0, hb⟩; have n0_ := Aside0.mk (Kd.R_elder' (by (with_reducible repeat (first | apply Kd.R_alloc | apply Kd.R_drewN | apply Kd.R_drew)); exact HO_4.out) (Kd.R_base ho0) hb); have n1_ := Aside0.mk (Kd.R_elder' (by (with_reducible repeat (first | apply Kd.R_alloc | apply Kd.R_drewN | apply Kd.R_drew)); exact HO190.out) (Kd.R_base ho0) hb); have n2_ := Aside0.mk (Kd.R_elder' (by (with_reducible repeat (first | apply Kd.R_alloc | apply Kd.R_drewN | apply Kd.R_drew)); exact HO193.out) (Kd.R_base ho0) hb); have n3_ := Aside0.mk (Kd.R_elder' (by (with_reducible repeat (first | apply Kd.R_alloc | apply Kd.R_drewN | apply Kd.R_drew)); exact HO196.out) (Kd.R_base ho0) hb); have n4_ := Aside0.mk (Kd.R_lower (Kd.R_new' (Kd.R_new' (Kd.R_new' (Kd.R_new' ho0 (Kd.R_lt (by (with_reducible repeat (first | apply Kd.R_alloc | apply Kd.R_drewN | apply Kd.R_drew)); exact HO_4.out))) (Kd.R_lt (by (with_reducible repeat (first | apply Kd.R_alloc | apply Kd.R_drewN | apply Kd.R_drew)); exact HO190.out))) (Kd.R_lt (by (with_reducible repeat (first | apply Kd.R_alloc | apply Kd.R_drewN | apply Kd.R_drew)); exact HO193.out))) (Kd.R_lt (by (with_reducible repeat (first | apply Kd.R_alloc | apply Kd.R_drewN | apply Kd.R_drew)); exact HO196.out))) (below_size (by repeat (first | (with_reducible first | exact HB.out | apply below_alloc | apply pw_below_drewN | apply below_drew1) | exact HB.out)))); have n5_ := Aside0.mk (below_step (by repeat (first | (with_reducible first | exact HB.out | apply below_alloc | apply pw_below_drewN | apply below_drew1) | exact HB.out)) hb); clear HO_4; clear HO190; clear HO193; clear HO196; clear HB; have HO_4 := n0_; have HO190 := n1_; have HO193 := n2_; have HO196 := n3_; have HO199 := n4_; have HB := n5_; clear n0_ n1_ n2_ n3_ n4_ n5_; (try clear hb); (try clear hb2); (try clear hk); (try clear hi); (try clear ho0); obtain ⟨Ao51, co51, eo51⟩ := Kd.R_slice HO193.out; subst eo51; obtain ⟨Ao52, co52, eo52⟩ := Kd.R_slice HO_4.out; subst eo52; obtain ⟨Ao53, co53, eo53⟩ := Kd.R_slice HO199.out; subst eo53)); try go_wp2_with (first | ((with_reducible refine gate_dst (N := 82) rfl ?_); (try (refine gate_guard (by rfl) ?_; dsimp only)); refine Kd.R_lit Kd.string _ 9 ?hg (N := 82) ?hd (xs := ([x3_1] : List ByteArray)) (inner := [.string x3_1]) (ok := fun _ => True) (okp := fun _ => True) ?hr ?hp (fun _ hk => hk) trivial (Below.refl _ _) (Nat.le_refl _) (by simp) ?_; (case hd => rfl); (case hg => rfl); (case hr => first | (go_simp; done) | (go_simp; rfl)); (case hp => exact (Reps.one (show Kd.M Kd.string _ _ _ x3_1 [.string x3_1] from rfl) (Reps.none _ _))); intro v189 w43 ho44 hb hg_ hnew_; clear hg_ hnew_; (first | rw [← Ny188.out] at ho44 | (simp only [Int.reduceToNat] at ho44; rw [← Ny188.out] at ho44)); have n0_ := Aside0.mk (Kd.R_elder' (by (with_reducible repeat (first | apply Kd.R_alloc | apply Kd.R_drewN | apply Kd.R_drew)); exact HO_4.out) (Kd.R_base ho44) hb); have n1_ := Aside0.mk (Kd.R_lower (Kd.R_new' ho44 (Kd.R_lt (by (with_reducible repeat (first | apply Kd.R_alloc | apply Kd.R_drewN | apply Kd.R_drew)); exact HO_4.out))) (below_size (by repeat (first | (with_reducible first | exact HB.out | apply below_alloc | apply pw_below_drewN | apply below_drew1) | exact HB.out)))); have n2_ := Aside0.mk (below_step (by repeat (first | (with_reducible first | exact HB.out | apply below_alloc | apply pw_below_drewN | apply below_drew1) | exact HB.out)) hb); clear HO_4; clear HB; have HO_4 := n0_; have HO190 := n1_; have HB := n2_; clear n0_ n1_ n2_; clear hb ho44; obtain ⟨Ao45, co45, eo45⟩ := Kd.R_slice HO190.out; subst eo45) | (go_at_call 18; (with_reducible refine (text_List.calls k1 _ _ y188 t191 _ ?side1 ?side2 A37.out).mono ?_); (case side1 => repeat (first | exact (Kd.R_reads' HO190.out).2.2 | (with_reducible refine Kd.C_alloc ?_ _) | (with_reducible refine Kd.C_drewN ?_ _) | (with_reducible refine Kd.C_drew ?_))); (case side2 => exact (Kd.R_reads' HO190.out).2.1); rintro e w46 ⟨v192, rfl, ho0, hb⟩; have n0_ := Aside0.mk (Kd.R_elder' (by (with_reducible repeat (first | apply Kd.R_alloc | apply Kd.R_drewN | apply Kd.R_drew)); exact HO_4.out) (Kd.R_base ho0) hb); have n1_ := Aside0.mk (Kd.R_elder' (by (with_reducible repeat (first | apply Kd.R_alloc | apply Kd.R_drewN | apply Kd.R_drew)); exact HO190.out) (Kd.R_base ho0) hb); have n2_ := Aside0.mk (Kd.R_lower (Kd.R_new' (Kd.R_new' ho0 (Kd.R_lt (by (with_reducible repeat (first | apply Kd.R_alloc | apply Kd.R_drewN | apply Kd.R_drew)); exact HO_4.out))) (Kd.R_lt (by (with_reducible repeat (first | apply Kd.R_alloc | apply Kd.R_drewN | apply Kd.R_drew)); exact HO190.out))) (below_size (by repeat (first | (with_reducible first | exact HB.out | apply below_alloc | apply pw_below_drewN | apply below_drew1) | exact HB.out)))); have n3_ := Aside0.mk (below_step (by repeat (first | (with_reducible first | exact HB.out | apply below_alloc | apply pw_below_drewN | apply below_drew1) | exact HB.out)) hb); clear HO_4; clear HO190; clear HB; have HO_4 := n0_; have HO190 := n1_; have HO193 := n2_; have HB := n3_; clear n0_ n1_ n2_ n3_; (try clear hb); (try clear hb2); (try clear hk); (try clear hi); (try clear ho0)) | ((with_reducible refine gate_dst (N := 88) rfl ?_); (try (refine gate_guard (by rfl) ?_; dsimp only)); refine Kd.R_lit Kd.string _ 9 ?hg (N := 88) ?hd (xs := ([((⟨#[32]⟩ : ByteArray) ++ x3_1) ++ (⟨#[32]⟩ : ByteArray), x3_1] : List ByteArray)) (inner := [.string (((⟨#[32]⟩ : ByteArray) ++ x3_1) ++ (⟨#[32]⟩ : ByteArray)), .string x3_1]) (ok := fun _ => True) (okp := fun _ => True) ?hr ?hp (fun _ hk => hk) trivial (Below.refl _ _) (Nat.le_refl _) (by simp) ?_; (case hd => rfl); (case hg => rfl); (case hr => first | (go_simp; done) | (go_simp; rfl)); (case hp => exact (Reps.one (show Kd.M Kd.string _ _ _ (((⟨#[32]⟩ : ByteArray) ++ x3_1) ++ (⟨#[32]⟩ : ByteArray)) [.string (((⟨#[32]⟩ : ByteArray) ++ x3_1) ++ (⟨#[32]⟩ : ByteArray))] from rfl) (Reps.one (show Kd.M Kd.string _ _ _ x3_1 [.string x3_1] from rfl) (Reps.none _ _)))); intro v195 w47 ho48 hb hg_ hnew_; clear hg_ hnew_; (first | rw [← Ny194.out] at ho48 | (simp only [Int.reduceToNat] at ho48; rw [← Ny194.out] at ho48)); have n0_ := Aside0.mk (Kd.R_elder' (by (with_reducible repeat (first | apply Kd.R_alloc | apply Kd.R_drewN | apply Kd.R_drew)); exact HO_4.out) (Kd.R_base ho48) hb); have n1_ := Aside0.mk (Kd.R_elder' (by (with_reducible repeat (first | apply Kd.R_alloc | apply Kd.R_drewN | apply Kd.R_drew)); exact HO190.out) (Kd.R_base ho48) hb); have n2_ := Aside0.mk (Kd.R_elder' (by (with_reducible repeat (first | apply Kd.R_alloc | apply Kd.R_drewN | apply Kd.R_drew)); exact HO193.out) (Kd.R_base ho48) hb); have n3_ := Aside0.mk (Kd.R_lower (Kd.R_new' (Kd.R_new' (Kd.R_new' ho48 (Kd.R_lt (by (with_reducible repeat (first | apply Kd.R_alloc | apply Kd.R_drewN | apply Kd.R_drew)); exact HO_4.out))) (Kd.R_lt (by (with_reducible repeat (first | apply Kd.R_alloc | apply Kd.R_drewN | apply Kd.R_drew)); exact HO190.out))) (Kd.R_lt (by (with_reducible repeat (first | apply Kd.R_alloc | apply Kd.R_drewN | apply Kd.R_drew)); exact HO193.out))) (below_size (by repeat (first | (with_reducible first | exact HB.out | apply below_alloc | apply pw_below_drewN | apply below_drew1) | exact HB.out)))); have n4_ := Aside0.mk (below_step (by repeat (first | (with_reducible first | exact HB.out | apply below_alloc | apply pw_below_drewN | apply below_drew1) | exact HB.out)) hb); clear HO_4; clear HO190; clear HO193; clear HB; have HO_4 := n0_; have HO190 := n1_; have HO193 := n2_; have HO196 := n3_; have HB := n4_; clear n0_ n1_ n2_ n3_ n4_; clear hb ho48; obtain ⟨Ao49, co49, eo49⟩ := Kd.R_slice HO196.out; subst eo49) | (go_at_call 18; (with_reducible refine (text_List.calls k1 _ _ y194 t197 _ ?side1 ?side2 A40.out).mono ?_); (case side1 => repeat (first | exact (Kd.R_reads' HO196.out).2.2 | (with_reducible refine Kd.C_alloc ?_ _) | (with_reducible refine Kd.C_drewN ?_ _) | (with_reducible refine Kd.C_drew ?_))); (case side2 => exact (Kd.R_reads' HO196.out).2.1); rintro e w50 ⟨v198, rfl, ho0, hb⟩; have n0_ := Aside0.mk (Kd.R_elder' (by (with_reducible repeat (first | apply Kd.R_alloc | apply Kd.R_drewN | apply Kd.R_drew)); exact HO_4.out) (Kd.R_base ho0) hb); have n1_ := Aside0.mk (Kd.R_elder' (by (with_reducible repeat (first | apply Kd.R_alloc | apply Kd.R_drewN | apply Kd.R_drew)); exact HO190.out) (Kd.R_base ho0) hb); have n2_ := Aside0.mk (Kd.R_elder' (by (with_reducible repeat (first | apply Kd.R_alloc | apply Kd.R_drewN | apply Kd.R_drew)); exact HO193.out) (Kd.R_base ho0) hb); have n3_ := Aside0.mk (Kd.R_elder' (by (with_reducible repeat (first | apply Kd.R_alloc | apply Kd.R_drewN | apply Kd.R_drew)); exact HO196.out) (Kd.R_base ho0) hb); have n4_ := Aside0.mk (Kd.R_lower (Kd.R_new' (Kd.R_new' (Kd.R_new' (Kd.R_new' ho0 (Kd.R_lt (by (with_reducible repeat (first | apply Kd.R_alloc | apply Kd.R_drewN | apply Kd.R_drew)); exact HO_4.out))) (Kd.R_lt (by (with_reducible repeat (first | apply Kd.R_alloc | apply Kd.R_drewN | apply Kd.R_drew)); exact HO190.out))) (Kd.R_lt (by (with_reducible repeat (first | apply Kd.R_alloc | apply Kd.R_drewN | apply Kd.R_drew)); exact HO193.out))) (Kd.R_lt (by (with_reducible repeat (first | apply Kd.R_alloc | apply Kd.R_drewN | apply Kd.R_drew)); exact HO196.out))) (below_size (by repeat (first | (with_reducible first | exact HB.out | apply below_alloc | apply pw_below_drewN | apply below_drew1) | exact HB.out)))); have n5_ := Aside0.mk (below_step (by repeat (first | (with_reducible first | exact HB.out | apply below_alloc | apply pw_below_drewN | apply below_drew1) | exact HB.out)) hb); clear HO_4; clear HO190; clear HO193; clear HO196; clear HB; have HO_4 := n0_; have HO190 := n1_; have HO193 := n2_; have HO196 := n3_; have HO199 := n4_; have HB := n5_; clear n0_ n1_ n2_ n3_ n4_ n5_; (try clear hb); (try clear hb2); (try clear hk); (try clear hi); (try clear ho0); obtain ⟨Ao51, co51, eo51⟩ := Kd.R_slice HO193.out; subst eo51; obtain ⟨Ao52, co52, eo52⟩ := Kd.R_slice HO_4.out; subst eo52; obtain ⟨Ao53, co53, eo53⟩ := Kd.R_slice HO199.out; subst eo53)))
                      go_loopg [11] k1 (fun kq v11 w' => ∃ (x11_2 : Int), v11 = .int .i64 x11_2 ∧ Aside0 (parallaxlaw3_TextLists.l2 kq x4_1 t191 t197 x11_2 = some r) ∧ Aside0 (kq ≤ k1) ∧ Aside0 (Kd.R Kd.string 9 w' w.heap.size (fun k_ => some k_ ≠ ((.slice Ao51 t191.length co51) : Value).ownBlock ∧ some k_ ≠ ((.slice Ao53 t197.length co53) : Value).ownBlock) (.slice Ao52 x4_1.length co52) x4_1) ∧ Aside0 (Kd.R Kd.string 9 w' w.heap.size (fun k_ => some k_ ≠ ((.slice Ao52 x4_1.length co52) : Value).ownBlock ∧ some k_ ≠ ((.slice Ao53 t197.length co53) : Value).ownBlock) (.slice Ao51 t191.length co51) t191) ∧ Aside0 (Kd.R Kd.string 9 w' w.heap.size (fun k_ => some k_ ≠ ((.slice Ao52 x4_1.length co52) : Value).ownBlock ∧ some k_ ≠ ((.slice Ao51 t191.length co51) : Value).ownBlock) (.slice Ao53 t197.length co53) t197) ∧ Aside0 (Below w.heap.size w w'))
                      case atStart => exact ⟨(0), (by first | rfl | (simp; done) | (simp [*]; done)), H', ⟨Nat.le_refl _⟩, ⟨by (with_reducible repeat (first | apply Kd.R_alloc | apply Kd.R_drewN | apply Kd.R_drew)); exact Kd.R_mono HO_4.out (fun _ hk => ⟨hk.1.1.2, hk.2⟩)⟩, ⟨by (with_reducible repeat (first | apply Kd.R_alloc | apply Kd.R_drewN | apply Kd.R_drew)); exact Kd.R_mono HO193.out (fun _ hk => ⟨hk.1.1.1.2, hk.2⟩)⟩, ⟨by (with_reducible repeat (first | apply Kd.R_alloc | apply Kd.R_drewN | apply Kd.R_drew)); exact Kd.R_mono HO199.out (fun _ hk => ⟨hk.1.1.1.2, hk.1.2⟩)⟩, ⟨by repeat (first | (with_reducible first | exact HB.out | apply below_alloc | apply pw_below_drewN | apply below_drew1) | exact HB.out)⟩⟩
                      case round =>
                        clear H'
                        try clear c1
                        try clear p1
                        try clear q1
                        try clear hx1
                        try clear c2
                        try clear p2
                        try clear hcv2
                        try clear c3
                        try clear c4
                        try clear c4b0
                        try clear c4b1
                        try clear c6
                        try clear c6b0
                        try clear c6b1
                        try clear c6b2
                        try clear p6
                        try clear c9
                        try clear c9b0
                        try clear c10
                        try clear c10b0
                        try clear c11
                        try clear c11b0
                        try clear c11b1
                        try clear c12
                        try clear c12b0
                        try clear c13
                        try clear c13b0
                        try clear c14
                        try clear c14b0
                        try clear c15
                        try clear c15b0
                        try clear c16
                        try clear c16b0
                        try clear c16b1
                        try clear c17
                        try clear c17b0
                        try clear c17b1
                        try clear p17
                        try clear q17
                        try clear hx17
                        try clear c18
                        try clear c18b0
                        try clear c18b1
                        try clear p18
                        try clear q18
                        try clear hx18
                        try clear c19
                        try clear c19b0
                        try clear c19b1
                        try clear c19b2
                        try clear hcv22
                        try clear c23
                        try clear c23b0
                        try clear c25
                        try clear c25b0
                        try clear c26
                        try clear c26b0
                        try clear c27
                        try clear c27b0
                        try clear c27b1
                        try clear c27b2
                        try clear c28
                        try clear c28b0
                        try clear c28b1
                        try clear c28b2
                        try clear c29
                        try clear c34
                        try clear c34b0
                        try clear c34b1
                        try clear c34b2
                        try clear c35
                        try clear c38
                        try clear c38b0
                        try clear c38b1
                        try clear c38b2
                        try clear c39
                        try clear c39b0
                        try clear c39b1
                        try clear c39b2
                        try clear c41
                        try clear c41b0
                        try clear c41b1
                        try clear c41b2
                        try clear c42
                        try clear c42b0
                        try clear c42b1
                        try clear hx171_0
                        try clear hx172_0
                        try clear hx173_0
                        try clear hx174_0
                        try clear hx181_0
                        try clear p1
                        try clear p171
                        try clear p172
                        try clear p173
                        try clear p174
                        try clear p181
                        try clear p2
                        try clear q1
                        try clear q171
                        try clear q172
                        try clear q173
                        try clear q174
                        try clear q181
                        obtain ⟨x11_2, rfl, HA, HK2, HO_4, HO_9, HO_10, HB⟩ := hrel
                        cases gk with
                        | zero => exact absurd HA.out (by simp [parallaxlaw3_TextLists.l2])
                        | succ k2 =>
                          have H := HA.out
                          clear HA
                          simp only [parallaxlaw3_TextLists.l2] at H
                          by_cases c54 : x11_2 < (x4_1.length : Int)
                          · rw [if_pos c54] at H
                            have c54b0 : decide (x11_2 < (x4_1.length : Int)) = true := decide_eq_true c54
                            clear c54
                            by_cases c55 : 0 ≤ x11_2
                            · rw [if_pos c55] at H
                              have c55b0 : decide (0 ≤ x11_2) = true := decide_eq_true c55
                              clear c55
                              by_cases c56 : x11_2 < (t191.length : Int)
                              · rw [if_pos c56] at H
                                have c56b0 : decide (x11_2 < (t191.length : Int)) = true := decide_eq_true c56
                                clear c56
                                by_cases c57 : (rdOf ByteArray.empty t191 x11_2).toList = (rdOf ByteArray.empty x4_1 x11_2).toList
                                · rw [if_pos c57] at H
                                  have c57b0 : ((rdOf ByteArray.empty t191 x11_2).toList == (rdOf ByteArray.empty x4_1 x11_2).toList) = true := beq_iff_eq.mpr c57
                                  have c57b1 : ((rdOf ByteArray.empty t191 x11_2).toList != (rdOf ByteArray.empty x4_1 x11_2).toList) = false := bne_eq_false_iff_eq.mpr c57
                                  clear c57
                                  by_cases c58 : x11_2 < (t197.length : Int)
                                  · rw [if_pos c58] at H
                                    have c58b0 : decide (x11_2 < (t197.length : Int)) = true := decide_eq_true c58
                                    clear c58
                                    by_cases c59 : (rdOf ByteArray.empty t197 x11_2).toList = (rdOf ByteArray.empty x4_1 x11_2).toList
                                    · rw [if_pos c59] at H
                                      have c59b0 : ((rdOf ByteArray.empty t197 x11_2).toList == (rdOf ByteArray.empty x4_1 x11_2).toList) = true := beq_iff_eq.mpr c59
                                      have c59b1 : ((rdOf ByteArray.empty t197 x11_2).toList != (rdOf ByteArray.empty x4_1 x11_2).toList) = false := bne_eq_false_iff_eq.mpr c59
                                      clear c59
                                      obtain ⟨ji60, hji60⟩ : ∃ j_ : Int, (wrap64 (x11_2 + (x4_1.length : Int))) = j_ := ⟨_, rfl⟩
                                      replace H : (if 0 ≤ (ji60) then (if (ji60) < (t197.length : Int) then (if (rdOf ByteArray.empty t197 (ji60)).toList = (rdOf ByteArray.empty x4_1 x11_2).toList then (parallaxlaw3_TextLists.l2 k2 x4_1 t191 t197 (wrap64 (x11_2 + 1))) else (some false)) else (none)) else (none)) = some r := by first | (rw [hji60] at H; exact H) | (simp only [hji60] at H ⊢; exact H)
                                      have hji60w : (IntKind.i64.wrap (x11_2 + (x4_1.length : Int))) = ji60 := (i64_w _).trans hji60
                                      by_cases c61 : 0 ≤ (ji60)
                                      · rw [if_pos c61] at H
                                        have c61b0 : decide (0 ≤ (ji60)) = true := decide_eq_true c61
                                        clear c61
                                        by_cases c62 : (ji60) < (t197.length : Int)
                                        · rw [if_pos c62] at H
                                          have c62b0 : decide ((ji60) < (t197.length : Int)) = true := decide_eq_true c62
                                          clear c62
                                          by_cases c63 : (rdOf ByteArray.empty t197 (ji60)).toList = (rdOf ByteArray.empty x4_1 x11_2).toList
                                          · rw [if_pos c63] at H
                                            have c63b0 : ((rdOf ByteArray.empty t197 (ji60)).toList == (rdOf ByteArray.empty x4_1 x11_2).toList) = true := beq_iff_eq.mpr c63
                                            have c63b1 : ((rdOf ByteArray.empty t197 (ji60)).toList != (rdOf ByteArray.empty x4_1 x11_2).toList) = false := bne_eq_false_iff_eq.mpr c63
                                            clear c63
                                            have H' := Aside0.mk H
                                            clear H
                                            have p200 : 0 ≤ (x11_2 : Int) := of_decide_eq_true (by first | (with_reducible assumption) | assumption)
                                            have q200 : x11_2 < (t191.length : Int) := of_decide_eq_true (by first | (with_reducible assumption) | assumption)
                                            obtain ⟨ad200, e200, hx200_0⟩ := Kd.at_string (Kd.R_reads' HO_9.out).2.2 x11_2 p200 q200
                                            cases e200
                                            replace p200 := eq_true p200
                                            replace q200 := eq_true q200
                                            have p201 : 0 ≤ (x11_2 : Int) := of_decide_eq_true (by first | (with_reducible assumption) | assumption)
                                            have q201 : x11_2 < (x4_1.length : Int) := of_decide_eq_true (by first | (with_reducible assumption) | assumption)
                                            obtain ⟨ad201, e201, hx201_0⟩ := Kd.at_string (Kd.R_reads' HO_4.out).2.2 x11_2 p201 q201
                                            cases e201
                                            replace p201 := eq_true p201
                                            replace q201 := eq_true q201
                                            have p202 : 0 ≤ (x11_2 : Int) := of_decide_eq_true (by first | (with_reducible assumption) | assumption)
                                            have q202 : x11_2 < (t197.length : Int) := of_decide_eq_true (by first | (with_reducible assumption) | assumption)
                                            obtain ⟨ad202, e202, hx202_0⟩ := Kd.at_string (Kd.R_reads' HO_10.out).2.2 x11_2 p202 q202
                                            cases e202
                                            replace p202 := eq_true p202
                                            replace q202 := eq_true q202
                                            have p203 : 0 ≤ (x11_2 : Int) := of_decide_eq_true (by first | (with_reducible assumption) | assumption)
                                            have q203 : x11_2 < (x4_1.length : Int) := of_decide_eq_true (by first | (with_reducible assumption) | assumption)
                                            obtain ⟨ad203, e203, hx203_0⟩ := Kd.at_string (Kd.R_reads' HO_4.out).2.2 x11_2 p203 q203
                                            obtain rfl : ad201 = ad203 := (by injection e203)
                                            replace p203 := eq_true p203
                                            replace q203 := eq_true q203
                                            have p204 : 0 ≤ ((ji60) : Int) := of_decide_eq_true (by first | (with_reducible assumption) | assumption)
                                            have q204 : (ji60) < (t197.length : Int) := of_decide_eq_true (by first | (with_reducible assumption) | assumption)
                                            obtain ⟨ad204, e204, hx204_0⟩ := Kd.at_string (Kd.R_reads' HO_10.out).2.2 (ji60) p204 q204
                                            obtain rfl : ad202 = ad204 := (by injection e204)
                                            replace p204 := eq_true p204
                                            replace q204 := eq_true q204
                                            have p205 : 0 ≤ (x11_2 : Int) := of_decide_eq_true (by first | (with_reducible assumption) | assumption)
                                            have q205 : x11_2 < (x4_1.length : Int) := of_decide_eq_true (by first | (with_reducible assumption) | assumption)
                                            obtain ⟨ad205, e205, hx205_0⟩ := Kd.at_string (Kd.R_reads' HO_4.out).2.2 x11_2 p205 q205
                                            obtain rfl : ad201 = ad205 := (by injection e205)
                                            replace p205 := eq_true p205
                                            replace q205 := eq_true q205
                                            go_wp2
                                            repeat (go_quiet (fail); try go_wp2)
                                            go_roundg k2
                                            case measure => have := HK1.out; have := HK2.out; omega
                                            case rel => exact ⟨(wrap64 (x11_2 + 1)), (by first | rfl | (simp; done) | (simp [*]; done)), H', ⟨by have := HK1.out; have := HK2.out; omega⟩, ⟨by (with_reducible repeat (first | apply Kd.R_alloc | apply Kd.R_drewN | apply Kd.R_drew)); exact HO_4.out⟩, ⟨by (with_reducible repeat (first | apply Kd.R_alloc | apply Kd.R_drewN | apply Kd.R_drew)); exact HO_9.out⟩, ⟨by (with_reducible repeat (first | apply Kd.R_alloc | apply Kd.R_drewN | apply Kd.R_drew)); exact HO_10.out⟩, ⟨by repeat (first | (with_reducible first | exact HB.out | apply below_alloc | apply pw_below_drewN | apply below_drew1) | exact HB.out)⟩⟩
                                          · rw [if_neg c63] at H
                                            have c63b0 : ((rdOf ByteArray.empty t197 (ji60)).toList == (rdOf ByteArray.empty x4_1 x11_2).toList) = false := beq_eq_false_iff_ne.mpr c63
                                            have c63b1 : ((rdOf ByteArray.empty t197 (ji60)).toList != (rdOf ByteArray.empty x4_1 x11_2).toList) = true := bne_iff_ne.mpr c63
                                            exact absurd ((Option.some.inj H).trans HT.out) (by decide)
                                        · rw [if_neg c62] at H
                                          exact absurd H (by simp)
                                      · rw [if_neg c61] at H
                                        exact absurd H (by simp)
                                    · rw [if_neg c59] at H
                                      have c59b0 : ((rdOf ByteArray.empty t197 x11_2).toList == (rdOf ByteArray.empty x4_1 x11_2).toList) = false := beq_eq_false_iff_ne.mpr c59
                                      have c59b1 : ((rdOf ByteArray.empty t197 x11_2).toList != (rdOf ByteArray.empty x4_1 x11_2).toList) = true := bne_iff_ne.mpr c59
                                      exact absurd ((Option.some.inj H).trans HT.out) (by decide)
                                  · rw [if_neg c58] at H
                                    exact absurd H (by simp)
                                · rw [if_neg c57] at H
                                  have c57b0 : ((rdOf ByteArray.empty t191 x11_2).toList == (rdOf ByteArray.empty x4_1 x11_2).toList) = false := beq_eq_false_iff_ne.mpr c57
                                  have c57b1 : ((rdOf ByteArray.empty t191 x11_2).toList != (rdOf ByteArray.empty x4_1 x11_2).toList) = true := bne_iff_ne.mpr c57
                                  exact absurd ((Option.some.inj H).trans HT.out) (by decide)
                              · rw [if_neg c56] at H
                                exact absurd H (by simp)
                            · rw [if_neg c55] at H
                              exact absurd H (by simp)
                          · rw [if_neg c54] at H
                            have c54b0 : decide (x11_2 < (x4_1.length : Int)) = false := decide_eq_false c54
                            clear c54
                            obtain rfl := Option.some.inj H
                            go_wp2
                            repeat (go_quiet (fail); try go_wp2)
                            go_ret
                            exact ⟨by first | rfl | (simp [errW_none, errW_some] <;> rfl) | (simp [*, errW_none, errW_some] <;> rfl), by repeat (first | (with_reducible first | exact HB.out | apply below_alloc | apply pw_below_drewN | apply below_drew1) | exact HB.out)⟩
                    · rw [if_neg c42] at H
                      have c42b0 : ((t197.length : Int) == (wrap64 (2 * (x4_1.length : Int)))) = false := beq_eq_false_iff_ne.mpr c42
                      have c42b1 : ((t197.length : Int) != (wrap64 (2 * (x4_1.length : Int)))) = true := bne_iff_ne.mpr c42
                      exact absurd ((Option.some.inj H).trans HT.out) (by decide)
                  · rw [if_neg c41] at H
                    have c41b0 : ((t191.length : Int) == (x4_1.length : Int)) = false := beq_eq_false_iff_ne.mpr c41
                    have c41b1 : ((t191.length : Int) != (x4_1.length : Int)) = true := bne_iff_ne.mpr c41
                    have c41b2 : (t191.length == x4_1.length) = false := by first | simpa using c41 | (simp at c41 ⊢; omega)
                    exact absurd ((Option.some.inj H).trans HT.out) (by decide)
                · rw [if_neg c39] at H
                  exact absurd H (by simp)
              · rw [if_neg c38] at H
                exact absurd H (by simp)
  · replace c3 := Bool.eq_false_iff.mpr c3
    subst c3
    rw [if_neg (show ¬ (false = true) by decide)] at H
    exact absurd ((Option.some.inj H).trans HT.out) (by decide)

/-- THE ONE PURE STATEMENT of parallaxlaw3_TextLists: yours. -/
def parallaxlaw3_TextLists.Pure : Prop := ∀ (l0 : List (List Int)), (l0.length ≤ 9223372036854775807 ∧ ∀ x0_ ∈ l0, (x0_.length ≤ 9223372036854775807 ∧ ∀ x1_ ∈ x0_, (Lit.int .u8 x1_).wf = true)) → ∃ k, parallaxlaw3_TextLists.f k l0 = some true

end Go.Proofs.YtjpgnkkfkkpheaaDoor.PTextLists
