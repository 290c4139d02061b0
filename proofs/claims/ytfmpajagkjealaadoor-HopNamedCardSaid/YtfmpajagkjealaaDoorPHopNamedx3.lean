-- Written by a program of this session (wip/tools/myprint.sh)
import Derived.Lib.SliceRun
import Derived.Test.YtfmpajagkjealaaDoorPHopNamedx0
import Derived.Test.YtfmpajagkjealaaDoorPHopNamedx2
namespace Go.Proofs.YtfmpajagkjealaaDoor.PHopNamed
open Go.RowKit Go.Proofs.YtfmpajagkjealaaDoorW.PrintWords Go.Proofs.YtfmpajagkjealaaDoorW.PrintLast Go.Proofs.YtfmpajagkjealaaDoorW.PrintMore
attribute [local go_sem] max2_int min2_int max_two min_two max_three min_three max_four min_four   -- for this text's walks alone
set_option linter.unusedVariables false
set_option linter.unusedSimpArgs false

/-! ### text_Without: function 25 -/
def text_Without.l0 : Nat → List ByteArray → List (S28) → List (S28) → Int → Int → Option ((List (S28)))
  | 0, _, _, _, _, _ => none
  | k + 1, x1, x5, x8, x9, x10 => if x10 < x9 then (if 0 ≤ x10 then (if x10 < (x8.length : Int) then ((text_Without_1_ContainsFunc.f x1 ((rd_T28 x8 x10).f0) ((rd_T28 x8 x10).f1)).bind fun t141 => (if t141 = true then (text_Without.l0 k x1 x5 x8 x9 (wrap64 (x10 + 1))) else (if x5.length < 4398046511104 then (text_Without.l0 k x1 (x5 ++ [(⟨(rd_T28 x8 x10).f0, (rd_T28 x8 x10).f1⟩ : S28)]) x8 x9 (wrap64 (x10 + 1))) else (none)))) else (none)) else (none)) else (some x5)
def text_Without.f (k : Nat) (l0 : List (S28)) (l1 : List ByteArray) : Option ((List (S28))) := text_Without.l0 k l1 ([] : List (S28)) l0 (l0.length : Int) 0
theorem text_Without.mono_l : ∀ k, (∀ y0 y1 y2 y3 y4, LeO (text_Without.l0 k y0 y1 y2 y3 y4) (text_Without.l0 (k + 1) y0 y1 y2 y3 y4))
  | 0 => fun _ _ _ _ _ r h => by simp [text_Without.l0] at h
  | k + 1 => by
    have ih0 := text_Without.mono_l k
    · intro y0 y1 y2 y3 y4
      unfold text_Without.l0
      repeat' first
      | (with_reducible exact ih0 _ _ _ _ _)
      | (with_reducible exact LeO.refl _)
      | (with_reducible exact LeO.none _)
      | (with_reducible refine LeO.ite ?_ ?_)
      | (with_reducible refine LeO.bind ?_ (fun _ => ?_))
      | exact ih0 _ _ _ _ _
      | exact LeO.none _
      | refine LeO.ite ?_ ?_
      | refine LeO.bind ?_ (fun _ => ?_)
theorem text_Without.mono : ∀ a0 a1 k, LeO (text_Without.f k a0 a1) (text_Without.f (k + 1) a0 a1) := by
  intro a0 a1 k
  have ih0 := text_Without.mono_l k
  unfold text_Without.f
  repeat' first
      | (with_reducible exact ih0 _ _ _ _ _)
      | (with_reducible exact LeO.refl _)
      | (with_reducible exact LeO.none _)
      | (with_reducible refine LeO.ite ?_ ?_)
      | (with_reducible refine LeO.bind ?_ (fun _ => ?_))
      | exact ih0 _ _ _ _ _
      | exact LeO.none _
      | refine LeO.ite ?_ ?_
      | refine LeO.bind ?_ (fun _ => ?_)
set_option maxHeartbeats 8000000 in
set_option maxRecDepth 100000 in
theorem text_Without.calls (k : Nat) (A0 : Option Addr) (c0 : Nat) (l0 : List (S28)) (A1 : Option Addr) (c1 : Nat) (l1 : List ByteArray) (r : List (S28)) (w : World) (hr0 : Kd.C k28 w A0 l0.length l0) (hc0 : l0.length ≤ c0) (hr1 : Kd.C Kd.string w A1 l1.length l1) (hc1 : l1.length ≤ c1) (h : text_Without.f k l0 l1 = some r) :
    Calls Tryd.prog 25 #[.slice A0 l0.length c0, .slice A1 l1.length c1] w fun e w' => ∃ v0_ : Value, e = .returned (v0_) ∧ Kd.R k28 28 w' w.heap.size (fun _ => True) v0_ r ∧ Below w.heap.size w w' := by
  have hu28 := Tryd.underlying28
  have HR0 := Aside0.mk hr0
  have HC0 := Aside0.mk hc0
  clear hr0 hc0
  have HR1 := Aside0.mk hr1
  have HC1 := Aside0.mk hc1
  clear hr1 hc1
  have HB := Aside0.mk (Below.refl w.heap.size w)
  have H : (text_Without.l0 k l1 ([] : List (S28)) l0 (l0.length : Int) 0) = some r := h
  clear h
  have H' := Aside0.mk H
  clear H
  go_enter Tryd.func25, Tryd.ntmps25
  go_wp2
  go_loopg [5, 10] k (fun kq v5 v10 w' => ∃ (x5_1 : List (S28)) (x10_1 : Int), v10 = .int .i64 x10_1 ∧ Aside0 (text_Without.l0 kq l1 x5_1 l0 (l0.length : Int) x10_1 = some r) ∧ Aside0 (kq ≤ k) ∧ Aside0 (Kd.R k28 28 w' w.heap.size (fun _ => True) v5 x5_1) ∧ Aside0 (Below w.heap.size w w'))
  case atStart => exact ⟨(([] : List (S28))), (0), (by first | rfl | (simp; done) | (simp [*]; done)), H', ⟨Nat.le_refl _⟩, ⟨by first | exact Kd.R_nil _ _ _ _ _ | exact Kd.N_nil _ _ _ _ _ | exact Kd.V_nil _ _ _ _ _ | exact Kd.Q_nil _ _ _ _ _ | exact Kd.S_nil _ _ _ _ _⟩, ⟨by repeat (first | (with_reducible first | exact HB.out | apply below_alloc | apply pw_below_drewN | apply below_drew1) | exact HB.out)⟩⟩
  case round =>
    clear H'
    try clear c1
    try clear c2
    try clear p2
    obtain ⟨x5_1, x10_1, rfl, HA, HK1, HO_5, HB⟩ := hrel
    cases gk with
    | zero => exact absurd HA.out (by simp [text_Without.l0])
    | succ k1 =>
      have H := HA.out
      clear HA
      simp only [text_Without.l0] at H
      by_cases c3 : x10_1 < (l0.length : Int)
      · rw [if_pos c3] at H
        have c3b0 : decide (x10_1 < (l0.length : Int)) = true := decide_eq_true c3
        clear c3
        by_cases c4 : 0 ≤ x10_1
        · rw [if_pos c4] at H
          have c4b0 : decide (0 ≤ x10_1) = true := decide_eq_true c4
          clear c4
          by_cases c5 : x10_1 < (l0.length : Int)
          · rw [if_pos c5] at H
            have c5b0 : decide (x10_1 < (l0.length : Int)) = true := decide_eq_true c5
            clear c5
            replace H := Option.bind_eq_some_iff.mp H
            obtain ⟨t141, A60, H⟩ := H
            replace H : (if t141 = true then (text_Without.l0 k1 l1 x5_1 l0 (l0.length : Int) (wrap64 (x10_1 + 1))) else (if x5_1.length < 4398046511104 then (text_Without.l0 k1 l1 (x5_1 ++ [(⟨(rd_T28 l0 x10_1).f0, (rd_T28 l0 x10_1).f1⟩ : S28)]) l0 (l0.length : Int) (wrap64 (x10_1 + 1))) else (none))) = some r := H
            have A6 := Aside0.mk A60
            clear A60
            by_cases c7 : t141 = true
            · subst c7
              have H1 : (text_Without.l0 k1 l1 x5_1 l0 (l0.length : Int) (wrap64 (x10_1 + 1))) = some r := by rw [if_pos rfl] at H; exact H
              clear H
              have H := H1
              clear H1
              have H' := Aside0.mk H
              clear H
              have p139 : 0 ≤ (x10_1 : Int) := of_decide_eq_true (by first | (with_reducible assumption) | assumption)
              have q139 : x10_1 < (l0.length : Int) := of_decide_eq_true (by first | (with_reducible assumption) | assumption)
              obtain ⟨ad139, e139, hx139_0, hx139_1⟩ := at_T28 HR0.out x10_1 p139 q139
              cases e139
              replace hx139_0 := (HB.out.cell (World.block_lt_of_cell? w _ hx139_0)).trans hx139_0
              replace hx139_1 := (HB.out.cell (World.block_lt_of_cell? w _ hx139_1)).trans hx139_1
              replace p139 := eq_true p139
              replace q139 := eq_true q139
              go_wp2_with (first | ((with_reducible refine gate_dst (N := 7) rfl ?_); refine box_event ?hg (N := 7) ?hd (cs := #[.string (⟨#[]⟩ : ByteArray), .string (⟨#[]⟩ : ByteArray)]) (t := 28) ?hr ?_; (case hd => rfl); (case hg => rfl); (case hr => first | (go_simp; done) | (go_simp; rfl)); intro gb140 hg w8 hbox hb; have n0_ := Aside0.mk (Kd.R_below (Kd.R_elderB (by (with_reducible repeat (first | apply Kd.R_alloc | apply Kd.R_drewN | apply Kd.R_drew)); exact HO_5.out) gb140 (Nat.le_of_eq hg.symm)) hb); have n1_ := Aside0.mk (below_step (by repeat (first | (with_reducible first | exact HB.out | apply below_alloc | apply pw_below_drewN | apply below_drew1) | exact HB.out)) hb); have n2_ := Aside0.mk (hbox); have n3_ := Aside0.mk ((by rw [hg]; exact (below_size (by repeat (first | (with_reducible first | exact HB.out | apply below_alloc | apply pw_below_drewN | apply below_drew1) | exact HB.out))) : w.heap.size ≤ gb140)); have n4_ := Aside0.mk ((by rw [hg]; exact (below_size (by repeat (first | (with_reducible first | exact HB.out | apply below_alloc | apply pw_below_drewN | apply below_drew1) | exact HB.out))) : w.heap.size ≤ gb140)); clear HO_5; clear HB; have HO_5 := n0_; have HB := n1_; have BK140 := n2_; have GW140 := n3_; have GE140 := n4_; clear n0_ n1_ n2_ n3_ n4_; clear hb hbox hg; have hcz9_0 : w8.cell? ⟨gb140, 0, none⟩ = some (.string (⟨#[]⟩ : ByteArray)) := (blk_cell BK140.out 0).trans rfl; have hcz9_1 : w8.cell? ⟨gb140, 1, none⟩ = some (.string (⟨#[]⟩ : ByteArray)) := (blk_cell BK140.out 1).trans rfl; have hfz9_0 := blk_frozen BK140.out 0; have hfz9_1 := blk_frozen BK140.out 1) | (go_at_call 38; (with_reducible refine (text_Without_1_ContainsFunc.calls _ _ l1 gb140 ((rd_T28 l0 x10_1).f0) ((rd_T28 l0 x10_1).f1) true _ ?side1 ?side2 ?side3 A6.out).mono ?_); (case side1 => exact Kd.C_below HR1.out (by repeat (first | (with_reducible first | exact HB.out | apply below_alloc | apply pw_below_drewN | apply below_drew1 | refine below_set ?_ GE140.out) | exact HB.out))); (case side2 => exact HC1.out); (case side3 => exact by (with_reducible repeat (first | refine blk_drewN ?_ _ | refine blk_drew ?_ | refine blk_alloc ?_ _)); refine blk_put (cs := #[.string ((rd_T28 l0 x10_1).f0), .string (⟨#[]⟩ : ByteArray)]) ?_ 1 _ rfl; (with_reducible repeat (first | refine blk_drewN ?_ _ | refine blk_drew ?_ | refine blk_alloc ?_ _)); refine blk_put (cs := #[.string (⟨#[]⟩ : ByteArray), .string (⟨#[]⟩ : ByteArray)]) ?_ 0 _ rfl; (with_reducible repeat (first | refine blk_drewN ?_ _ | refine blk_drew ?_ | refine blk_alloc ?_ _)); exact BK140.out); rintro e w10 ⟨rfl, hb⟩; have n0_ := Aside0.mk (Kd.R_below (by (with_reducible repeat (first | apply Kd.R_alloc | apply Kd.R_drewN | apply Kd.R_drew)); exact (Kd.R_mono (Kd.R_far (p := ⟨gb140, 1, none⟩) (Kd.R_far (p := ⟨gb140, 0, none⟩) (Kd.R_mono HO_5.out (fun k_ hk => (⟨hk, hk.2⟩ : _ ∧ k_ ≠ gb140))) (fun _ hk => (by first | exact hk.2 | exact True.intro)) (.string ((rd_T28 l0 x10_1).f0))) (fun _ hk => (by first | exact hk.2 | exact True.intro)) (.string ((rd_T28 l0 x10_1).f1))) (fun _ h_ => h_.1))) hb); have n1_ := Aside0.mk (blk_below (g := gb140) (o := .cells #[.string ((rd_T28 l0 x10_1).f0), .string ((rd_T28 l0 x10_1).f1)] 28 (0, 0)) (by (with_reducible repeat (first | refine blk_drewN ?_ _ | refine blk_drew ?_ | refine blk_alloc ?_ _)); refine blk_put (cs := #[.string ((rd_T28 l0 x10_1).f0), .string (⟨#[]⟩ : ByteArray)]) ?_ 1 _ rfl; (with_reducible repeat (first | refine blk_drewN ?_ _ | refine blk_drew ?_ | refine blk_alloc ?_ _)); refine blk_put (cs := #[.string (⟨#[]⟩ : ByteArray), .string (⟨#[]⟩ : ByteArray)]) ?_ 0 _ rfl; (with_reducible repeat (first | refine blk_drewN ?_ _ | refine blk_drew ?_ | refine blk_alloc ?_ _)); exact BK140.out) hb); have n2_ := Aside0.mk (below_step (by repeat (first | (with_reducible first | exact HB.out | apply below_alloc | apply pw_below_drewN | apply below_drew1 | refine below_set ?_ GE140.out) | exact HB.out)) hb); clear HO_5; clear BK140; clear HB; have HO_5 := n0_; have BK140 := n1_; have HB := n2_; clear n0_ n1_ n2_; (try clear hb); (try clear hb2); (try clear hk); (try clear hi)))
              go_roundg k1
              case measure => have := HK1.out; omega
              case rel => exact ⟨(x5_1), (wrap64 (x10_1 + 1)), (by first | rfl | (simp; done) | (simp [*]; done)), H', ⟨by have := HK1.out; omega⟩, ⟨by (with_reducible repeat (first | apply Kd.R_alloc | apply Kd.R_drewN | apply Kd.R_drew)); exact Kd.R_mono HO_5.out (fun _ hk => trivial)⟩, ⟨by repeat (first | (with_reducible first | exact HB.out | apply below_alloc | apply pw_below_drewN | apply below_drew1 | refine below_set ?_ GE140.out) | exact HB.out)⟩⟩
            · replace c7 := Bool.eq_false_iff.mpr c7
              subst c7
              have H1 : (if x5_1.length < 4398046511104 then (text_Without.l0 k1 l1 (x5_1 ++ [(⟨(rd_T28 l0 x10_1).f0, (rd_T28 l0 x10_1).f1⟩ : S28)]) l0 (l0.length : Int) (wrap64 (x10_1 + 1))) else (none)) = some r := by rw [if_neg (show ¬ (false = true) by decide)] at H; exact H
              clear H
              have H := H1
              clear H1
              by_cases c11 : x5_1.length < 4398046511104
              · rw [if_pos c11] at H
                have LMc11 := Aside0.mk c11
                clear c11
                obtain ⟨y142, hy142⟩ : ∃ y_ : List (S28), y_ = (x5_1 ++ [(⟨(rd_T28 l0 x10_1).f0, (rd_T28 l0 x10_1).f1⟩ : S28)]) := ⟨_, rfl⟩
                replace H : (text_Without.l0 k1 l1 y142 l0 (l0.length : Int) (wrap64 (x10_1 + 1))) = some r := by first | (rw [hy142]; with_reducible exact H) | (have H2_ := (Option.bind_some _ _).symm.trans H; rw [hy142]; with_reducible exact H2_) | (have H2_ := (Option.bind_some _ _).symm.trans H; with_reducible exact H2_) | with_reducible exact H | (rw [hy142]; exact H) | exact H
                have Ny142 := Aside0.mk hy142
                clear hy142
                have H' := Aside0.mk H
                clear H
                have p139 : 0 ≤ (x10_1 : Int) := of_decide_eq_true (by first | (with_reducible assumption) | assumption)
                have q139 : x10_1 < (l0.length : Int) := of_decide_eq_true (by first | (with_reducible assumption) | assumption)
                obtain ⟨ad139, e139, hx139_0, hx139_1⟩ := at_T28 HR0.out x10_1 p139 q139
                cases e139
                replace hx139_0 := (HB.out.cell (World.block_lt_of_cell? w _ hx139_0)).trans hx139_0
                replace hx139_1 := (HB.out.cell (World.block_lt_of_cell? w _ hx139_1)).trans hx139_1
                replace p139 := eq_true p139
                replace q139 := eq_true q139
                go_wp2_with (first | ((with_reducible refine gate_dst (N := 7) rfl ?_); refine box_event ?hg (N := 7) ?hd (cs := #[.string (⟨#[]⟩ : ByteArray), .string (⟨#[]⟩ : ByteArray)]) (t := 28) ?hr ?_; (case hd => rfl); (case hg => rfl); (case hr => first | (go_simp; done) | (go_simp; rfl)); intro gb140 hg w12 hbox hb; have n0_ := Aside0.mk (Kd.R_below (Kd.R_elderB (by (with_reducible repeat (first | apply Kd.R_alloc | apply Kd.R_drewN | apply Kd.R_drew)); exact HO_5.out) gb140 (Nat.le_of_eq hg.symm)) hb); have n1_ := Aside0.mk (below_step (by repeat (first | (with_reducible first | exact HB.out | apply below_alloc | apply pw_below_drewN | apply below_drew1) | exact HB.out)) hb); have n2_ := Aside0.mk (hbox); have n3_ := Aside0.mk ((by rw [hg]; exact (below_size (by repeat (first | (with_reducible first | exact HB.out | apply below_alloc | apply pw_below_drewN | apply below_drew1) | exact HB.out))) : w.heap.size ≤ gb140)); have n4_ := Aside0.mk ((by rw [hg]; exact (below_size (by repeat (first | (with_reducible first | exact HB.out | apply below_alloc | apply pw_below_drewN | apply below_drew1) | exact HB.out))) : w.heap.size ≤ gb140)); clear HO_5; clear HB; have HO_5 := n0_; have HB := n1_; have BK140 := n2_; have GW140 := n3_; have GE140 := n4_; clear n0_ n1_ n2_ n3_ n4_; clear hb hbox hg; have hcz13_0 : w12.cell? ⟨gb140, 0, none⟩ = some (.string (⟨#[]⟩ : ByteArray)) := (blk_cell BK140.out 0).trans rfl; have hcz13_1 : w12.cell? ⟨gb140, 1, none⟩ = some (.string (⟨#[]⟩ : ByteArray)) := (blk_cell BK140.out 1).trans rfl; have hfz13_0 := blk_frozen BK140.out 0; have hfz13_1 := blk_frozen BK140.out 1) | (go_at_call 38; (with_reducible refine (text_Without_1_ContainsFunc.calls _ _ l1 gb140 ((rd_T28 l0 x10_1).f0) ((rd_T28 l0 x10_1).f1) false _ ?side1 ?side2 ?side3 A6.out).mono ?_); (case side1 => exact Kd.C_below HR1.out (by repeat (first | (with_reducible first | exact HB.out | apply below_alloc | apply pw_below_drewN | apply below_drew1 | refine below_set ?_ GE140.out) | exact HB.out))); (case side2 => exact HC1.out); (case side3 => exact by (with_reducible repeat (first | refine blk_drewN ?_ _ | refine blk_drew ?_ | refine blk_alloc ?_ _)); refine blk_put (cs := #[.string ((rd_T28 l0 x10_1).f0), .string (⟨#[]⟩ : ByteArray)]) ?_ 1 _ rfl; (with_reducible repeat (first | refine blk_drewN ?_ _ | refine blk_drew ?_ | refine blk_alloc ?_ _)); refine blk_put (cs := #[.string (⟨#[]⟩ : ByteArray), .string (⟨#[]⟩ : ByteArray)]) ?_ 0 _ rfl; (with_reducible repeat (first | refine blk_drewN ?_ _ | refine blk_drew ?_ | refine blk_alloc ?_ _)); exact BK140.out); rintro e w14 ⟨rfl, hb⟩; have n0_ := Aside0.mk (Kd.R_below (by (with_reducible repeat (first | apply Kd.R_alloc | apply Kd.R_drewN | apply Kd.R_drew)); exact (Kd.R_mono (Kd.R_far (p := ⟨gb140, 1, none⟩) (Kd.R_far (p := ⟨gb140, 0, none⟩) (Kd.R_mono HO_5.out (fun k_ hk => (⟨hk, hk.2⟩ : _ ∧ k_ ≠ gb140))) (fun _ hk => (by first | exact hk.2 | exact True.intro)) (.string ((rd_T28 l0 x10_1).f0))) (fun _ hk => (by first | exact hk.2 | exact True.intro)) (.string ((rd_T28 l0 x10_1).f1))) (fun _ h_ => h_.1))) hb); have n1_ := Aside0.mk (blk_below (g := gb140) (o := .cells #[.string ((rd_T28 l0 x10_1).f0), .string ((rd_T28 l0 x10_1).f1)] 28 (0, 0)) (by (with_reducible repeat (first | refine blk_drewN ?_ _ | refine blk_drew ?_ | refine blk_alloc ?_ _)); refine blk_put (cs := #[.string ((rd_T28 l0 x10_1).f0), .string (⟨#[]⟩ : ByteArray)]) ?_ 1 _ rfl; (with_reducible repeat (first | refine blk_drewN ?_ _ | refine blk_drew ?_ | refine blk_alloc ?_ _)); refine blk_put (cs := #[.string (⟨#[]⟩ : ByteArray), .string (⟨#[]⟩ : ByteArray)]) ?_ 0 _ rfl; (with_reducible repeat (first | refine blk_drewN ?_ _ | refine blk_drew ?_ | refine blk_alloc ?_ _)); exact BK140.out) hb); have n2_ := Aside0.mk (below_step (by repeat (first | (with_reducible first | exact HB.out | apply below_alloc | apply pw_below_drewN | apply below_drew1 | refine below_set ?_ GE140.out) | exact HB.out)) hb); clear HO_5; clear BK140; clear HB; have HO_5 := n0_; have BK140 := n1_; have HB := n2_; clear n0_ n1_ n2_; (try clear hb); (try clear hb2); (try clear hk); (try clear hi); have hcz15_0 : w14.cell? ⟨gb140, 0, none⟩ = some (.string ((rd_T28 l0 x10_1).f0)) := (blk_cell BK140.out 0).trans rfl; have hcz15_1 : w14.cell? ⟨gb140, 1, none⟩ = some (.string ((rd_T28 l0 x10_1).f1)) := (blk_cell BK140.out 1).trans rfl; have hfz15_0 := blk_frozen BK140.out 0; have hfz15_1 := blk_frozen BK140.out 1) | ((with_reducible refine gate_builtin (b := .append) (xs := #[.tmp 18, .tmp 20]) rfl ?_); at_builtin; refine Kd.R_append k28 (w0 := w) w.heap.size rfl (.tmp 18) (.tmp 20) 22 28 (.agg #[(.string ⟨#[]⟩), (.string ⟨#[]⟩)]) 32 rfl Tryd.underlying22 info28 rfl (by decide) (by omega) u5 x5_1 (⟨(rd_T28 l0 x10_1).f0, (rd_T28 l0 x10_1).f1⟩ : S28) [.string ((rd_T28 l0 x10_1).f0), .string ((rd_T28 l0 x10_1).f1)] (fun k_ => k_ ≠ gb140) (fun _ => False) rfl rfl ?aP (fun _ hk => hk.elim) ?aF ?aO ?aB ?aS ?aL ?_; (case aP => exact k28_mkM _ _ _ (⟨(rd_T28 l0 x10_1).f0, (rd_T28 l0 x10_1).f1⟩ : S28)); (case aB => exact (by repeat (first | (with_reducible first | exact HB.out | apply below_alloc | apply pw_below_drewN | apply below_drew1 | refine below_set ?_ GE140.out) | exact HB.out))); (case aF => exact (fun k_ hk => Kd.freshB (g := gb140) (o := .cells #[.string ((rd_T28 l0 x10_1).f0), .string ((rd_T28 l0 x10_1).f1)] 28 (0, 0)) (by (with_reducible repeat (first | refine blk_drewN ?_ _ | refine blk_drew ?_ | refine blk_alloc ?_ _)); exact BK140.out) k_ hk)); (case aO => exact (by (with_reducible repeat (first | apply Kd.R_alloc | apply Kd.R_drewN | apply Kd.R_drew)); exact Kd.R_mono HO_5.out (fun _ hk => (by first | exact hk.2 | exact True.intro)))); (case aS => exact (below_size (by repeat (first | (with_reducible first | exact HB.out | apply below_alloc | apply pw_below_drewN | apply below_drew1 | refine below_set ?_ GE140.out) | exact HB.out)))); (case aL => have := LMc11.out; omega); intro v143 w16 ho hb hg hat; rw [← Ny142.out] at ho; have n0_ := Aside0.mk (blk_grown (g := gb140) (o := .cells #[.string ((rd_T28 l0 x10_1).f0), .string ((rd_T28 l0 x10_1).f1)] 28 (0, 0)) (by (with_reducible repeat (first | refine blk_drewN ?_ _ | refine blk_drew ?_ | refine blk_alloc ?_ _)); exact BK140.out) hg (Kd.R_away HO_5.out (fun _ hk => (by first | exact hk.2 | exact True.intro)))); have n1_ := Aside0.mk (hb); have n2_ := Aside0.mk (ho); clear BK140; clear HB; clear HO_5; have BK140 := n0_; have HB := n1_; have HO144 := n2_; clear n0_ n1_ n2_; clear ho hb hg hat))
                go_roundg k1
                case measure => have := HK1.out; omega
                case rel => exact ⟨(y142), (wrap64 (x10_1 + 1)), (by first | rfl | (simp; done) | (simp [*]; done)), H', ⟨by have := HK1.out; omega⟩, ⟨by (with_reducible repeat (first | apply Kd.R_alloc | apply Kd.R_drewN | apply Kd.R_drew)); exact Kd.R_mono HO144.out (fun _ hk => trivial)⟩, ⟨by repeat (first | (with_reducible first | exact HB.out | apply below_alloc | apply pw_below_drewN | apply below_drew1 | refine below_set ?_ GE140.out) | exact HB.out)⟩⟩
              · rw [if_neg c11] at H
                exact absurd H (by simp)
          · rw [if_neg c5] at H
            exact absurd H (by simp)
        · rw [if_neg c4] at H
          exact absurd H (by simp)
      · rw [if_neg c3] at H
        have c3b0 : decide (x10_1 < (l0.length : Int)) = false := decide_eq_false c3
        clear c3
        obtain rfl := Option.some.inj H
        go_wp2
        go_ret
        exact ⟨_, by first | rfl | (simp [errW_none, errW_some] <;> rfl) | (simp [*, errW_none, errW_some] <;> rfl), by (with_reducible repeat (first | apply Kd.R_alloc | apply Kd.R_drewN | apply Kd.R_drew)); exact HO_5.out, by repeat (first | (with_reducible first | exact HB.out | apply below_alloc | apply pw_below_drewN | apply below_drew1) | exact HB.out)⟩

/-! ### hop_Strip: function 8 -/
theorem hop_Strip_info : (Tryd.prog.info? 9).map (fun i => (i.zero, i.size, i.bytes)) = some (some (.string ⟨#[]⟩), 1, 16) := by kernel_rfl
/-- the names that Connection names in vain -/
def ownB (s : ByteArray) : Bool := Hand.sameB s (⟨#[72, 111, 115, 116]⟩ : ByteArray) || Hand.sameB s (⟨#[67, 111, 110, 116, 101, 110, 116, 45, 76, 101, 110, 103, 116, 104]⟩ : ByteArray)
set_option maxHeartbeats 1000000 in
theorem hop_Strip_1 (s : ByteArray) (w : World) (hb : s.size ≤ 9223372036854775807) :
    Calls Tryd.prog 23 #[.string s] w fun e w' => e = .returned (.bool (ownB s)) ∧ Below w.heap.size w w' := by
  unfold ownB
  by_cases h : Hand.sameB s (⟨#[72, 111, 115, 116]⟩ : ByteArray) = true
  · have H := Lib.hid h
    clear h
    go_enter Tryd.func23, Tryd.ntmps23
    go_wp2_with (go_at_call 24; (with_reducible refine (Hand.text_Same s _ _ hb (by decide)).mono ?_); rintro e w1 ⟨rfl, h1⟩; rw [H.out])
    go_ret
    exact ⟨by rw [H.out]; rfl, h1⟩
  · have H := Lib.hid (Bool.eq_false_iff.mpr h)
    clear h
    go_enter Tryd.func23, Tryd.ntmps23
    go_wp2_with (first | (go_at_call 24; (with_reducible refine (Hand.text_Same s (⟨#[72, 111, 115, 116]⟩ : ByteArray) _ hb (by decide)).mono ?_); rintro e w1 ⟨rfl, h1⟩; rw [H.out]) | (go_at_call 24; (with_reducible refine (Hand.text_Same s (⟨#[67, 111, 110, 116, 101, 110, 116, 45, 76, 101, 110, 103, 116, 104]⟩ : ByteArray) _ hb (by decide)).mono ?_); rintro e w2 ⟨rfl, h2⟩))
    go_ret
    exact ⟨by rw [H.out]; rfl, below_step h1 h2⟩
def hop_Strip.f (k : Nat) (l0 : List (S28)) : Option (List (S28)) :=
  (text_Find.f k l0 (⟨#[67, 111, 110, 110, 101, 99, 116, 105, 111, 110]⟩ : ByteArray)).bind fun t1 => ((text_List.f k t1).bind fun t2 => (if t2.length ≤ 1000000000000 ∧ (t2.all fun s => decide (s.size ≤ 9223372036854775807)) = true then (hop_Names.f.bind fun t3 => (if t3.length ≤ 1000000000000 then text_Without.f k l0 (t3 ++ t2.filter fun s => !ownB s) else none)) else none))
theorem hop_Strip.mono : ∀ a0 k, LeO (hop_Strip.f k a0) (hop_Strip.f (k + 1) a0) := by
  intro a0 k
  unfold hop_Strip.f
  exact LeO.bind (text_Find.mono _ _ _) (fun _ => LeO.bind (text_List.mono _ _) (fun _ => LeO.ite (LeO.bind (LeO.refl _) (fun _ => LeO.ite (text_Without.mono _ _ _) (LeO.refl _))) (LeO.refl _)))
set_option maxHeartbeats 8000000 in
set_option maxRecDepth 100000 in
theorem hop_Strip.calls (k : Nat) (A0 : Option Addr) (c0 : Nat) (l0 : List (S28)) (r : List (S28)) (w : World) (hr0 : Kd.C k28 w A0 l0.length l0) (hc0 : l0.length ≤ c0) (hL : Laid.LaidX w) (h : hop_Strip.f k l0 = some r) :
    Calls Tryd.prog 8 #[.slice A0 l0.length c0] w fun e w' => ∃ v0_ : Value, e = .returned (v0_) ∧ Kd.R k28 28 w' w.heap.size (fun _ => True) v0_ r ∧ Below w.heap.size w w' := by
  have HR := Aside0.mk hr0
  have HC := Aside0.mk hc0
  have HLX := Aside0.mk hL
  clear hr0 hc0 hL
  unfold hop_Strip.f at h
  obtain ⟨t1, h1, h⟩ := Option.bind_eq_some_iff.mp h
  obtain ⟨t2, h2, h⟩ := Option.bind_eq_some_iff.mp h
  split at h
  case isFalse => cases h
  rename_i hq
  obtain ⟨t3, h3, h⟩ := Option.bind_eq_some_iff.mp h
  split at h
  case isFalse => cases h
  rename_i hq3
  have H1 := Aside0.mk h1
  have H2 := Aside0.mk h2
  have H3 := Aside0.mk h3
  have H4 := Aside0.mk h
  have HQ := Aside0.mk hq
  have HQ3 := Aside0.mk hq3
  have hfl : (t2.filter fun s => !ownB s).length ≤ t2.length := List.length_filter_le _ _
  have HFL := Aside0.mk hfl
  clear h h1 h2 h3 hq hq3 hfl
  obtain ⟨y5, ny5⟩ : ∃ y, y = t3 ++ t2.filter fun s => !ownB s := ⟨_, rfl⟩
  rw [← ny5] at H4
  have NY := Aside0.mk ny5
  clear ny5
  obtain ⟨y3, ny3⟩ : ∃ y, y = t2.filter fun s => !ownB s := ⟨_, rfl⟩
  have NZ := Aside0.mk ny3
  clear ny3
  have HB := Aside0.mk (Below.refl w.heap.size w)
  go_enter Tryd.func8, Tryd.ntmps8
  go_wp2_with (first
    | (go_at_call 22; (with_reducible refine (text_Find.calls k _ _ l0 (⟨#[67, 111, 110, 110, 101, 99, 116, 105, 111, 110]⟩ : ByteArray) t1 _ ?side1 ?side2 H1.out).mono ?_); (case side1 => exact (Kd.C_below HR.out HB.out)); (case side2 => exact HC.out); rintro e w8 ⟨v1, rfl, ho0, hb⟩; have n0_ := Aside0.mk (Kd.R_lower ho0 HB.out.size); have n2_ := Aside0.mk (below_step HB.out hb); clear HB; have HO1 := n0_; have HB := n2_; clear n0_ n2_ hb ho0; obtain ⟨Ao1, co1, eo1⟩ := Kd.R_slice HO1.out; subst eo1)
    | (go_at_call 21; (with_reducible refine (text_List.calls k _ _ t1 t2 _ ?side1 ?side2 H2.out).mono ?_); (case side1 => exact (Kd.R_reads' HO1.out).2.2); (case side2 => exact (Kd.R_reads' HO1.out).2.1); rintro e w10 ⟨v2, rfl, ho0, hb⟩; have n0_ := Aside0.mk (Kd.R_lower ho0 HB.out.size); have n2_ := Aside0.mk (below_step HB.out hb); clear HB; have HO2 := n0_; have HB := n2_; clear n0_ n2_ hb ho0; obtain ⟨Ao2, co2, eo2⟩ := Kd.R_slice HO2.out; subst eo2)
    | (go_at_call 20; (with_reducible refine (Hand.deleteFunc_bare 23 ownB _ _ w.heap.size (fun _ => True) t2 _ HO2.out ?side2 ?side3 ?side4 ?side5).mono ?_); (case side2 => have := HQ.out.1; omega); (case side3 => exact HB.out.size); (case side4 => exact fun s W => by kernel_rfl); (case side5 => exact fun W s hs => hop_Strip_1 s W (by have := List.all_eq_true.mp HQ.out.2 s hs; simpa using this)); rintro e w12 ⟨v3, rfl, ho0, hb⟩; rw [← NZ.out] at ho0; have n0_ := Aside0.mk ho0; have n2_ := Aside0.mk (HB.out.trans hb); clear HB HO1 HO2; have HO3 := n0_; have HB := n2_; clear n0_ n2_ hb ho0; obtain ⟨Ao3, co3, eo3⟩ := Kd.R_slice HO3.out; subst eo3)
    | (go_at_call 16; (with_reducible refine (hop_Names.calls t3 _ ?side1 H3.out).mono ?_); (case side1 => exact Laid.below HLX.out HB.out); rintro e w14 ⟨v4, rfl, ho0, hb⟩; have n1_ := Aside0.mk (Kd.R_elder' HO3.out (Kd.R_base ho0) hb); have n0_ := Aside0.mk (Kd.R_lower ho0 HB.out.size); have n2_ := Aside0.mk (below_step HB.out hb); clear HB HO3; have HO4 := n0_; have HO3 := n1_; have HB := n2_; clear n0_ n1_ n2_ hb ho0; obtain ⟨Ao4, co4, eo4⟩ := Kd.R_slice HO4.out; subst eo4)
    | ((with_reducible refine gate_builtin (b := .append) (xs := #[.tmp 9, .tmp 10]) rfl ?_); at_builtin; refine Kd.R_append_rows Kd.string (w0 := w) w.heap.size rfl (.tmp 9) (.tmp 10) 26 9 (.string ⟨#[]⟩) 16 rfl Tryd.underlying26 hop_Strip_info rfl (by decide) (by omega) _ t3 y3 _ _ _ (fun _ => True) (fun _ => False) rfl rfl ?aO ?aR (fun _ _ h => h) (fun _ h => h.elim) ?aF ?aB ?aS ?aL ?_; (case aR => exact (Kd.R_reads' HO3.out).2.2); (case aB => exact HB.out); (case aF => exact (fun _ _ => trivial)); (case aO => exact HO4.out); (case aS => exact HB.out.size); (case aL => have a1 := HQ.out.1; have a2 := HQ3.out; have a3 := HFL.out; rw [← NZ.out] at a3; omega); intro v5 w16 ho hb hg hat; rw [NZ.out, ← NY.out] at ho; have HO5 := Aside0.mk ho; have n0_ := Aside0.mk hb; clear HB; have HB := n0_; clear n0_ ho hb hg hat; obtain ⟨Ao5, co5, eo5⟩ := Kd.R_slice HO5.out; subst eo5)
    | (go_at_call 25; (with_reducible refine (text_Without.calls k _ _ l0 _ _ y5 r _ ?side1 ?side2 ?side3 ?side4 H4.out).mono ?_); (case side1 => exact (Kd.C_below HR.out HB.out)); (case side2 => exact HC.out); (case side3 => exact (Kd.R_reads' HO5.out).2.2); (case side4 => exact (Kd.R_reads' HO5.out).2.1); rintro e w18 ⟨v6, rfl, ho0, hb⟩; have n0_ := Aside0.mk (Kd.R_lower ho0 HB.out.size); have n2_ := Aside0.mk (below_step HB.out hb); clear HB; have HO6 := n0_; have HB := n2_; clear n0_ n2_ hb ho0))
  go_ret
  exact ⟨_, rfl, HO6.out, HB.out⟩


/-! ### api_Field: function 43 -/
theorem api_Field_info : (Tryd.prog.info? 28).map (fun i => (i.zero, i.size, i.bytes)) = some (some (.agg #[(.string ⟨#[]⟩), (.string ⟨#[]⟩)]), 2, 32) := by kernel_rfl
def api_Field.f (l0 : List (S28)) : Option (List (S28)) := if l0.length < 4398046511104 then some l0 else none
set_option maxHeartbeats 8000000 in
set_option maxRecDepth 100000 in
theorem api_Field.calls (A0 : Option Addr) (c0 : Nat) (l0 : List (S28)) (r : List (S28)) (w : World) (hr0 : Kd.C k28 w A0 l0.length l0) (hc0 : l0.length ≤ c0) (h : api_Field.f l0 = some r) :
    Calls Tryd.prog 43 #[.slice A0 l0.length c0] w fun e w' => ∃ v0_ : Value, e = .returned (v0_) ∧ Kd.R k28 28 w' w.heap.size (fun _ => True) v0_ r ∧ Below w.heap.size w w' := by
  unfold api_Field.f at h
  split at h
  · rename_i hc
    obtain rfl := Option.some.inj h
    have HR0 := Aside0.mk hr0
    clear hr0 h
    cases A0 with
    | none =>
      have e1 := fun (W : World) => Lib.run_eql_slice_nil (P := Tryd.prog) W 22 28 none 0 c0 0 0 Tryd.underlying22
      have hn : l0 = [] := List.eq_nil_of_length_eq_zero (by rcases Nat.eq_zero_or_pos l0.length with h | h; exact h; obtain ⟨_, h2, _⟩ := HR0.out.2.2 h; cases h2)
      subst hn
      go_enter Tryd.func43, Tryd.ntmps43
      go_wp2
      go_ret
      exact ⟨_, rfl, Kd.R_nil _ _ _ _ _, Below.refl _ _⟩
    | some ad =>
      have e1 := fun (W : World) => Lib.run_eql_slice_nil (P := Tryd.prog) W 22 28 (some ad) l0.length c0 0 0 Tryd.underlying22
      have HB := Aside0.mk (Below.refl w.heap.size w)
      go_enter Tryd.func43, Tryd.ntmps43
      go_wp2_with (first
        | ((with_reducible refine gate_dst (N := 5) rfl ?_); refine Kd.R_lit k28 (w0 := w) w.heap.size 28 ?hg (N := 5) ?hd (xs := ([] : List (S28))) (inner := []) (ok := fun _ => True) (okp := fun _ => False) ?hrun ?hrep ?hok ?hfresh ?hB ?hb ?hm ?_; (case hd => rfl); (case hg => rfl); (case hrun => first | (go_simp; done) | (go_simp; rfl)); (case hrep => exact Reps.none _ _); (case hok => exact fun _ h => h.elim); (case hfresh => trivial); (case hB => exact HB.out); (case hb => exact Nat.le_refl _); (case hm => decide); intro v1 w1 ho hb hg ht; have HO := Aside0.mk ho; have n0_ := Aside0.mk hb; clear HB; have HB := n0_; clear n0_ ho hb hg ht)
        | ((with_reducible refine gate_builtin (b := .append) (xs := #[.tmp 5, .tmp 6]) rfl ?_); at_builtin; refine Kd.R_append_rows k28 (w0 := w) w.heap.size rfl (.tmp 5) (.tmp 6) 22 28 (.agg #[(.string ⟨#[]⟩), (.string ⟨#[]⟩)]) 32 rfl Tryd.underlying22 api_Field_info rfl (by decide) (by omega) v1 ([] : List (S28)) l0 _ _ _ (fun _ => True) (fun _ => False) rfl rfl ?aO ?aR (fun _ _ h => h) (fun _ h => h.elim) ?aF ?aB ?aS ?aL ?_; (case aR => exact (Kd.C_below HR0.out HB.out)); (case aB => exact HB.out); (case aF => exact (fun _ _ => trivial)); (case aO => exact HO.out); (case aS => exact HB.out.size); (case aL => simp; omega); intro v2 w2 ho hb hg hat; have HO2 := Aside0.mk ho; have n0_ := Aside0.mk hb; clear HB; have HB := n0_; clear n0_ ho hb hg hat))
      go_ret
      exact ⟨_, rfl, HO2.out, HB.out⟩
  · cases h


/-! ### hop_with: function 30 -/
def hop_with.f (l0 : List (S28)) (a1 : ByteArray) (a2 : ByteArray) : Option ((List (S28))) := (api_Field.f l0).bind fun t145 => (if t145.length < 4398046511104 then (some (t145 ++ [(⟨a1, a2⟩ : S28)])) else (none))
set_option maxHeartbeats 8000000 in
set_option maxRecDepth 100000 in
theorem hop_with.calls (A0 : Option Addr) (c0 : Nat) (l0 : List (S28)) (a1 : ByteArray) (a2 : ByteArray) (r : List (S28)) (w : World) (hr0 : Kd.C k28 w A0 l0.length l0) (hc0 : l0.length ≤ c0) (h : hop_with.f l0 a1 a2 = some r) :
    Calls Tryd.prog 30 #[.slice A0 l0.length c0, .string a1, .string a2] w fun e w' => ∃ v0_ : Value, e = .returned (v0_) ∧ Kd.R k28 28 w' w.heap.size (fun _ => True) v0_ r ∧ Below w.heap.size w w' := by
  have hu28 := Tryd.underlying28
  have HR0 := Aside0.mk hr0
  have HC0 := Aside0.mk hc0
  clear hr0 hc0
  have HB := Aside0.mk (Below.refl w.heap.size w)
  have H : ((api_Field.f l0).bind fun t145 => (if t145.length < 4398046511104 then (some (t145 ++ [(⟨a1, a2⟩ : S28)])) else (none))) = some r := h
  clear h
  replace H := Option.bind_eq_some_iff.mp H
  obtain ⟨t145, A40, H⟩ := H
  replace H : (if t145.length < 4398046511104 then (some (t145 ++ [(⟨a1, a2⟩ : S28)])) else (none)) = some r := H
  have A4 := Aside0.mk A40
  clear A40
  by_cases c5 : t145.length < 4398046511104
  · rw [if_pos c5] at H
    have LMc5 := Aside0.mk c5
    clear c5
    obtain ⟨y148, hy148⟩ : ∃ y_ : List (S28), y_ = (t145 ++ [(⟨a1, a2⟩ : S28)]) := ⟨_, rfl⟩
    replace H : (some y148) = some r := by first | (rw [hy148]; with_reducible exact H) | (have H2_ := (Option.bind_some _ _).symm.trans H; rw [hy148]; with_reducible exact H2_) | (have H2_ := (Option.bind_some _ _).symm.trans H; with_reducible exact H2_) | with_reducible exact H | (rw [hy148]; exact H) | exact H
    have Ny148 := Aside0.mk hy148
    clear hy148
    obtain rfl := Option.some.inj H
    go_enter Tryd.func30, Tryd.ntmps30
    go_wp2_with (first | ((with_reducible refine gate_callee (f := 43) rfl ?_); refine goesL_ (some 8) rfl rfl Tryd.func43 (by kernel_rfl) rfl #[.slice A0 l0.length c0] rfl (by (try simp only [List.map_toArray, List.map_cons, List.map_nil]); first | done | rfl | (simp only [List.length_drop, List.length_take]; rfl)) ?_; (with_reducible refine (api_Field.calls _ _ l0 t145 _ ?side1 ?side2 A4.out).mono ?_); (case side1 => repeat (first | exact HR0.out | (with_reducible refine Kd.C_alloc ?_ _) | (with_reducible refine Kd.C_drewN ?_ _) | (with_reducible refine Kd.C_drew ?_))); (case side2 => exact HC0.out); rintro e w6 ⟨v146, rfl, ho0, hb⟩; refine ⟨_, rfl, ?_⟩; have n0_ := Aside0.mk (Kd.R_lower ho0 (below_size (by repeat (first | (with_reducible first | exact HB.out | apply below_alloc | apply pw_below_drewN | apply below_drew1) | exact HB.out)))); have n1_ := Aside0.mk (below_step (by repeat (first | (with_reducible first | exact HB.out | apply below_alloc | apply pw_below_drewN | apply below_drew1) | exact HB.out)) hb); clear HB; have HO147 := n0_; have HB := n1_; clear n0_ n1_; (try clear hb); (try clear hb2); (try clear hk); (try clear hi); (try clear ho0)) | ((with_reducible refine gate_builtin (b := .append) (xs := #[.tmp 8, .tmp 12]) rfl ?_); at_builtin; refine Kd.R_append k28 (w0 := w) w.heap.size rfl (.tmp 8) (.tmp 12) 22 28 (.agg #[(.string ⟨#[]⟩), (.string ⟨#[]⟩)]) 32 rfl Tryd.underlying22 info28 rfl (by decide) (by omega) v146 t145 (⟨a1, a2⟩ : S28) [.string a1, .string a2] (fun _ => True) (fun _ => False) rfl rfl ?aP (fun _ hk => hk.elim) ?aF ?aO ?aB ?aS ?aL ?_; (case aP => exact k28_mkM _ _ _ (⟨a1, a2⟩ : S28)); (case aB => exact (by repeat (first | (with_reducible first | exact HB.out | apply below_alloc | apply pw_below_drewN | apply below_drew1) | exact HB.out))); (case aF => exact (fun _ _ => trivial)); (case aO => exact (by (with_reducible repeat (first | apply Kd.R_alloc | apply Kd.R_drewN | apply Kd.R_drew)); exact HO147.out)); (case aS => exact (below_size (by repeat (first | (with_reducible first | exact HB.out | apply below_alloc | apply pw_below_drewN | apply below_drew1) | exact HB.out)))); (case aL => have := LMc5.out; omega); intro v149 w7 ho hb hg hat; rw [← Ny148.out] at ho; have n0_ := Aside0.mk (hb); have n1_ := Aside0.mk (ho); clear HB; clear HO147; have HB := n0_; have HO150 := n1_; clear n0_ n1_; clear ho hb hg hat))
    go_ret
    exact ⟨_, by first | rfl | (simp [errW_none, errW_some] <;> rfl) | (simp [*, errW_none, errW_some] <;> rfl), by (with_reducible repeat (first | apply Kd.R_alloc | apply Kd.R_drewN | apply Kd.R_drew)); exact HO150.out, by repeat (first | (with_reducible first | exact HB.out | apply below_alloc | apply pw_below_drewN | apply below_drew1) | exact HB.out)⟩
  · rw [if_neg c5] at H
    exact absurd H (by simp)

/-! ### hop_Via: function 11 -/
def hop_Via.f (l0 : List (S28)) (a1 : ByteArray) : Option ((List (S28))) := if 4 + a1.size ≤ 9223372036854775807 then ((hop_with.f l0 (⟨#[86, 105, 97]⟩ : ByteArray) ((⟨#[49, 46, 49, 32]⟩ : ByteArray) ++ a1)).bind fun t151 => (some t151)) else (none)
set_option maxHeartbeats 8000000 in
set_option maxRecDepth 100000 in
theorem hop_Via.calls (A0 : Option Addr) (c0 : Nat) (l0 : List (S28)) (a1 : ByteArray) (r : List (S28)) (w : World) (hr0 : Kd.C k28 w A0 l0.length l0) (hc0 : l0.length ≤ c0) (h : hop_Via.f l0 a1 = some r) :
    Calls Tryd.prog 11 #[.slice A0 l0.length c0, .string a1] w fun e w' => ∃ v0_ : Value, e = .returned (v0_) ∧ Kd.R k28 28 w' w.heap.size (fun _ => True) v0_ r ∧ Below w.heap.size w w' := by
  have HR0 := Aside0.mk hr0
  have HC0 := Aside0.mk hc0
  clear hr0 hc0
  have HB := Aside0.mk (Below.refl w.heap.size w)
  have H : (if 4 + a1.size ≤ 9223372036854775807 then ((hop_with.f l0 (⟨#[86, 105, 97]⟩ : ByteArray) ((⟨#[49, 46, 49, 32]⟩ : ByteArray) ++ a1)).bind fun t151 => (some t151)) else (none)) = some r := h
  clear h
  by_cases c3 : 4 + a1.size ≤ 9223372036854775807
  · rw [if_pos c3] at H
    have c3b0 := eq_true c3
    have c3b1 : decide (4 + a1.size ≤ 9223372036854775807) = true := decide_eq_true c3
    try have c3b2 : (9223372036854775807 < 4 + a1.size) = False := eq_false (Nat.not_lt.2 c3)
    replace H := Option.bind_eq_some_iff.mp H
    obtain ⟨t151, A40, H⟩ := H
    replace H : (some t151) = some r := H
    have A4 := Aside0.mk A40
    clear A40
    obtain rfl := Option.some.inj H
    go_enter Tryd.func11, Tryd.ntmps11
    go_wp2_with (first | ((with_reducible refine gate_callee (f := 30) rfl ?_); refine goesL_ (some 8) rfl rfl Tryd.func30 (by kernel_rfl) rfl #[.slice A0 l0.length c0, .string (⟨#[86, 105, 97]⟩ : ByteArray), .string ((⟨#[49, 46, 49, 32]⟩ : ByteArray) ++ a1)] rfl (by (try simp only [List.map_toArray, List.map_cons, List.map_nil]); first | done | rfl | (simp only [List.length_drop, List.length_take]; rfl)) ?_; (with_reducible refine (hop_with.calls _ _ l0 (⟨#[86, 105, 97]⟩ : ByteArray) ((⟨#[49, 46, 49, 32]⟩ : ByteArray) ++ a1) t151 _ ?side1 ?side2 A4.out).mono ?_); (case side1 => repeat (first | exact HR0.out | (with_reducible refine Kd.C_alloc ?_ _) | (with_reducible refine Kd.C_drewN ?_ _) | (with_reducible refine Kd.C_drew ?_))); (case side2 => exact HC0.out); rintro e w5 ⟨v152, rfl, ho0, hb⟩; refine ⟨_, rfl, ?_⟩; have n0_ := Aside0.mk (Kd.R_lower ho0 (below_size (by repeat (first | (with_reducible first | exact HB.out | apply below_alloc | apply pw_below_drewN | apply below_drew1) | exact HB.out)))); have n1_ := Aside0.mk (below_step (by repeat (first | (with_reducible first | exact HB.out | apply below_alloc | apply pw_below_drewN | apply below_drew1) | exact HB.out)) hb); clear HB; have HO153 := n0_; have HB := n1_; clear n0_ n1_; (try clear hb); (try clear hb2); (try clear hk); (try clear hi); (try clear ho0)))
    go_ret
    exact ⟨_, by first | rfl | (simp [errW_none, errW_some] <;> rfl) | (simp [*, errW_none, errW_some] <;> rfl), by (with_reducible repeat (first | apply Kd.R_alloc | apply Kd.R_drewN | apply Kd.R_drew)); exact HO153.out, by repeat (first | (with_reducible first | exact HB.out | apply below_alloc | apply pw_below_drewN | apply below_drew1) | exact HB.out)⟩
  · rw [if_neg c3] at H
    exact absurd H (by simp)

/-! ### hop_From: function 13 -/
def hop_From.f (l0 : List (S28)) (a1 : ByteArray) : Option ((List (S28))) := (hop_with.f l0 (⟨#[88, 45, 70, 111, 114, 119, 97, 114, 100, 101, 100, 45, 70, 111, 114]⟩ : ByteArray) a1).bind fun t154 => (some t154)
set_option maxHeartbeats 8000000 in
set_option maxRecDepth 100000 in
theorem hop_From.calls (A0 : Option Addr) (c0 : Nat) (l0 : List (S28)) (a1 : ByteArray) (r : List (S28)) (w : World) (hr0 : Kd.C k28 w A0 l0.length l0) (hc0 : l0.length ≤ c0) (h : hop_From.f l0 a1 = some r) :
    Calls Tryd.prog 13 #[.slice A0 l0.length c0, .string a1] w fun e w' => ∃ v0_ : Value, e = .returned (v0_) ∧ Kd.R k28 28 w' w.heap.size (fun _ => True) v0_ r ∧ Below w.heap.size w w' := by
  have HR0 := Aside0.mk hr0
  have HC0 := Aside0.mk hc0
  clear hr0 hc0
  have HB := Aside0.mk (Below.refl w.heap.size w)
  have H : ((hop_with.f l0 (⟨#[88, 45, 70, 111, 114, 119, 97, 114, 100, 101, 100, 45, 70, 111, 114]⟩ : ByteArray) a1).bind fun t154 => (some t154)) = some r := h
  clear h
  replace H := Option.bind_eq_some_iff.mp H
  obtain ⟨t154, A30, H⟩ := H
  replace H : (some t154) = some r := H
  have A3 := Aside0.mk A30
  clear A30
  obtain rfl := Option.some.inj H
  go_enter Tryd.func13, Tryd.ntmps13
  go_wp2_with (first | ((with_reducible refine gate_callee (f := 30) rfl ?_); refine goesL_ (some 7) rfl rfl Tryd.func30 (by kernel_rfl) rfl #[.slice A0 l0.length c0, .string (⟨#[88, 45, 70, 111, 114, 119, 97, 114, 100, 101, 100, 45, 70, 111, 114]⟩ : ByteArray), .string a1] rfl (by (try simp only [List.map_toArray, List.map_cons, List.map_nil]); first | done | rfl | (simp only [List.length_drop, List.length_take]; rfl)) ?_; (with_reducible refine (hop_with.calls _ _ l0 (⟨#[88, 45, 70, 111, 114, 119, 97, 114, 100, 101, 100, 45, 70, 111, 114]⟩ : ByteArray) a1 t154 _ ?side1 ?side2 A3.out).mono ?_); (case side1 => repeat (first | exact HR0.out | (with_reducible refine Kd.C_alloc ?_ _) | (with_reducible refine Kd.C_drewN ?_ _) | (with_reducible refine Kd.C_drew ?_))); (case side2 => exact HC0.out); rintro e w4 ⟨v155, rfl, ho0, hb⟩; refine ⟨_, rfl, ?_⟩; have n0_ := Aside0.mk (Kd.R_lower ho0 (below_size (by repeat (first | (with_reducible first | exact HB.out | apply below_alloc | apply pw_below_drewN | apply below_drew1) | exact HB.out)))); have n1_ := Aside0.mk (below_step (by repeat (first | (with_reducible first | exact HB.out | apply below_alloc | apply pw_below_drewN | apply below_drew1) | exact HB.out)) hb); clear HB; have HO156 := n0_; have HB := n1_; clear n0_ n1_; (try clear hb); (try clear hb2); (try clear hk); (try clear hi); (try clear ho0)))
  go_ret
  exact ⟨_, by first | rfl | (simp [errW_none, errW_some] <;> rfl) | (simp [*, errW_none, errW_some] <;> rfl), by (with_reducible repeat (first | apply Kd.R_alloc | apply Kd.R_drewN | apply Kd.R_drew)); exact HO156.out, by repeat (first | (with_reducible first | exact HB.out | apply below_alloc | apply pw_below_drewN | apply below_drew1) | exact HB.out)⟩

/-! ### parallaxlaw18_known: function 6 -/
def parallaxlaw18_known.j0 : Nat → Bool → Option (Bool)
  | 0, _ => none
  | k + 1, x0 => some x0
def parallaxlaw18_known.f (k : Nat)  : Option (Bool) := (hop_Strip.f k (([(⟨(⟨#[67, 111, 110, 110, 101, 99, 116, 105, 111, 110]⟩ : ByteArray), (⟨#[120, 44, 32, 104, 111, 115, 116]⟩ : ByteArray)⟩ : S28), (⟨(⟨#[88]⟩ : ByteArray), (⟨#[49]⟩ : ByteArray)⟩ : S28), (⟨(⟨#[72, 111, 115, 116]⟩ : ByteArray), (⟨#[97]⟩ : ByteArray)⟩ : S28), (⟨(⟨#[116, 101]⟩ : ByteArray), (⟨#[98]⟩ : ByteArray)⟩ : S28), (⟨(⟨#[65]⟩ : ByteArray), (⟨#[99]⟩ : ByteArray)⟩ : S28)] : List (S28)))).bind fun t160 => ((hop_Via.f t160 (⟨#[103, 119]⟩ : ByteArray)).bind fun t163 => ((hop_From.f t160 (⟨#[49, 46, 50, 46, 51, 46, 52]⟩ : ByteArray)).bind fun t166 => (if (t160.length : Int) = 2 then (if 0 < (t160.length : Int) then (if ((rd_T28 t160 0).f0).toList = ([72, 111, 115, 116] : List UInt8) then (if (t163.length : Int) = 3 then (if 2 < (t163.length : Int) then (if ((rd_T28 t163 2).f1).toList = ([49, 46, 49, 32, 103, 119] : List UInt8) then (if (t166.length : Int) = 3 then (if 2 < (t166.length : Int) then (if ((rd_T28 t166 2).f0).toList = ([88, 45, 70, 111, 114, 119, 97, 114, 100, 101, 100, 45, 70, 111, 114] : List UInt8) then ((hop_Names.f).bind fun t172 => (parallaxlaw18_known.j0 k ((t172.length : Int) == 9))) else (parallaxlaw18_known.j0 k false)) else (none)) else (parallaxlaw18_known.j0 k false)) else (parallaxlaw18_known.j0 k false)) else (none)) else (parallaxlaw18_known.j0 k false)) else (parallaxlaw18_known.j0 k false)) else (none)) else (parallaxlaw18_known.j0 k false))))
theorem parallaxlaw18_known.mono_l : ∀ k, (∀ y0, LeO (parallaxlaw18_known.j0 k y0) (parallaxlaw18_known.j0 (k + 1) y0))
  | 0 => fun _ r h => by simp [parallaxlaw18_known.j0] at h
  | k + 1 => by
    have ih0 := parallaxlaw18_known.mono_l k
    · intro y0
      unfold parallaxlaw18_known.j0
      repeat' first
      | (with_reducible exact ih0 _)
      | (with_reducible exact hop_Strip.mono _ _)
      | (with_reducible exact LeO.refl _)
      | (with_reducible exact LeO.none _)
      | (with_reducible refine LeO.ite ?_ ?_)
      | (with_reducible refine LeO.bind ?_ (fun _ => ?_))
      | exact ih0 _
      | exact hop_Strip.mono _ _
      | exact LeO.none _
      | refine LeO.ite ?_ ?_
      | refine LeO.bind ?_ (fun _ => ?_)
theorem parallaxlaw18_known.mono : ∀ k, LeO (parallaxlaw18_known.f k ) (parallaxlaw18_known.f (k + 1) ) := by
  intro  k
  have ih0 := parallaxlaw18_known.mono_l k
  unfold parallaxlaw18_known.f
  repeat' first
      | (with_reducible exact ih0 _)
      | (with_reducible exact hop_Strip.mono _ _)
      | (with_reducible exact LeO.refl _)
      | (with_reducible exact LeO.none _)
      | (with_reducible refine LeO.ite ?_ ?_)
      | (with_reducible refine LeO.bind ?_ (fun _ => ?_))
      | exact ih0 _
      | exact hop_Strip.mono _ _
      | exact LeO.none _
      | refine LeO.ite ?_ ?_
      | refine LeO.bind ?_ (fun _ => ?_)
set_option maxHeartbeats 8000000 in
set_option maxRecDepth 100000 in
theorem parallaxlaw18_known.calls (k : Nat)  (r : Bool) (w : World) (hT : r = true) (hL : Laid.LaidX w) (h : parallaxlaw18_known.f k  = some r) :
    Calls Tryd.prog 6 #[] w fun e w' => e = .returned (.bool r) ∧ Below w.heap.size w w' := by
  have hu28 := Tryd.underlying28
  have HT := Aside0.mk hT
  clear hT
  have HB := Aside0.mk (Below.refl w.heap.size w)
  have HLX := Aside0.mk hL
  clear hL
  have H : ((hop_Strip.f k (([(⟨(⟨#[67, 111, 110, 110, 101, 99, 116, 105, 111, 110]⟩ : ByteArray), (⟨#[120, 44, 32, 104, 111, 115, 116]⟩ : ByteArray)⟩ : S28), (⟨(⟨#[88]⟩ : ByteArray), (⟨#[49]⟩ : ByteArray)⟩ : S28), (⟨(⟨#[72, 111, 115, 116]⟩ : ByteArray), (⟨#[97]⟩ : ByteArray)⟩ : S28), (⟨(⟨#[116, 101]⟩ : ByteArray), (⟨#[98]⟩ : ByteArray)⟩ : S28), (⟨(⟨#[65]⟩ : ByteArray), (⟨#[99]⟩ : ByteArray)⟩ : S28)] : List (S28)))).bind fun t160 => ((hop_Via.f t160 (⟨#[103, 119]⟩ : ByteArray)).bind fun t163 => ((hop_From.f t160 (⟨#[49, 46, 50, 46, 51, 46, 52]⟩ : ByteArray)).bind fun t166 => (if (t160.length : Int) = 2 then (if 0 < (t160.length : Int) then (if ((rd_T28 t160 0).f0).toList = ([72, 111, 115, 116] : List UInt8) then (if (t163.length : Int) = 3 then (if 2 < (t163.length : Int) then (if ((rd_T28 t163 2).f1).toList = ([49, 46, 49, 32, 103, 119] : List UInt8) then (if (t166.length : Int) = 3 then (if 2 < (t166.length : Int) then (if ((rd_T28 t166 2).f0).toList = ([88, 45, 70, 111, 114, 119, 97, 114, 100, 101, 100, 45, 70, 111, 114] : List UInt8) then ((hop_Names.f).bind fun t172 => (parallaxlaw18_known.j0 k ((t172.length : Int) == 9))) else (parallaxlaw18_known.j0 k false)) else (none)) else (parallaxlaw18_known.j0 k false)) else (parallaxlaw18_known.j0 k false)) else (none)) else (parallaxlaw18_known.j0 k false)) else (parallaxlaw18_known.j0 k false)) else (none)) else (parallaxlaw18_known.j0 k false))))) = some r := h
  clear h
  obtain ⟨y157, hy157⟩ : ∃ y_ : List (S28), y_ = (([(⟨(⟨#[67, 111, 110, 110, 101, 99, 116, 105, 111, 110]⟩ : ByteArray), (⟨#[120, 44, 32, 104, 111, 115, 116]⟩ : ByteArray)⟩ : S28), (⟨(⟨#[88]⟩ : ByteArray), (⟨#[49]⟩ : ByteArray)⟩ : S28), (⟨(⟨#[72, 111, 115, 116]⟩ : ByteArray), (⟨#[97]⟩ : ByteArray)⟩ : S28), (⟨(⟨#[116, 101]⟩ : ByteArray), (⟨#[98]⟩ : ByteArray)⟩ : S28), (⟨(⟨#[65]⟩ : ByteArray), (⟨#[99]⟩ : ByteArray)⟩ : S28)] : List (S28))) := ⟨_, rfl⟩
  replace H : ((hop_Strip.f k y157).bind fun t160 => ((hop_Via.f t160 (⟨#[103, 119]⟩ : ByteArray)).bind fun t163 => ((hop_From.f t160 (⟨#[49, 46, 50, 46, 51, 46, 52]⟩ : ByteArray)).bind fun t166 => (if (t160.length : Int) = 2 then (if 0 < (t160.length : Int) then (if ((rd_T28 t160 0).f0).toList = ([72, 111, 115, 116] : List UInt8) then (if (t163.length : Int) = 3 then (if 2 < (t163.length : Int) then (if ((rd_T28 t163 2).f1).toList = ([49, 46, 49, 32, 103, 119] : List UInt8) then (if (t166.length : Int) = 3 then (if 2 < (t166.length : Int) then (if ((rd_T28 t166 2).f0).toList = ([88, 45, 70, 111, 114, 119, 97, 114, 100, 101, 100, 45, 70, 111, 114] : List UInt8) then ((hop_Names.f).bind fun t172 => (parallaxlaw18_known.j0 k ((t172.length : Int) == 9))) else (parallaxlaw18_known.j0 k false)) else (none)) else (parallaxlaw18_known.j0 k false)) else (parallaxlaw18_known.j0 k false)) else (none)) else (parallaxlaw18_known.j0 k false)) else (parallaxlaw18_known.j0 k false)) else (none)) else (parallaxlaw18_known.j0 k false))))) = some r := by first | (rw [hy157]; with_reducible exact H) | (have H2_ := (Option.bind_some _ _).symm.trans H; rw [hy157]; with_reducible exact H2_) | (have H2_ := (Option.bind_some _ _).symm.trans H; with_reducible exact H2_) | with_reducible exact H | (rw [hy157]; exact H) | exact H
  have Ny157 := Aside0.mk hy157
  clear hy157
  replace H := Option.bind_eq_some_iff.mp H
  obtain ⟨t160, A10, H⟩ := H
  (try dsimp only at H)
  have A1 := Aside0.mk A10
  clear A10
  replace H := Option.bind_eq_some_iff.mp H
  obtain ⟨t163, A20, H⟩ := H
  (try dsimp only at H)
  have A2 := Aside0.mk A20
  clear A20
  replace H := Option.bind_eq_some_iff.mp H
  obtain ⟨t166, A30, H⟩ := H
  (try dsimp only at H)
  have A3 := Aside0.mk A30
  clear A30
  have HC4 := Aside0.mk H
  clear H
  go_enter Tryd.func6, Tryd.ntmps6
  go_upto_region 5 with (first | ((with_reducible refine gate_dst (N := 10) rfl ?_); (try (refine gate_guard (by rfl) ?_; dsimp only)); refine Kd.R_lit k28 _ 28 ?hg (N := 10) ?hd (xs := ([(⟨(⟨#[67, 111, 110, 110, 101, 99, 116, 105, 111, 110]⟩ : ByteArray), (⟨#[120, 44, 32, 104, 111, 115, 116]⟩ : ByteArray)⟩ : S28), (⟨(⟨#[88]⟩ : ByteArray), (⟨#[49]⟩ : ByteArray)⟩ : S28), (⟨(⟨#[72, 111, 115, 116]⟩ : ByteArray), (⟨#[97]⟩ : ByteArray)⟩ : S28), (⟨(⟨#[116, 101]⟩ : ByteArray), (⟨#[98]⟩ : ByteArray)⟩ : S28), (⟨(⟨#[65]⟩ : ByteArray), (⟨#[99]⟩ : ByteArray)⟩ : S28)] : List (S28))) (inner := [.string (⟨#[67, 111, 110, 110, 101, 99, 116, 105, 111, 110]⟩ : ByteArray), .string (⟨#[120, 44, 32, 104, 111, 115, 116]⟩ : ByteArray), .string (⟨#[88]⟩ : ByteArray), .string (⟨#[49]⟩ : ByteArray), .string (⟨#[72, 111, 115, 116]⟩ : ByteArray), .string (⟨#[97]⟩ : ByteArray), .string (⟨#[116, 101]⟩ : ByteArray), .string (⟨#[98]⟩ : ByteArray), .string (⟨#[65]⟩ : ByteArray), .string (⟨#[99]⟩ : ByteArray)]) (ok := fun _ => True) (okp := fun _ => True) ?hr ?hp (fun _ hk => hk) trivial (Below.refl _ _) (Nat.le_refl _) (by simp) ?_; (case hd => rfl); (case hg => rfl); (case hr => first | (go_simp; done) | (go_simp; rfl)); (case hp => exact (Reps.c2 (show Kd.M k28 _ _ _ (⟨(⟨#[67, 111, 110, 110, 101, 99, 116, 105, 111, 110]⟩ : ByteArray), (⟨#[120, 44, 32, 104, 111, 115, 116]⟩ : ByteArray)⟩ : S28) [.string (⟨#[67, 111, 110, 110, 101, 99, 116, 105, 111, 110]⟩ : ByteArray), .string (⟨#[120, 44, 32, 104, 111, 115, 116]⟩ : ByteArray)] from (k28_mkM _ _ _ (⟨(⟨#[67, 111, 110, 110, 101, 99, 116, 105, 111, 110]⟩ : ByteArray), (⟨#[120, 44, 32, 104, 111, 115, 116]⟩ : ByteArray)⟩ : S28) )) (Reps.c2 (show Kd.M k28 _ _ _ (⟨(⟨#[88]⟩ : ByteArray), (⟨#[49]⟩ : ByteArray)⟩ : S28) [.string (⟨#[88]⟩ : ByteArray), .string (⟨#[49]⟩ : ByteArray)] from (k28_mkM _ _ _ (⟨(⟨#[88]⟩ : ByteArray), (⟨#[49]⟩ : ByteArray)⟩ : S28) )) (Reps.c2 (show Kd.M k28 _ _ _ (⟨(⟨#[72, 111, 115, 116]⟩ : ByteArray), (⟨#[97]⟩ : ByteArray)⟩ : S28) [.string (⟨#[72, 111, 115, 116]⟩ : ByteArray), .string (⟨#[97]⟩ : ByteArray)] from (k28_mkM _ _ _ (⟨(⟨#[72, 111, 115, 116]⟩ : ByteArray), (⟨#[97]⟩ : ByteArray)⟩ : S28) )) (Reps.c2 (show Kd.M k28 _ _ _ (⟨(⟨#[116, 101]⟩ : ByteArray), (⟨#[98]⟩ : ByteArray)⟩ : S28) [.string (⟨#[116, 101]⟩ : ByteArray), .string (⟨#[98]⟩ : ByteArray)] from (k28_mkM _ _ _ (⟨(⟨#[116, 101]⟩ : ByteArray), (⟨#[98]⟩ : ByteArray)⟩ : S28) )) (Reps.c2 (show Kd.M k28 _ _ _ (⟨(⟨#[65]⟩ : ByteArray), (⟨#[99]⟩ : ByteArray)⟩ : S28) [.string (⟨#[65]⟩ : ByteArray), .string (⟨#[99]⟩ : ByteArray)] from (k28_mkM _ _ _ (⟨(⟨#[65]⟩ : ByteArray), (⟨#[99]⟩ : ByteArray)⟩ : S28) )) (Reps.none _ _))))))); intro v158 w5 ho6 hb hg_ hnew_; clear hg_ hnew_; (first | rw [← Ny157.out] at ho6 | (simp only [Int.reduceToNat] at ho6; rw [← Ny157.out] at ho6)); have n0_ := Aside0.mk (Kd.R_lower ho6 (below_size (by repeat (first | (with_reducible first | exact HB.out | apply below_alloc | apply pw_below_drewN | apply below_drew1) | exact HB.out)))); have n1_ := Aside0.mk (below_step (by repeat (first | (with_reducible first | exact HB.out | apply below_alloc | apply pw_below_drewN | apply below_drew1) | exact HB.out)) hb); clear HB; have HO159 := n0_; have HB := n1_; clear n0_ n1_; clear hb ho6; obtain ⟨Ao7, co7, eo7⟩ := Kd.R_slice HO159.out; subst eo7) | ((with_reducible refine gate_callee (f := 8) rfl ?_); refine goesL_ (some 12) rfl rfl Tryd.func8 (by kernel_rfl) rfl #[.slice Ao7 y157.length co7] rfl (by (try simp only [List.map_toArray, List.map_cons, List.map_nil]); first | done | rfl | (simp only [List.length_drop, List.length_take]; rfl)) ?_; (with_reducible refine (hop_Strip.calls k _ _ y157 t160 _ ?side1 ?side2 ?side3 A1.out).mono ?_); (case side1 => repeat (first | exact (Kd.R_reads' HO159.out).2.2 | (with_reducible refine Kd.C_alloc ?_ _) | (with_reducible refine Kd.C_drewN ?_ _) | (with_reducible refine Kd.C_drew ?_))); (case side2 => exact (Kd.R_reads' HO159.out).2.1); (case side3 => exact Laid.below HLX.out (by repeat (first | (with_reducible first | exact HB.out | apply below_alloc | apply pw_below_drewN | apply below_drew1) | exact HB.out))); rintro e w8 ⟨v161, rfl, ho0, hb⟩; refine ⟨_, rfl, ?_⟩; have n0_ := Aside0.mk (Kd.R_elder' (by (with_reducible repeat (first | apply Kd.R_alloc | apply Kd.R_drewN | apply Kd.R_drew)); exact HO159.out) (Kd.R_base ho0) hb); have n1_ := Aside0.mk (Kd.R_lower (Kd.R_new' ho0 (Kd.R_lt (by (with_reducible repeat (first | apply Kd.R_alloc | apply Kd.R_drewN | apply Kd.R_drew)); exact HO159.out))) (below_size (by repeat (first | (with_reducible first | exact HB.out | apply below_alloc | apply pw_below_drewN | apply below_drew1) | exact HB.out)))); have n2_ := Aside0.mk (below_step (by repeat (first | (with_reducible first | exact HB.out | apply below_alloc | apply pw_below_drewN | apply below_drew1) | exact HB.out)) hb); clear HO159; clear HB; have HO159 := n0_; have HO162 := n1_; have HB := n2_; clear n0_ n1_ n2_; (try clear hb); (try clear hb2); (try clear hk); (try clear hi); (try clear ho0); obtain ⟨Ao9, co9, eo9⟩ := Kd.R_slice HO162.out; subst eo9) | ((with_reducible refine gate_callee (f := 11) rfl ?_); refine goesL_ (some 14) rfl rfl Tryd.func11 (by kernel_rfl) rfl #[.slice Ao9 t160.length co9, .string (⟨#[103, 119]⟩ : ByteArray)] rfl (by (try simp only [List.map_toArray, List.map_cons, List.map_nil]); first | done | rfl | (simp only [List.length_drop, List.length_take]; rfl)) ?_; (with_reducible refine (hop_Via.calls _ _ t160 (⟨#[103, 119]⟩ : ByteArray) t163 _ ?side1 ?side2 A2.out).mono ?_); (case side1 => repeat (first | exact (Kd.R_reads' HO162.out).2.2 | (with_reducible refine Kd.C_alloc ?_ _) | (with_reducible refine Kd.C_drewN ?_ _) | (with_reducible refine Kd.C_drew ?_))); (case side2 => exact (Kd.R_reads' HO162.out).2.1); rintro e w10 ⟨v164, rfl, ho0, hb⟩; refine ⟨_, rfl, ?_⟩; have n0_ := Aside0.mk (Kd.R_elder' (by (with_reducible repeat (first | apply Kd.R_alloc | apply Kd.R_drewN | apply Kd.R_drew)); exact HO159.out) (Kd.R_base ho0) hb); have n1_ := Aside0.mk (Kd.R_elder' (by (with_reducible repeat (first | apply Kd.R_alloc | apply Kd.R_drewN | apply Kd.R_drew)); exact HO162.out) (Kd.R_base ho0) hb); have n2_ := Aside0.mk (Kd.R_lower (Kd.R_new' (Kd.R_new' ho0 (Kd.R_lt (by (with_reducible repeat (first | apply Kd.R_alloc | apply Kd.R_drewN | apply Kd.R_drew)); exact HO159.out))) (Kd.R_lt (by (with_reducible repeat (first | apply Kd.R_alloc | apply Kd.R_drewN | apply Kd.R_drew)); exact HO162.out))) (below_size (by repeat (first | (with_reducible first | exact HB.out | apply below_alloc | apply pw_below_drewN | apply below_drew1) | exact HB.out)))); have n3_ := Aside0.mk (below_step (by repeat (first | (with_reducible first | exact HB.out | apply below_alloc | apply pw_below_drewN | apply below_drew1) | exact HB.out)) hb); clear HO159; clear HO162; clear HB; have HO159 := n0_; have HO162 := n1_; have HO165 := n2_; have HB := n3_; clear n0_ n1_ n2_ n3_; (try clear hb); (try clear hb2); (try clear hk); (try clear hi); (try clear ho0)) | ((with_reducible refine gate_callee (f := 13) rfl ?_); refine goesL_ (some 16) rfl rfl Tryd.func13 (by kernel_rfl) rfl #[.slice Ao9 t160.length co9, .string (⟨#[49, 46, 50, 46, 51, 46, 52]⟩ : ByteArray)] rfl (by (try simp only [List.map_toArray, List.map_cons, List.map_nil]); first | done | rfl | (simp only [List.length_drop, List.length_take]; rfl)) ?_; (with_reducible refine (hop_From.calls _ _ t160 (⟨#[49, 46, 50, 46, 51, 46, 52]⟩ : ByteArray) t166 _ ?side1 ?side2 A3.out).mono ?_); (case side1 => repeat (first | exact (Kd.R_reads' HO162.out).2.2 | (with_reducible refine Kd.C_alloc ?_ _) | (with_reducible refine Kd.C_drewN ?_ _) | (with_reducible refine Kd.C_drew ?_))); (case side2 => exact (Kd.R_reads' HO162.out).2.1); rintro e w11 ⟨v167, rfl, ho0, hb⟩; refine ⟨_, rfl, ?_⟩; have n0_ := Aside0.mk (Kd.R_elder' (by (with_reducible repeat (first | apply Kd.R_alloc | apply Kd.R_drewN | apply Kd.R_drew)); exact HO159.out) (Kd.R_base ho0) hb); have n1_ := Aside0.mk (Kd.R_elder' (by (with_reducible repeat (first | apply Kd.R_alloc | apply Kd.R_drewN | apply Kd.R_drew)); exact HO162.out) (Kd.R_base ho0) hb); have n2_ := Aside0.mk (Kd.R_elder' (by (with_reducible repeat (first | apply Kd.R_alloc | apply Kd.R_drewN | apply Kd.R_drew)); exact HO165.out) (Kd.R_base ho0) hb); have n3_ := Aside0.mk (Kd.R_lower (Kd.R_new' (Kd.R_new' (Kd.R_new' ho0 (Kd.R_lt (by (with_reducible repeat (first | apply Kd.R_alloc | apply Kd.R_drewN | apply Kd.R_drew)); exact HO159.out))) (Kd.R_lt (by (with_reducible repeat (first | apply Kd.R_alloc | apply Kd.R_drewN | apply Kd.R_drew)); exact HO162.out))) (Kd.R_lt (by (with_reducible repeat (first | apply Kd.R_alloc | apply Kd.R_drewN | apply Kd.R_drew)); exact HO165.out))) (below_size (by repeat (first | (with_reducible first | exact HB.out | apply below_alloc | apply pw_below_drewN | apply below_drew1) | exact HB.out)))); have n4_ := Aside0.mk (below_step (by repeat (first | (with_reducible first | exact HB.out | apply below_alloc | apply pw_below_drewN | apply below_drew1) | exact HB.out)) hb); clear HO159; clear HO162; clear HO165; clear HB; have HO159 := n0_; have HO162 := n1_; have HO165 := n2_; have HO168 := n3_; have HB := n4_; clear n0_ n1_ n2_ n3_ n4_; (try clear hb); (try clear hb2); (try clear hk); (try clear hi); (try clear ho0)))
  (try simp only [Act.put, List.setIfInBounds_toArray, List.set_cons_zero, List.set_cons_succ])
  go_cut [0] (fun v0 wc => ∃ (kq : Nat) (x0_3 : Bool), v0 = .bool x0_3 ∧ Aside0 (parallaxlaw18_known.j0 kq x0_3 = some r) ∧ Aside0 (kq ≤ k) ∧ Aside0 (Below w.heap.size w wc))
  case first =>
    have H := HC4.out
    clear HC4
    by_cases c12 : (t160.length : Int) = 2
    · rw [if_pos c12] at H
      have c12b0 : ((t160.length : Int) == 2) = true := beq_iff_eq.mpr c12
      have c12b1 : ((t160.length : Int) != 2) = false := bne_eq_false_iff_eq.mpr c12
      clear c12
      (first | rw [c12b0] | (simp only [i64_w, i32_w]; rw [c12b0]) | skip)
      by_cases c13 : 0 < (t160.length : Int)
      · rw [if_pos c13] at H
        have c13b0 : decide (0 < (t160.length : Int)) = true := decide_eq_true c13
        have c13b1 : decide (0 < t160.length) = true := decide_eq_true (by omega)
        clear c13
        by_cases c14 : ((rd_T28 t160 0).f0).toList = ([72, 111, 115, 116] : List UInt8)
        · rw [if_pos c14] at H
          have c14b0 : (((rd_T28 t160 0).f0).toList == ([72, 111, 115, 116] : List UInt8)) = true := beq_iff_eq.mpr c14
          have c14b1 : (((rd_T28 t160 0).f0).toList != ([72, 111, 115, 116] : List UInt8)) = false := bne_eq_false_iff_eq.mpr c14
          clear c14
          by_cases c15 : (t163.length : Int) = 3
          · rw [if_pos c15] at H
            have c15b0 : ((t163.length : Int) == 3) = true := beq_iff_eq.mpr c15
            have c15b1 : ((t163.length : Int) != 3) = false := bne_eq_false_iff_eq.mpr c15
            clear c15
            by_cases c16 : 2 < (t163.length : Int)
            · rw [if_pos c16] at H
              have c16b0 : decide (2 < (t163.length : Int)) = true := decide_eq_true c16
              have c16b1 : decide (2 < t163.length) = true := decide_eq_true (by omega)
              clear c16
              by_cases c17 : ((rd_T28 t163 2).f1).toList = ([49, 46, 49, 32, 103, 119] : List UInt8)
              · rw [if_pos c17] at H
                have c17b0 : (((rd_T28 t163 2).f1).toList == ([49, 46, 49, 32, 103, 119] : List UInt8)) = true := beq_iff_eq.mpr c17
                have c17b1 : (((rd_T28 t163 2).f1).toList != ([49, 46, 49, 32, 103, 119] : List UInt8)) = false := bne_eq_false_iff_eq.mpr c17
                clear c17
                by_cases c18 : (t166.length : Int) = 3
                · rw [if_pos c18] at H
                  have c18b0 : ((t166.length : Int) == 3) = true := beq_iff_eq.mpr c18
                  have c18b1 : ((t166.length : Int) != 3) = false := bne_eq_false_iff_eq.mpr c18
                  clear c18
                  by_cases c19 : 2 < (t166.length : Int)
                  · rw [if_pos c19] at H
                    have c19b0 : decide (2 < (t166.length : Int)) = true := decide_eq_true c19
                    have c19b1 : decide (2 < t166.length) = true := decide_eq_true (by omega)
                    clear c19
                    by_cases c20 : ((rd_T28 t166 2).f0).toList = ([88, 45, 70, 111, 114, 119, 97, 114, 100, 101, 100, 45, 70, 111, 114] : List UInt8)
                    · rw [if_pos c20] at H
                      have c20b0 : (((rd_T28 t166 2).f0).toList == ([88, 45, 70, 111, 114, 119, 97, 114, 100, 101, 100, 45, 70, 111, 114] : List UInt8)) = true := beq_iff_eq.mpr c20
                      have c20b1 : (((rd_T28 t166 2).f0).toList != ([88, 45, 70, 111, 114, 119, 97, 114, 100, 101, 100, 45, 70, 111, 114] : List UInt8)) = false := bne_eq_false_iff_eq.mpr c20
                      clear c20
                      replace H := Option.bind_eq_some_iff.mp H
                      obtain ⟨t172, A210, H⟩ := H
                      (try dsimp only at H)
                      have A21 := Aside0.mk A210
                      clear A210
                      have H' := Aside0.mk H
                      clear H
                      have p169 : 0 ≤ (0 : Int) := (by omega)
                      have q169 : 0 < (t160.length : Int) := of_decide_eq_true (by first | (with_reducible assumption) | assumption)
                      obtain ⟨ad169, e169, hx169_0, hx169_1⟩ := at_T28 (Kd.R_reads' HO162.out).2.2 0 p169 q169
                      cases e169
                      have qi169 : (0 < t160.length) = True := eq_true (by omega)
                      (try rw [show ((0 : Int)).toNat = 0 from rfl] at hx169_0)
                      (try rw [show 0 * 2 = 0 from rfl] at hx169_0)
                      (try rw [Addr.add_zero'] at hx169_0)
                      (try rw [show ((0 : Int)).toNat = 0 from rfl] at hx169_1)
                      (try rw [show 0 * 2 = 0 from rfl] at hx169_1)
                      (try rw [Addr.add_zero'] at hx169_1)
                      replace p169 := eq_true p169
                      replace q169 := eq_true q169
                      obtain ⟨Ao22, co22, eo22⟩ := Kd.R_slice HO165.out
                      subst eo22
                      have p170 : 0 ≤ (2 : Int) := (by omega)
                      have q170 : 2 < (t163.length : Int) := of_decide_eq_true (by first | (with_reducible assumption) | assumption)
                      obtain ⟨ad170, e170, hx170_0, hx170_1⟩ := at_T28 (Kd.R_reads' HO165.out).2.2 2 p170 q170
                      cases e170
                      (try simp only [show (2 : Int).toNat = 2 from rfl, Nat.reduceMul, Nat.reduceEqDiff, Go.Addr.add, ↓reduceIte] at hx170_0)
                      (try simp only [show (2 : Int).toNat = 2 from rfl, Nat.reduceMul, Nat.reduceEqDiff, Go.Addr.add, ↓reduceIte] at hx170_1)
                      have qi170 : (2 < t163.length) = True := eq_true (by omega)
                      (try rw [show ((2 : Int)).toNat = 2 from rfl] at hx170_0)
                      (try rw [show 2 * 2 = 4 from rfl] at hx170_0)
                      (try rw [show ((2 : Int)).toNat = 2 from rfl] at hx170_1)
                      (try rw [show 2 * 2 = 4 from rfl] at hx170_1)
                      replace p170 := eq_true p170
                      replace q170 := eq_true q170
                      obtain ⟨Ao23, co23, eo23⟩ := Kd.R_slice HO168.out
                      subst eo23
                      have p171 : 0 ≤ (2 : Int) := (by omega)
                      have q171 : 2 < (t166.length : Int) := of_decide_eq_true (by first | (with_reducible assumption) | assumption)
                      obtain ⟨ad171, e171, hx171_0, hx171_1⟩ := at_T28 (Kd.R_reads' HO168.out).2.2 2 p171 q171
                      cases e171
                      (try simp only [show (2 : Int).toNat = 2 from rfl, Nat.reduceMul, Nat.reduceEqDiff, Go.Addr.add, ↓reduceIte] at hx171_0)
                      (try simp only [show (2 : Int).toNat = 2 from rfl, Nat.reduceMul, Nat.reduceEqDiff, Go.Addr.add, ↓reduceIte] at hx171_1)
                      have qi171 : (2 < t166.length) = True := eq_true (by omega)
                      (try rw [show ((2 : Int)).toNat = 2 from rfl] at hx171_0)
                      (try rw [show 2 * 2 = 4 from rfl] at hx171_0)
                      (try rw [show ((2 : Int)).toNat = 2 from rfl] at hx171_1)
                      (try rw [show 2 * 2 = 4 from rfl] at hx171_1)
                      replace p171 := eq_true p171
                      replace q171 := eq_true q171
                      go_wp2_with (first | (go_at_call 16; (with_reducible refine (hop_Names.calls  t172 _ ?side1 A21.out).mono ?_); (case side1 => exact Laid.below HLX.out (by repeat (first | (with_reducible first | exact HB.out | apply below_alloc | apply pw_below_drewN | apply below_drew1) | exact HB.out))); rintro e w24 ⟨v173, rfl, ho0, hb⟩; have n0_ := Aside0.mk (Kd.R_below (by (with_reducible repeat (first | apply Kd.R_alloc | apply Kd.R_drewN | apply Kd.R_drew)); exact HO159.out) hb); have n1_ := Aside0.mk (Kd.R_below (by (with_reducible repeat (first | apply Kd.R_alloc | apply Kd.R_drewN | apply Kd.R_drew)); exact HO162.out) hb); have n2_ := Aside0.mk (Kd.R_below (by (with_reducible repeat (first | apply Kd.R_alloc | apply Kd.R_drewN | apply Kd.R_drew)); exact HO165.out) hb); have n3_ := Aside0.mk (Kd.R_below (by (with_reducible repeat (first | apply Kd.R_alloc | apply Kd.R_drewN | apply Kd.R_drew)); exact HO168.out) hb); have n4_ := Aside0.mk (Kd.R_lower ho0 (below_size (by repeat (first | (with_reducible first | exact HB.out | apply below_alloc | apply pw_below_drewN | apply below_drew1) | exact HB.out)))); have n5_ := Aside0.mk (below_step (by repeat (first | (with_reducible first | exact HB.out | apply below_alloc | apply pw_below_drewN | apply below_drew1) | exact HB.out)) hb); clear HO159; clear HO162; clear HO165; clear HO168; clear HB; have HO159 := n0_; have HO162 := n1_; have HO165 := n2_; have HO168 := n3_; have HO174 := n4_; have HB := n5_; clear n0_ n1_ n2_ n3_ n4_ n5_; (try clear hb); (try clear hb2); (try clear hk); (try clear hi); (try clear ho0); obtain ⟨Ao25, co25, eo25⟩ := Kd.R_slice HO174.out; subst eo25))
                      (try any_goals (exfalso; have h_ := ‹some undef = some (Value.bool _)›; revert h_; simp [undef]; done))
                      go_meet
                      case rel => exact ⟨_, (((t172.length : Int) == 9)), (by first | rfl | (simp; done) | (simp [*]; done)), H', ⟨by first | omega | exact Nat.le_refl _⟩, ⟨by repeat (first | (with_reducible first | exact HB.out | apply below_alloc | apply pw_below_drewN | apply below_drew1) | exact HB.out)⟩⟩
                    · rw [if_neg c20] at H
                      have c20b0 : (((rd_T28 t166 2).f0).toList == ([88, 45, 70, 111, 114, 119, 97, 114, 100, 101, 100, 45, 70, 111, 114] : List UInt8)) = false := beq_eq_false_iff_ne.mpr c20
                      have c20b1 : (((rd_T28 t166 2).f0).toList != ([88, 45, 70, 111, 114, 119, 97, 114, 100, 101, 100, 45, 70, 111, 114] : List UInt8)) = true := bne_iff_ne.mpr c20
                      have H' := Aside0.mk H
                      clear H
                      have p169 : 0 ≤ (0 : Int) := (by omega)
                      have q169 : 0 < (t160.length : Int) := of_decide_eq_true (by first | (with_reducible assumption) | assumption)
                      obtain ⟨ad169, e169, hx169_0, hx169_1⟩ := at_T28 (Kd.R_reads' HO162.out).2.2 0 p169 q169
                      cases e169
                      have qi169 : (0 < t160.length) = True := eq_true (by omega)
                      (try rw [show ((0 : Int)).toNat = 0 from rfl] at hx169_0)
                      (try rw [show 0 * 2 = 0 from rfl] at hx169_0)
                      (try rw [Addr.add_zero'] at hx169_0)
                      (try rw [show ((0 : Int)).toNat = 0 from rfl] at hx169_1)
                      (try rw [show 0 * 2 = 0 from rfl] at hx169_1)
                      (try rw [Addr.add_zero'] at hx169_1)
                      replace p169 := eq_true p169
                      replace q169 := eq_true q169
                      obtain ⟨Ao26, co26, eo26⟩ := Kd.R_slice HO165.out
                      subst eo26
                      have p170 : 0 ≤ (2 : Int) := (by omega)
                      have q170 : 2 < (t163.length : Int) := of_decide_eq_true (by first | (with_reducible assumption) | assumption)
                      obtain ⟨ad170, e170, hx170_0, hx170_1⟩ := at_T28 (Kd.R_reads' HO165.out).2.2 2 p170 q170
                      cases e170
                      (try simp only [show (2 : Int).toNat = 2 from rfl, Nat.reduceMul, Nat.reduceEqDiff, Go.Addr.add, ↓reduceIte] at hx170_0)
                      (try simp only [show (2 : Int).toNat = 2 from rfl, Nat.reduceMul, Nat.reduceEqDiff, Go.Addr.add, ↓reduceIte] at hx170_1)
                      have qi170 : (2 < t163.length) = True := eq_true (by omega)
                      (try rw [show ((2 : Int)).toNat = 2 from rfl] at hx170_0)
                      (try rw [show 2 * 2 = 4 from rfl] at hx170_0)
                      (try rw [show ((2 : Int)).toNat = 2 from rfl] at hx170_1)
                      (try rw [show 2 * 2 = 4 from rfl] at hx170_1)
                      replace p170 := eq_true p170
                      replace q170 := eq_true q170
                      obtain ⟨Ao27, co27, eo27⟩ := Kd.R_slice HO168.out
                      subst eo27
                      have p171 : 0 ≤ (2 : Int) := (by omega)
                      have q171 : 2 < (t166.length : Int) := of_decide_eq_true (by first | (with_reducible assumption) | assumption)
                      obtain ⟨ad171, e171, hx171_0, hx171_1⟩ := at_T28 (Kd.R_reads' HO168.out).2.2 2 p171 q171
                      cases e171
                      (try simp only [show (2 : Int).toNat = 2 from rfl, Nat.reduceMul, Nat.reduceEqDiff, Go.Addr.add, ↓reduceIte] at hx171_0)
                      (try simp only [show (2 : Int).toNat = 2 from rfl, Nat.reduceMul, Nat.reduceEqDiff, Go.Addr.add, ↓reduceIte] at hx171_1)
                      have qi171 : (2 < t166.length) = True := eq_true (by omega)
                      (try rw [show ((2 : Int)).toNat = 2 from rfl] at hx171_0)
                      (try rw [show 2 * 2 = 4 from rfl] at hx171_0)
                      (try rw [show ((2 : Int)).toNat = 2 from rfl] at hx171_1)
                      (try rw [show 2 * 2 = 4 from rfl] at hx171_1)
                      replace p171 := eq_true p171
                      replace q171 := eq_true q171
                      go_wp2
                      (try any_goals (exfalso; have h_ := ‹some undef = some (Value.bool _)›; revert h_; simp [undef]; done))
                      go_meet
                      case rel => exact ⟨_, (false), (by first | rfl | (simp; done) | (simp [*]; done)), H', ⟨by first | omega | exact Nat.le_refl _⟩, ⟨by repeat (first | (with_reducible first | exact HB.out | apply below_alloc | apply pw_below_drewN | apply below_drew1) | exact HB.out)⟩⟩
                  · rw [if_neg c19] at H
                    exact absurd H (by simp)
                · rw [if_neg c18] at H
                  have c18b0 : ((t166.length : Int) == 3) = false := beq_eq_false_iff_ne.mpr c18
                  have c18b1 : ((t166.length : Int) != 3) = true := bne_iff_ne.mpr c18
                  have H' := Aside0.mk H
                  clear H
                  have p169 : 0 ≤ (0 : Int) := (by omega)
                  have q169 : 0 < (t160.length : Int) := of_decide_eq_true (by first | (with_reducible assumption) | assumption)
                  obtain ⟨ad169, e169, hx169_0, hx169_1⟩ := at_T28 (Kd.R_reads' HO162.out).2.2 0 p169 q169
                  cases e169
                  have qi169 : (0 < t160.length) = True := eq_true (by omega)
                  (try rw [show ((0 : Int)).toNat = 0 from rfl] at hx169_0)
                  (try rw [show 0 * 2 = 0 from rfl] at hx169_0)
                  (try rw [Addr.add_zero'] at hx169_0)
                  (try rw [show ((0 : Int)).toNat = 0 from rfl] at hx169_1)
                  (try rw [show 0 * 2 = 0 from rfl] at hx169_1)
                  (try rw [Addr.add_zero'] at hx169_1)
                  replace p169 := eq_true p169
                  replace q169 := eq_true q169
                  obtain ⟨Ao28, co28, eo28⟩ := Kd.R_slice HO165.out
                  subst eo28
                  have p170 : 0 ≤ (2 : Int) := (by omega)
                  have q170 : 2 < (t163.length : Int) := of_decide_eq_true (by first | (with_reducible assumption) | assumption)
                  obtain ⟨ad170, e170, hx170_0, hx170_1⟩ := at_T28 (Kd.R_reads' HO165.out).2.2 2 p170 q170
                  cases e170
                  (try simp only [show (2 : Int).toNat = 2 from rfl, Nat.reduceMul, Nat.reduceEqDiff, Go.Addr.add, ↓reduceIte] at hx170_0)
                  (try simp only [show (2 : Int).toNat = 2 from rfl, Nat.reduceMul, Nat.reduceEqDiff, Go.Addr.add, ↓reduceIte] at hx170_1)
                  have qi170 : (2 < t163.length) = True := eq_true (by omega)
                  (try rw [show ((2 : Int)).toNat = 2 from rfl] at hx170_0)
                  (try rw [show 2 * 2 = 4 from rfl] at hx170_0)
                  (try rw [show ((2 : Int)).toNat = 2 from rfl] at hx170_1)
                  (try rw [show 2 * 2 = 4 from rfl] at hx170_1)
                  replace p170 := eq_true p170
                  replace q170 := eq_true q170
                  obtain ⟨Ao29, co29, eo29⟩ := Kd.R_slice HO168.out
                  subst eo29
                  go_wp2
                  (try any_goals (exfalso; have h_ := ‹some undef = some (Value.bool _)›; revert h_; simp [undef]; done))
                  go_meet
                  case rel => exact ⟨_, (false), (by first | rfl | (simp; done) | (simp [*]; done)), H', ⟨by first | omega | exact Nat.le_refl _⟩, ⟨by repeat (first | (with_reducible first | exact HB.out | apply below_alloc | apply pw_below_drewN | apply below_drew1) | exact HB.out)⟩⟩
              · rw [if_neg c17] at H
                have c17b0 : (((rd_T28 t163 2).f1).toList == ([49, 46, 49, 32, 103, 119] : List UInt8)) = false := beq_eq_false_iff_ne.mpr c17
                have c17b1 : (((rd_T28 t163 2).f1).toList != ([49, 46, 49, 32, 103, 119] : List UInt8)) = true := bne_iff_ne.mpr c17
                have H' := Aside0.mk H
                clear H
                have p169 : 0 ≤ (0 : Int) := (by omega)
                have q169 : 0 < (t160.length : Int) := of_decide_eq_true (by first | (with_reducible assumption) | assumption)
                obtain ⟨ad169, e169, hx169_0, hx169_1⟩ := at_T28 (Kd.R_reads' HO162.out).2.2 0 p169 q169
                cases e169
                have qi169 : (0 < t160.length) = True := eq_true (by omega)
                (try rw [show ((0 : Int)).toNat = 0 from rfl] at hx169_0)
                (try rw [show 0 * 2 = 0 from rfl] at hx169_0)
                (try rw [Addr.add_zero'] at hx169_0)
                (try rw [show ((0 : Int)).toNat = 0 from rfl] at hx169_1)
                (try rw [show 0 * 2 = 0 from rfl] at hx169_1)
                (try rw [Addr.add_zero'] at hx169_1)
                replace p169 := eq_true p169
                replace q169 := eq_true q169
                obtain ⟨Ao30, co30, eo30⟩ := Kd.R_slice HO165.out
                subst eo30
                have p170 : 0 ≤ (2 : Int) := (by omega)
                have q170 : 2 < (t163.length : Int) := of_decide_eq_true (by first | (with_reducible assumption) | assumption)
                obtain ⟨ad170, e170, hx170_0, hx170_1⟩ := at_T28 (Kd.R_reads' HO165.out).2.2 2 p170 q170
                cases e170
                (try simp only [show (2 : Int).toNat = 2 from rfl, Nat.reduceMul, Nat.reduceEqDiff, Go.Addr.add, ↓reduceIte] at hx170_0)
                (try simp only [show (2 : Int).toNat = 2 from rfl, Nat.reduceMul, Nat.reduceEqDiff, Go.Addr.add, ↓reduceIte] at hx170_1)
                have qi170 : (2 < t163.length) = True := eq_true (by omega)
                (try rw [show ((2 : Int)).toNat = 2 from rfl] at hx170_0)
                (try rw [show 2 * 2 = 4 from rfl] at hx170_0)
                (try rw [show ((2 : Int)).toNat = 2 from rfl] at hx170_1)
                (try rw [show 2 * 2 = 4 from rfl] at hx170_1)
                replace p170 := eq_true p170
                replace q170 := eq_true q170
                go_wp2
                (try any_goals (exfalso; have h_ := ‹some undef = some (Value.bool _)›; revert h_; simp [undef]; done))
                go_meet
                case rel => exact ⟨_, (false), (by first | rfl | (simp; done) | (simp [*]; done)), H', ⟨by first | omega | exact Nat.le_refl _⟩, ⟨by repeat (first | (with_reducible first | exact HB.out | apply below_alloc | apply pw_below_drewN | apply below_drew1) | exact HB.out)⟩⟩
            · rw [if_neg c16] at H
              exact absurd H (by simp)
          · rw [if_neg c15] at H
            have c15b0 : ((t163.length : Int) == 3) = false := beq_eq_false_iff_ne.mpr c15
            have c15b1 : ((t163.length : Int) != 3) = true := bne_iff_ne.mpr c15
            have H' := Aside0.mk H
            clear H
            have p169 : 0 ≤ (0 : Int) := (by omega)
            have q169 : 0 < (t160.length : Int) := of_decide_eq_true (by first | (with_reducible assumption) | assumption)
            obtain ⟨ad169, e169, hx169_0, hx169_1⟩ := at_T28 (Kd.R_reads' HO162.out).2.2 0 p169 q169
            cases e169
            have qi169 : (0 < t160.length) = True := eq_true (by omega)
            (try rw [show ((0 : Int)).toNat = 0 from rfl] at hx169_0)
            (try rw [show 0 * 2 = 0 from rfl] at hx169_0)
            (try rw [Addr.add_zero'] at hx169_0)
            (try rw [show ((0 : Int)).toNat = 0 from rfl] at hx169_1)
            (try rw [show 0 * 2 = 0 from rfl] at hx169_1)
            (try rw [Addr.add_zero'] at hx169_1)
            replace p169 := eq_true p169
            replace q169 := eq_true q169
            obtain ⟨Ao31, co31, eo31⟩ := Kd.R_slice HO165.out
            subst eo31
            go_wp2
            (try any_goals (exfalso; have h_ := ‹some undef = some (Value.bool _)›; revert h_; simp [undef]; done))
            go_meet
            case rel => exact ⟨_, (false), (by first | rfl | (simp; done) | (simp [*]; done)), H', ⟨by first | omega | exact Nat.le_refl _⟩, ⟨by repeat (first | (with_reducible first | exact HB.out | apply below_alloc | apply pw_below_drewN | apply below_drew1) | exact HB.out)⟩⟩
        · rw [if_neg c14] at H
          have c14b0 : (((rd_T28 t160 0).f0).toList == ([72, 111, 115, 116] : List UInt8)) = false := beq_eq_false_iff_ne.mpr c14
          have c14b1 : (((rd_T28 t160 0).f0).toList != ([72, 111, 115, 116] : List UInt8)) = true := bne_iff_ne.mpr c14
          have H' := Aside0.mk H
          clear H
          have p169 : 0 ≤ (0 : Int) := (by omega)
          have q169 : 0 < (t160.length : Int) := of_decide_eq_true (by first | (with_reducible assumption) | assumption)
          obtain ⟨ad169, e169, hx169_0, hx169_1⟩ := at_T28 (Kd.R_reads' HO162.out).2.2 0 p169 q169
          cases e169
          have qi169 : (0 < t160.length) = True := eq_true (by omega)
          (try rw [show ((0 : Int)).toNat = 0 from rfl] at hx169_0)
          (try rw [show 0 * 2 = 0 from rfl] at hx169_0)
          (try rw [Addr.add_zero'] at hx169_0)
          (try rw [show ((0 : Int)).toNat = 0 from rfl] at hx169_1)
          (try rw [show 0 * 2 = 0 from rfl] at hx169_1)
          (try rw [Addr.add_zero'] at hx169_1)
          replace p169 := eq_true p169
          replace q169 := eq_true q169
          go_wp2
          (try any_goals (exfalso; have h_ := ‹some undef = some (Value.bool _)›; revert h_; simp [undef]; done))
          go_meet
          case rel => exact ⟨_, (false), (by first | rfl | (simp; done) | (simp [*]; done)), H', ⟨by first | omega | exact Nat.le_refl _⟩, ⟨by repeat (first | (with_reducible first | exact HB.out | apply below_alloc | apply pw_below_drewN | apply below_drew1) | exact HB.out)⟩⟩
      · rw [if_neg c13] at H
        exact absurd H (by simp)
    · rw [if_neg c12] at H
      have c12b0 : ((t160.length : Int) == 2) = false := beq_eq_false_iff_ne.mpr c12
      have c12b1 : ((t160.length : Int) != 2) = true := bne_iff_ne.mpr c12
      (first | rw [c12b0] | (simp only [i64_w, i32_w]; rw [c12b0]) | skip)
      have H' := Aside0.mk H
      clear H
      go_wp2
      (try any_goals (exfalso; have h_ := ‹some undef = some (Value.bool _)›; revert h_; simp [undef]; done))
      go_meet
      case rel => exact ⟨_, (false), (by first | rfl | (simp; done) | (simp [*]; done)), H', ⟨by first | omega | exact Nat.le_refl _⟩, ⟨by repeat (first | (with_reducible first | exact HB.out | apply below_alloc | apply pw_below_drewN | apply below_drew1) | exact HB.out)⟩⟩
  case rest =>
    clear HC4
    try clear c1
    try clear p1
    try clear q1
    try clear hx1
    try clear qi1
    try clear c2
    try clear p2
    try clear c6
    try clear c8
    try clear c11
    try clear c12
    try clear c12b0
    try clear c12b1
    try clear c13
    try clear c13b0
    try clear c13b1
    try clear c14
    try clear c14b0
    try clear c14b1
    try clear c15
    try clear c15b0
    try clear c15b1
    try clear c16
    try clear c16b0
    try clear c16b1
    try clear p16
    try clear q16
    try clear hx16
    try clear qi16
    try clear c17
    try clear c17b0
    try clear c17b1
    try clear p17
    try clear q17
    try clear hx17
    try clear qi17
    try clear c18
    try clear c18b0
    try clear c18b1
    try clear c19
    try clear c19b0
    try clear c19b1
    try clear c20
    try clear c20b0
    try clear c20b1
    try clear hx169_0
    try clear hx169_1
    try clear hx170_0
    try clear hx170_1
    try clear hx171_0
    try clear hx171_1
    try clear p169
    try clear p170
    try clear p171
    try clear q169
    try clear q170
    try clear q171
    obtain ⟨kq, x0_3, rfl, HA, HJ3, HB⟩ := hcut
    cases kq with
    | zero => exact absurd HA.out (by simp [parallaxlaw18_known.j0])
    | succ kj3 =>
      have H := HA.out
      clear HA
      simp only [parallaxlaw18_known.j0] at H
      obtain rfl := Option.some.inj H
      go_wp2
      (try any_goals (exfalso; have h_ := ‹some undef = some (Value.bool _)›; revert h_; simp [undef]; done))
      go_ret
      exact ⟨by first | rfl | (simp [errW_none, errW_some] <;> rfl) | (simp [*, errW_none, errW_some] <;> rfl), by repeat (first | (with_reducible first | exact HB.out | apply below_alloc | apply pw_below_drewN | apply below_drew1) | exact HB.out)⟩

end Go.Proofs.YtfmpajagkjealaaDoor.PHopNamed
