-- Written by a program of this session (wip/tools/myprint.sh)
import Derived.Test.YtnnehbbfokoklaaPTargetTellsx0
import Derived.Test.YtnnehbbfokoklaaPTargetTellsx7
namespace Go.Proofs.Ytnnehbbfokoklaa.PTargetTells
open Go.RowKit Go.Proofs.YtnnehbbfokoklaaW.PrintWords Go.Proofs.YtnnehbbfokoklaaW.PrintLast Go.Proofs.YtnnehbbfokoklaaW.PrintMore
attribute [local go_sem] max2_int min2_int max_two min_two max_three min_three max_four min_four   -- for this text's walks alone
set_option linter.unusedVariables false
set_option linter.unusedSimpArgs false

/-! ### parallaxref6_Host: function 14 -/
mutual
def parallaxref6_Host.j0 : Nat → List ByteArray → Bool → Option (Bool)
 | 0, _, _ => none
 | k + 1, x3, x26 => if x26 = true then (some false) else (parallaxref6_Host.l0 k x3 0)
def parallaxref6_Host.l0 : Nat → List ByteArray → Int → Option (Bool)
 | 0, _, _ => none
 | k + 1, x3, x4 => if 0 < (x3.length : Int) then (if x4 < ((rdOf ByteArray.empty x3 0).size : Int) then (if 0 ≤ x4 then ((parallaxref1_Letter.f (bt (rdOf ByteArray.empty x3 0) x4)).bind fun t236 => (if t236 = true then (parallaxref6_Host.l0 k x3 (wrap64 (x4 + 1))) else ((parallaxref1_Digit.f (bt (rdOf ByteArray.empty x3 0) x4)).bind fun t237 => (if t237 = true then (parallaxref6_Host.l0 k x3 (wrap64 (x4 + 1))) else (if (bt (rdOf ByteArray.empty x3 0) x4) = 45 then (parallaxref6_Host.l0 k x3 (wrap64 (x4 + 1))) else (if (bt (rdOf ByteArray.empty x3 0) x4) = 46 then (parallaxref6_Host.l0 k x3 (wrap64 (x4 + 1))) else (if (bt (rdOf ByteArray.empty x3 0) x4) = 95 then (parallaxref6_Host.l0 k x3 (wrap64 (x4 + 1))) else (if (bt (rdOf ByteArray.empty x3 0) x4) = 126 then (parallaxref6_Host.l0 k x3 (wrap64 (x4 + 1))) else (some false))))))))) else (none)) else (if (x3.length : Int) = 1 then (some true) else (if 1 < (x3.length : Int) then ((parallaxref1_Dec.f k (rdOf ByteArray.empty x3 1) 65535).bind fun bt232 => (if bt232.2 = 0 then (some (decide (((rdOf ByteArray.empty x3 1).size : Int) ≤ 5))) else (some false))) else (none)))) else (none)
end
def parallaxref6_Host.f (k : Nat) (a0 : ByteArray) : Option (Bool) := (parallaxref1_Split.f k a0 58).bind fun t225 => (if (t225.length : Int) > 2 then (parallaxref6_Host.j0 k t225 true) else (if 0 < (t225.length : Int) then (if ((rdOf ByteArray.empty t225 0).size : Int) < 1 then (parallaxref6_Host.j0 k t225 true) else (parallaxref6_Host.j0 k t225 (decide (((rdOf ByteArray.empty t225 0).size : Int) > 255)))) else (none)))
theorem parallaxref6_Host.mono_l : ∀ k, (∀ y0 y1, LeO (parallaxref6_Host.j0 k y0 y1) (parallaxref6_Host.j0 (k + 1) y0 y1)) ∧ (∀ y0 y1, LeO (parallaxref6_Host.l0 k y0 y1) (parallaxref6_Host.l0 (k + 1) y0 y1))
 | 0 => ⟨fun _ _ r h => by simp [parallaxref6_Host.j0] at h, fun _ _ r h => by simp [parallaxref6_Host.l0] at h⟩
 | k + 1 => by
  obtain ⟨ih0, ih1⟩ := parallaxref6_Host.mono_l k
  refine ⟨?_, ?_⟩
  ·intro y0 y1
   unfold parallaxref6_Host.j0
   repeat' first
   | (with_reducible exact ih0 _ _)
   | (with_reducible exact ih1 _ _)
   | (with_reducible exact parallaxref1_Dec.mono _ _ _)
   | (with_reducible exact parallaxref1_Split.mono _ _ _)
   | (with_reducible exact LeO.refl _)
   | (with_reducible exact LeO.none _)
   | (with_reducible refine LeO.ite ?_ ?_)
   | (with_reducible refine LeO.bind ?_ (fun _ => ?_))
   | exact ih0 _ _
   | exact ih1 _ _
   | exact parallaxref1_Dec.mono _ _ _
   | exact parallaxref1_Split.mono _ _ _
   | exact LeO.none _
   | refine LeO.ite ?_ ?_
   | refine LeO.bind ?_ (fun _ => ?_)
  ·intro y0 y1
   unfold parallaxref6_Host.l0
   repeat' first
   | (with_reducible exact ih0 _ _)
   | (with_reducible exact ih1 _ _)
   | (with_reducible exact parallaxref1_Dec.mono _ _ _)
   | (with_reducible exact parallaxref1_Split.mono _ _ _)
   | (with_reducible exact LeO.refl _)
   | (with_reducible exact LeO.none _)
   | (with_reducible refine LeO.ite ?_ ?_)
   | (with_reducible refine LeO.bind ?_ (fun _ => ?_))
   | exact ih0 _ _
   | exact ih1 _ _
   | exact parallaxref1_Dec.mono _ _ _
   | exact parallaxref1_Split.mono _ _ _
   | exact LeO.none _
   | refine LeO.ite ?_ ?_
   | refine LeO.bind ?_ (fun _ => ?_)
theorem parallaxref6_Host.mono : ∀ a0 k, LeO (parallaxref6_Host.f k a0) (parallaxref6_Host.f (k + 1) a0) := by
 intro a0 k
 obtain ⟨ih0, ih1⟩ := parallaxref6_Host.mono_l k
 unfold parallaxref6_Host.f
 repeat' first
   | (with_reducible exact ih0 _ _)
   | (with_reducible exact ih1 _ _)
   | (with_reducible exact parallaxref1_Dec.mono _ _ _)
   | (with_reducible exact parallaxref1_Split.mono _ _ _)
   | (with_reducible exact LeO.refl _)
   | (with_reducible exact LeO.none _)
   | (with_reducible refine LeO.ite ?_ ?_)
   | (with_reducible refine LeO.bind ?_ (fun _ => ?_))
   | exact ih0 _ _
   | exact ih1 _ _
   | exact parallaxref1_Dec.mono _ _ _
   | exact parallaxref1_Split.mono _ _ _
   | exact LeO.none _
   | refine LeO.ite ?_ ?_
   | refine LeO.bind ?_ (fun _ => ?_)
set_option maxHeartbeats 8000000 in
set_option maxRecDepth 100000 in
theorem parallaxref6_Host.calls (k : Nat) (a0 : ByteArray) (r : Bool) (w : World) (h : parallaxref6_Host.f k a0 = some r) :
  Calls Try.prog 14 #[.string a0] w fun e w' => e = .returned (.bool r) ∧ Below w.heap.size w w' := by
 have HB := Aside0.mk (Below.refl w.heap.size w)
 have H : ((parallaxref1_Split.f k a0 58).bind fun t225 => (if (t225.length : Int) > 2 then (parallaxref6_Host.j0 k t225 true) else (if 0 < (t225.length : Int) then (if ((rdOf ByteArray.empty t225 0).size : Int) < 1 then (parallaxref6_Host.j0 k t225 true) else (parallaxref6_Host.j0 k t225 (decide (((rdOf ByteArray.empty t225 0).size : Int) > 255)))) else (none)))) = some r := h
 clear h
 replace H := Option.bind_eq_some_iff.mp H
 obtain ⟨t225, A20, H⟩ := H
 replace H : (if (t225.length : Int) > 2 then (parallaxref6_Host.j0 k t225 true) else (if 0 < (t225.length : Int) then (if ((rdOf ByteArray.empty t225 0).size : Int) < 1 then (parallaxref6_Host.j0 k t225 true) else (parallaxref6_Host.j0 k t225 (decide (((rdOf ByteArray.empty t225 0).size : Int) > 255)))) else (none))) = some r := H
 have A2 := Aside0.mk A20
 clear A20
 have HC3 := Aside0.mk H
 clear H
 go_enter Try.func14, Try.ntmps14
 go_upto_region 2 with (first | ((with_reducible refine gate_callee (f := 31) rfl ?_); refine goesL_ (some 9) rfl rfl Try.func31 (by kernel_rfl) rfl #[.string a0, .int .u8 58] rfl (by (try simp only [List.map_toArray, List.map_cons, List.map_nil]); first | done | rfl | (simp only [List.length_drop, List.length_take]; rfl)) ?_; (with_reducible refine (parallaxref1_Split.calls k a0 58 t225 _ A2.out).mono ?_); rintro e w4 ⟨v226, rfl, ho0, hb⟩; refine ⟨_, rfl, ?_⟩; have n0_ := Aside0.mk (Kd.R_lower ho0 (below_size (by repeat (first | (with_reducible first | exact HB.out | apply below_alloc | apply pw_below_drewN | apply below_drew1) | exact HB.out)))); have n1_ := Aside0.mk (below_step (by repeat (first | (with_reducible first | exact HB.out | apply below_alloc | apply pw_below_drewN | apply below_drew1) | exact HB.out)) hb); clear HB; have HO227 := n0_; have HB := n1_; clear n0_ n1_; (try clear hb); (try clear hb2); (try clear hk); (try clear hi); (try clear ho0)))
 (try simp only [Act.put, List.setIfInBounds_toArray, List.set_cons_zero, List.set_cons_succ])
 go_cut [26] (fun v26 wc => ∃ (kq : Nat) (x26_2 : Bool), v26 = .bool x26_2 ∧ Aside0 (parallaxref6_Host.j0 kq t225 x26_2 = some r) ∧ Aside0 (kq ≤ k) ∧ Aside0 (Kd.R Kd.string 9 wc w.heap.size (fun _ => True) v226 t225) ∧ Aside0 (Below w.heap.size w wc))
 case first =>
  have H := HC3.out
  clear HC3
  by_cases c5 : (t225.length : Int) > 2
  ·rw [if_pos c5] at H
   have c5b0 : decide (2 < (t225.length : Int)) = true := decide_eq_true c5
   have c5b1 : decide (2 < t225.length) = true := decide_eq_true (by omega)
   clear c5
   (first | rw [c5b0] | (simp only [i64_w, i32_w]; rw [c5b0]) | skip)
   have H' := Aside0.mk H
   clear H
   obtain ⟨Ao6, co6, eo6⟩ := Kd.R_slice HO227.out
   subst eo6
   go_wp2
   go_meet
   case rel => exact ⟨_, (true), (by first | rfl | (simp; done) | (simp [*]; done)), H', ⟨by first | omega | exact Nat.le_refl _⟩, ⟨by (with_reducible repeat (first | apply Kd.R_alloc | apply Kd.R_drewN | apply Kd.R_drew)); exact HO227.out⟩, ⟨by repeat (first | (with_reducible first | exact HB.out | apply below_alloc | apply pw_below_drewN | apply below_drew1) | exact HB.out)⟩⟩
  ·rw [if_neg c5] at H
   have c5b0 : decide (2 < (t225.length : Int)) = false := decide_eq_false c5
   have c5b1 : decide (2 < t225.length) = false := decide_eq_false (by omega)
   clear c5
   (first | rw [c5b0] | (simp only [i64_w, i32_w]; rw [c5b0]) | skip)
   by_cases c7 : 0 < (t225.length : Int)
   ·rw [if_pos c7] at H
    have c7b0 : decide (0 < (t225.length : Int)) = true := decide_eq_true c7
    have c7b1 : decide (0 < t225.length) = true := decide_eq_true (by omega)
    clear c7
    by_cases c8 : ((rdOf ByteArray.empty t225 0).size : Int) < 1
    ·rw [if_pos c8] at H
     have c8b0 : decide (((rdOf ByteArray.empty t225 0).size : Int) < 1) = true := decide_eq_true c8
     have c8b1 : decide ((rdOf ByteArray.empty t225 0).size < 1) = true := decide_eq_true (by omega)
     clear c8
     have H' := Aside0.mk H
     clear H
     obtain ⟨Ao9, co9, eo9⟩ := Kd.R_slice HO227.out
     subst eo9
     have p228 : 0 ≤ (0 : Int) := (by omega)
     have q228 : 0 < (t225.length : Int) := of_decide_eq_true (by first | (with_reducible assumption) | assumption)
     obtain ⟨ad228, e228, hx228_0⟩ := Kd.at_string (Kd.R_reads' HO227.out).2.2 0 p228 q228
     cases e228
     have qi228 : (0 < t225.length) = True := eq_true (by omega)
     (try rw [show ((0 : Int)).toNat = 0 from rfl] at hx228_0)
     (try rw [Addr.add_zero'] at hx228_0)
     replace p228 := eq_true p228
     replace q228 := eq_true q228
     go_wp2
     go_meet
     case rel => exact ⟨_, (true), (by first | rfl | (simp; done) | (simp [*]; done)), H', ⟨by first | omega | exact Nat.le_refl _⟩, ⟨by (with_reducible repeat (first | apply Kd.R_alloc | apply Kd.R_drewN | apply Kd.R_drew)); exact HO227.out⟩, ⟨by repeat (first | (with_reducible first | exact HB.out | apply below_alloc | apply pw_below_drewN | apply below_drew1) | exact HB.out)⟩⟩
    ·rw [if_neg c8] at H
     have c8b0 : decide (((rdOf ByteArray.empty t225 0).size : Int) < 1) = false := decide_eq_false c8
     have c8b1 : decide ((rdOf ByteArray.empty t225 0).size < 1) = false := decide_eq_false (by omega)
     clear c8
     have H' := Aside0.mk H
     clear H
     obtain ⟨Ao10, co10, eo10⟩ := Kd.R_slice HO227.out
     subst eo10
     have p228 : 0 ≤ (0 : Int) := (by omega)
     have q228 : 0 < (t225.length : Int) := of_decide_eq_true (by first | (with_reducible assumption) | assumption)
     obtain ⟨ad228, e228, hx228_0⟩ := Kd.at_string (Kd.R_reads' HO227.out).2.2 0 p228 q228
     cases e228
     have qi228 : (0 < t225.length) = True := eq_true (by omega)
     (try rw [show ((0 : Int)).toNat = 0 from rfl] at hx228_0)
     (try rw [Addr.add_zero'] at hx228_0)
     replace p228 := eq_true p228
     replace q228 := eq_true q228
     have p229 : 0 ≤ (0 : Int) := (by omega)
     have q229 : 0 < (t225.length : Int) := of_decide_eq_true (by first | (with_reducible assumption) | assumption)
     obtain ⟨ad229, e229, hx229_0⟩ := Kd.at_string (Kd.R_reads' HO227.out).2.2 0 p229 q229
     obtain rfl : ad228 = ad229 := (by injection e229)
     have qi229 : (0 < t225.length) = True := eq_true (by omega)
     (try rw [show ((0 : Int)).toNat = 0 from rfl] at hx229_0)
     (try rw [Addr.add_zero'] at hx229_0)
     replace p229 := eq_true p229
     replace q229 := eq_true q229
     go_wp2
     go_meet
     case rel => exact ⟨_, (decide (((rdOf ByteArray.empty t225 0).size : Int) > 255)), (by first | rfl | (simp; done) | (simp [*]; done)), H', ⟨by first | omega | exact Nat.le_refl _⟩, ⟨by (with_reducible repeat (first | apply Kd.R_alloc | apply Kd.R_drewN | apply Kd.R_drew)); exact HO227.out⟩, ⟨by repeat (first | (with_reducible first | exact HB.out | apply below_alloc | apply pw_below_drewN | apply below_drew1) | exact HB.out)⟩⟩
   ·rw [if_neg c7] at H
    exact absurd H (by simp)
 case rest =>
  clear HC3
  try clear c1
  try clear p2
  try clear q2
  try clear hx2
  try clear qi2
  try clear c3
  try clear c5
  try clear c5b0
  try clear c5b1
  try clear c7
  try clear c7b0
  try clear c7b1
  try clear c8
  try clear c8b0
  try clear c8b1
  try clear hx228_0
  try clear hx229_0
  try clear p228
  try clear p229
  try clear q228
  try clear q229
  obtain ⟨kq, x26_2, rfl, HA, HJ2, HO_3, HB⟩ := hcut
  cases kq with
  | zero => exact absurd HA.out (by simp [parallaxref6_Host.j0])
  | succ kj2 =>
   have H := HA.out
   clear HA
   simp only [parallaxref6_Host.j0] at H
   by_cases c11 : x26_2 = true
   ·subst c11
    have H1 : (some false) = some r := by rw [if_pos rfl] at H; exact H
    clear H
    have H := H1
    clear H1
    obtain rfl := Option.some.inj H
    go_wp2
    go_ret
    exact ⟨by first | rfl | (simp [errW_none, errW_some] <;> rfl) | (simp [*, errW_none, errW_some] <;> rfl), by repeat (first | (with_reducible first | exact HB.out | apply below_alloc | apply pw_below_drewN | apply below_drew1) | exact HB.out)⟩
   ·replace c11 := Bool.eq_false_iff.mpr c11
    subst c11
    have H1 : (parallaxref6_Host.l0 kj2 t225 0) = some r := by rw [if_neg (show ¬ (false = true) by decide)] at H; exact H
    clear H
    have H := H1
    clear H1
    have H' := Aside0.mk H
    clear H
    go_wp2
    go_loopg [4] kj2 (fun kq v4 w' => ∃ (x4_2 : Int), v4 = .int .i64 x4_2 ∧ Aside0 (parallaxref6_Host.l0 kq t225 x4_2 = some r) ∧ Aside0 (kq ≤ kj2) ∧ Aside0 (Kd.R Kd.string 9 w' w.heap.size (fun _ => True) v226 t225) ∧ Aside0 (Below w.heap.size w w'))
    case atStart => exact ⟨(0), (by first | rfl | (simp; done) | (simp [*]; done)), H', ⟨Nat.le_refl _⟩, ⟨by (with_reducible repeat (first | apply Kd.R_alloc | apply Kd.R_drewN | apply Kd.R_drew)); exact HO_3.out⟩, ⟨by repeat (first | (with_reducible first | exact HB.out | apply below_alloc | apply pw_below_drewN | apply below_drew1) | exact HB.out)⟩⟩
    case round =>
     clear H'
     try clear c1
     try clear p2
     try clear q2
     try clear hx2
     try clear qi2
     try clear c3
     try clear c5
     try clear c5b0
     try clear c5b1
     try clear c7
     try clear c7b0
     try clear c7b1
     try clear c8
     try clear c8b0
     try clear c8b1
     try clear c11
     try clear hx228_0
     try clear hx229_0
     try clear p2
     try clear p228
     try clear p229
     try clear q2
     try clear q228
     try clear q229
     obtain ⟨x4_2, rfl, HA, HK2, HO_3, HB⟩ := hrel
     cases gk with
     | zero => exact absurd HA.out (by simp [parallaxref6_Host.l0])
     | succ k2 =>
      have H := HA.out
      clear HA
      simp only [parallaxref6_Host.l0] at H
      by_cases c12 : 0 < (t225.length : Int)
      ·rw [if_pos c12] at H
       have c12b0 : decide (0 < (t225.length : Int)) = true := decide_eq_true c12
       have c12b1 : decide (0 < t225.length) = true := decide_eq_true (by omega)
       clear c12
       by_cases c13 : x4_2 < ((rdOf ByteArray.empty t225 0).size : Int)
       ·rw [if_pos c13] at H
        have c13b0 : decide (x4_2 < ((rdOf ByteArray.empty t225 0).size : Int)) = true := decide_eq_true c13
        clear c13
        by_cases c14 : 0 ≤ x4_2
        ·rw [if_pos c14] at H
         have c14b0 : decide (0 ≤ x4_2) = true := decide_eq_true c14
         clear c14
         replace H := Option.bind_eq_some_iff.mp H
         obtain ⟨t236, A160, H⟩ := H
         replace H : (if t236 = true then (parallaxref6_Host.l0 k2 t225 (wrap64 (x4_2 + 1))) else ((parallaxref1_Digit.f (bt (rdOf ByteArray.empty t225 0) x4_2)).bind fun t237 => (if t237 = true then (parallaxref6_Host.l0 k2 t225 (wrap64 (x4_2 + 1))) else (if (bt (rdOf ByteArray.empty t225 0) x4_2) = 45 then (parallaxref6_Host.l0 k2 t225 (wrap64 (x4_2 + 1))) else (if (bt (rdOf ByteArray.empty t225 0) x4_2) = 46 then (parallaxref6_Host.l0 k2 t225 (wrap64 (x4_2 + 1))) else (if (bt (rdOf ByteArray.empty t225 0) x4_2) = 95 then (parallaxref6_Host.l0 k2 t225 (wrap64 (x4_2 + 1))) else (if (bt (rdOf ByteArray.empty t225 0) x4_2) = 126 then (parallaxref6_Host.l0 k2 t225 (wrap64 (x4_2 + 1))) else (some false)))))))) = some r := H
         have A16 := Aside0.mk A160
         clear A160
         by_cases c17 : t236 = true
         ·subst c17
          have H1 : (parallaxref6_Host.l0 k2 t225 (wrap64 (x4_2 + 1))) = some r := by rw [if_pos rfl] at H; exact H
          clear H
          have H := H1
          clear H1
          have H' := Aside0.mk H
          clear H
          obtain ⟨Ao18, co18, eo18⟩ := Kd.R_slice HO_3.out
          subst eo18
          have p230 : 0 ≤ (0 : Int) := (by omega)
          have q230 : 0 < (t225.length : Int) := of_decide_eq_true (by first | (with_reducible assumption) | assumption)
          obtain ⟨ad230, e230, hx230_0⟩ := Kd.at_string (Kd.R_reads' HO_3.out).2.2 0 p230 q230
          cases e230
          have qi230 : (0 < t225.length) = True := eq_true (by omega)
          (try rw [show ((0 : Int)).toNat = 0 from rfl] at hx230_0)
          (try rw [Addr.add_zero'] at hx230_0)
          replace p230 := eq_true p230
          replace q230 := eq_true q230
          have p235 : 0 ≤ (0 : Int) := (by omega)
          have q235 : 0 < (t225.length : Int) := of_decide_eq_true (by first | (with_reducible assumption) | assumption)
          obtain ⟨ad235, e235, hx235_0⟩ := Kd.at_string (Kd.R_reads' HO_3.out).2.2 0 p235 q235
          obtain rfl : ad230 = ad235 := (by injection e235)
          have qi235 : (0 < t225.length) = True := eq_true (by omega)
          (try rw [show ((0 : Int)).toNat = 0 from rfl] at hx235_0)
          (try rw [Addr.add_zero'] at hx235_0)
          replace p235 := eq_true p235
          replace q235 := eq_true q235
          have p15 : 0 ≤ (x4_2 : Int) := of_decide_eq_true (by first | (with_reducible assumption) | assumption)
          have q15 : x4_2 < ((rdOf ByteArray.empty t225 0).size : Int) := of_decide_eq_true (by first | (with_reducible assumption) | assumption)
          have hx15 := bt_at (rdOf ByteArray.empty t225 0) x4_2
          replace p15 := eq_true p15
          replace q15 := eq_true q15
          go_wp2_with (first | ((with_reducible refine gate_callee (f := 32) rfl ?_); refine goesL_ (some 41) rfl rfl Try.func32 (by kernel_rfl) rfl #[.int .u8 (bt (rdOf ByteArray.empty t225 0) x4_2)] rfl (by (try simp only [List.map_toArray, List.map_cons, List.map_nil]); first | done | rfl | (simp only [List.length_drop, List.length_take]; rfl)) ?_; (with_reducible refine (parallaxref1_Letter.calls (bt (rdOf ByteArray.empty t225 0) x4_2) true _ A16.out).mono ?_); rintro e w' ⟨rfl, ⟨nd, rfl⟩⟩; refine ⟨_, rfl, ?_⟩))
          go_roundg k2
          case measure => have := HJ2.out; have := HK2.out; omega
          case rel => exact ⟨(wrap64 (x4_2 + 1)), (by first | rfl | (simp; done) | (simp [*]; done)), H', ⟨by have := HJ2.out; have := HK2.out; omega⟩, ⟨by (with_reducible repeat (first | apply Kd.R_alloc | apply Kd.R_drewN | apply Kd.R_drew)); exact HO_3.out⟩, ⟨by repeat (first | (with_reducible first | exact HB.out | apply below_alloc | apply pw_below_drewN | apply below_drew1) | exact HB.out)⟩⟩
         ·replace c17 := Bool.eq_false_iff.mpr c17
          subst c17
          have H1 : ((parallaxref1_Digit.f (bt (rdOf ByteArray.empty t225 0) x4_2)).bind fun t237 => (if t237 = true then (parallaxref6_Host.l0 k2 t225 (wrap64 (x4_2 + 1))) else (if (bt (rdOf ByteArray.empty t225 0) x4_2) = 45 then (parallaxref6_Host.l0 k2 t225 (wrap64 (x4_2 + 1))) else (if (bt (rdOf ByteArray.empty t225 0) x4_2) = 46 then (parallaxref6_Host.l0 k2 t225 (wrap64 (x4_2 + 1))) else (if (bt (rdOf ByteArray.empty t225 0) x4_2) = 95 then (parallaxref6_Host.l0 k2 t225 (wrap64 (x4_2 + 1))) else (if (bt (rdOf ByteArray.empty t225 0) x4_2) = 126 then (parallaxref6_Host.l0 k2 t225 (wrap64 (x4_2 + 1))) else (some false))))))) = some r := by rw [if_neg (show ¬ (false = true) by decide)] at H; exact H
          clear H
          have H := H1
          clear H1
          replace H := Option.bind_eq_some_iff.mp H
          obtain ⟨t237, A190, H⟩ := H
          replace H : (if t237 = true then (parallaxref6_Host.l0 k2 t225 (wrap64 (x4_2 + 1))) else (if (bt (rdOf ByteArray.empty t225 0) x4_2) = 45 then (parallaxref6_Host.l0 k2 t225 (wrap64 (x4_2 + 1))) else (if (bt (rdOf ByteArray.empty t225 0) x4_2) = 46 then (parallaxref6_Host.l0 k2 t225 (wrap64 (x4_2 + 1))) else (if (bt (rdOf ByteArray.empty t225 0) x4_2) = 95 then (parallaxref6_Host.l0 k2 t225 (wrap64 (x4_2 + 1))) else (if (bt (rdOf ByteArray.empty t225 0) x4_2) = 126 then (parallaxref6_Host.l0 k2 t225 (wrap64 (x4_2 + 1))) else (some false)))))) = some r := H
          have A19 := Aside0.mk A190
          clear A190
          by_cases c20 : t237 = true
          ·subst c20
           have H1 : (parallaxref6_Host.l0 k2 t225 (wrap64 (x4_2 + 1))) = some r := by rw [if_pos rfl] at H; exact H
           clear H
           have H := H1
           clear H1
           have H' := Aside0.mk H
           clear H
           obtain ⟨Ao21, co21, eo21⟩ := Kd.R_slice HO_3.out
           subst eo21
           have p230 : 0 ≤ (0 : Int) := (by omega)
           have q230 : 0 < (t225.length : Int) := of_decide_eq_true (by first | (with_reducible assumption) | assumption)
           obtain ⟨ad230, e230, hx230_0⟩ := Kd.at_string (Kd.R_reads' HO_3.out).2.2 0 p230 q230
           cases e230
           have qi230 : (0 < t225.length) = True := eq_true (by omega)
           (try rw [show ((0 : Int)).toNat = 0 from rfl] at hx230_0)
           (try rw [Addr.add_zero'] at hx230_0)
           replace p230 := eq_true p230
           replace q230 := eq_true q230
           have p235 : 0 ≤ (0 : Int) := (by omega)
           have q235 : 0 < (t225.length : Int) := of_decide_eq_true (by first | (with_reducible assumption) | assumption)
           obtain ⟨ad235, e235, hx235_0⟩ := Kd.at_string (Kd.R_reads' HO_3.out).2.2 0 p235 q235
           obtain rfl : ad230 = ad235 := (by injection e235)
           have qi235 : (0 < t225.length) = True := eq_true (by omega)
           (try rw [show ((0 : Int)).toNat = 0 from rfl] at hx235_0)
           (try rw [Addr.add_zero'] at hx235_0)
           replace p235 := eq_true p235
           replace q235 := eq_true q235
           have p15 : 0 ≤ (x4_2 : Int) := of_decide_eq_true (by first | (with_reducible assumption) | assumption)
           have q15 : x4_2 < ((rdOf ByteArray.empty t225 0).size : Int) := of_decide_eq_true (by first | (with_reducible assumption) | assumption)
           have hx15 := bt_at (rdOf ByteArray.empty t225 0) x4_2
           replace p15 := eq_true p15
           replace q15 := eq_true q15
           go_wp2_with (first | ((with_reducible refine gate_callee (f := 32) rfl ?_); refine goesL_ (some 41) rfl rfl Try.func32 (by kernel_rfl) rfl #[.int .u8 (bt (rdOf ByteArray.empty t225 0) x4_2)] rfl (by (try simp only [List.map_toArray, List.map_cons, List.map_nil]); first | done | rfl | (simp only [List.length_drop, List.length_take]; rfl)) ?_; (with_reducible refine (parallaxref1_Letter.calls (bt (rdOf ByteArray.empty t225 0) x4_2) false _ A16.out).mono ?_); rintro e w' ⟨rfl, ⟨nd, rfl⟩⟩; refine ⟨_, rfl, ?_⟩) | (go_at_call 33; (with_reducible refine (parallaxref1_Digit.calls (bt (rdOf ByteArray.empty t225 0) x4_2) true _ A19.out).mono ?_); rintro e w' ⟨rfl, ⟨nd, rfl⟩⟩))
           go_roundg k2
           case measure => have := HJ2.out; have := HK2.out; omega
           case rel => exact ⟨(wrap64 (x4_2 + 1)), (by first | rfl | (simp; done) | (simp [*]; done)), H', ⟨by have := HJ2.out; have := HK2.out; omega⟩, ⟨by (with_reducible repeat (first | apply Kd.R_alloc | apply Kd.R_drewN | apply Kd.R_drew)); exact HO_3.out⟩, ⟨by repeat (first | (with_reducible first | exact HB.out | apply below_alloc | apply pw_below_drewN | apply below_drew1) | exact HB.out)⟩⟩
          ·replace c20 := Bool.eq_false_iff.mpr c20
           subst c20
           have H1 : (if (bt (rdOf ByteArray.empty t225 0) x4_2) = 45 then (parallaxref6_Host.l0 k2 t225 (wrap64 (x4_2 + 1))) else (if (bt (rdOf ByteArray.empty t225 0) x4_2) = 46 then (parallaxref6_Host.l0 k2 t225 (wrap64 (x4_2 + 1))) else (if (bt (rdOf ByteArray.empty t225 0) x4_2) = 95 then (parallaxref6_Host.l0 k2 t225 (wrap64 (x4_2 + 1))) else (if (bt (rdOf ByteArray.empty t225 0) x4_2) = 126 then (parallaxref6_Host.l0 k2 t225 (wrap64 (x4_2 + 1))) else (some false))))) = some r := by rw [if_neg (show ¬ (false = true) by decide)] at H; exact H
           clear H
           have H := H1
           clear H1
           by_cases c22 : (bt (rdOf ByteArray.empty t225 0) x4_2) = 45
           ·rw [if_pos c22] at H
            have c22b0 : ((bt (rdOf ByteArray.empty t225 0) x4_2) == 45) = true := beq_iff_eq.mpr c22
            have c22b1 : ((bt (rdOf ByteArray.empty t225 0) x4_2) != 45) = false := bne_eq_false_iff_eq.mpr c22
            clear c22
            have H' := Aside0.mk H
            clear H
            obtain ⟨Ao23, co23, eo23⟩ := Kd.R_slice HO_3.out
            subst eo23
            have p230 : 0 ≤ (0 : Int) := (by omega)
            have q230 : 0 < (t225.length : Int) := of_decide_eq_true (by first | (with_reducible assumption) | assumption)
            obtain ⟨ad230, e230, hx230_0⟩ := Kd.at_string (Kd.R_reads' HO_3.out).2.2 0 p230 q230
            cases e230
            have qi230 : (0 < t225.length) = True := eq_true (by omega)
            (try rw [show ((0 : Int)).toNat = 0 from rfl] at hx230_0)
            (try rw [Addr.add_zero'] at hx230_0)
            replace p230 := eq_true p230
            replace q230 := eq_true q230
            have p235 : 0 ≤ (0 : Int) := (by omega)
            have q235 : 0 < (t225.length : Int) := of_decide_eq_true (by first | (with_reducible assumption) | assumption)
            obtain ⟨ad235, e235, hx235_0⟩ := Kd.at_string (Kd.R_reads' HO_3.out).2.2 0 p235 q235
            obtain rfl : ad230 = ad235 := (by injection e235)
            have qi235 : (0 < t225.length) = True := eq_true (by omega)
            (try rw [show ((0 : Int)).toNat = 0 from rfl] at hx235_0)
            (try rw [Addr.add_zero'] at hx235_0)
            replace p235 := eq_true p235
            replace q235 := eq_true q235
            have p15 : 0 ≤ (x4_2 : Int) := of_decide_eq_true (by first | (with_reducible assumption) | assumption)
            have q15 : x4_2 < ((rdOf ByteArray.empty t225 0).size : Int) := of_decide_eq_true (by first | (with_reducible assumption) | assumption)
            have hx15 := bt_at (rdOf ByteArray.empty t225 0) x4_2
            replace p15 := eq_true p15
            replace q15 := eq_true q15
            go_wp2_with (first | ((with_reducible refine gate_callee (f := 32) rfl ?_); refine goesL_ (some 41) rfl rfl Try.func32 (by kernel_rfl) rfl #[.int .u8 (bt (rdOf ByteArray.empty t225 0) x4_2)] rfl (by (try simp only [List.map_toArray, List.map_cons, List.map_nil]); first | done | rfl | (simp only [List.length_drop, List.length_take]; rfl)) ?_; (with_reducible refine (parallaxref1_Letter.calls (bt (rdOf ByteArray.empty t225 0) x4_2) false _ A16.out).mono ?_); rintro e w' ⟨rfl, ⟨nd, rfl⟩⟩; refine ⟨_, rfl, ?_⟩) | (go_at_call 33; (with_reducible refine (parallaxref1_Digit.calls (bt (rdOf ByteArray.empty t225 0) x4_2) false _ A19.out).mono ?_); rintro e w' ⟨rfl, ⟨nd, rfl⟩⟩))
            go_roundg k2
            case measure => have := HJ2.out; have := HK2.out; omega
            case rel => exact ⟨(wrap64 (x4_2 + 1)), (by first | rfl | (simp; done) | (simp [*]; done)), H', ⟨by have := HJ2.out; have := HK2.out; omega⟩, ⟨by (with_reducible repeat (first | apply Kd.R_alloc | apply Kd.R_drewN | apply Kd.R_drew)); exact HO_3.out⟩, ⟨by repeat (first | (with_reducible first | exact HB.out | apply below_alloc | apply pw_below_drewN | apply below_drew1) | exact HB.out)⟩⟩
           ·rw [if_neg c22] at H
            have c22b0 : ((bt (rdOf ByteArray.empty t225 0) x4_2) == 45) = false := beq_eq_false_iff_ne.mpr c22
            have c22b1 : ((bt (rdOf ByteArray.empty t225 0) x4_2) != 45) = true := bne_iff_ne.mpr c22
            by_cases c24 : (bt (rdOf ByteArray.empty t225 0) x4_2) = 46
            ·rw [if_pos c24] at H
             have c24b0 : ((bt (rdOf ByteArray.empty t225 0) x4_2) == 46) = true := beq_iff_eq.mpr c24
             have c24b1 : ((bt (rdOf ByteArray.empty t225 0) x4_2) != 46) = false := bne_eq_false_iff_eq.mpr c24
             clear c24
             have H' := Aside0.mk H
             clear H
             obtain ⟨Ao25, co25, eo25⟩ := Kd.R_slice HO_3.out
             subst eo25
             have p230 : 0 ≤ (0 : Int) := (by omega)
             have q230 : 0 < (t225.length : Int) := of_decide_eq_true (by first | (with_reducible assumption) | assumption)
             obtain ⟨ad230, e230, hx230_0⟩ := Kd.at_string (Kd.R_reads' HO_3.out).2.2 0 p230 q230
             cases e230
             have qi230 : (0 < t225.length) = True := eq_true (by omega)
             (try rw [show ((0 : Int)).toNat = 0 from rfl] at hx230_0)
             (try rw [Addr.add_zero'] at hx230_0)
             replace p230 := eq_true p230
             replace q230 := eq_true q230
             have p235 : 0 ≤ (0 : Int) := (by omega)
             have q235 : 0 < (t225.length : Int) := of_decide_eq_true (by first | (with_reducible assumption) | assumption)
             obtain ⟨ad235, e235, hx235_0⟩ := Kd.at_string (Kd.R_reads' HO_3.out).2.2 0 p235 q235
             obtain rfl : ad230 = ad235 := (by injection e235)
             have qi235 : (0 < t225.length) = True := eq_true (by omega)
             (try rw [show ((0 : Int)).toNat = 0 from rfl] at hx235_0)
             (try rw [Addr.add_zero'] at hx235_0)
             replace p235 := eq_true p235
             replace q235 := eq_true q235
             have p15 : 0 ≤ (x4_2 : Int) := of_decide_eq_true (by first | (with_reducible assumption) | assumption)
             have q15 : x4_2 < ((rdOf ByteArray.empty t225 0).size : Int) := of_decide_eq_true (by first | (with_reducible assumption) | assumption)
             have hx15 := bt_at (rdOf ByteArray.empty t225 0) x4_2
             replace p15 := eq_true p15
             replace q15 := eq_true q15
             go_wp2_with (first | ((with_reducible refine gate_callee (f := 32) rfl ?_); refine goesL_ (some 41) rfl rfl Try.func32 (by kernel_rfl) rfl #[.int .u8 (bt (rdOf ByteArray.empty t225 0) x4_2)] rfl (by (try simp only [List.map_toArray, List.map_cons, List.map_nil]); first | done | rfl | (simp only [List.length_drop, List.length_take]; rfl)) ?_; (with_reducible refine (parallaxref1_Letter.calls (bt (rdOf ByteArray.empty t225 0) x4_2) false _ A16.out).mono ?_); rintro e w' ⟨rfl, ⟨nd, rfl⟩⟩; refine ⟨_, rfl, ?_⟩) | (go_at_call 33; (with_reducible refine (parallaxref1_Digit.calls (bt (rdOf ByteArray.empty t225 0) x4_2) false _ A19.out).mono ?_); rintro e w' ⟨rfl, ⟨nd, rfl⟩⟩))
             go_roundg k2
             case measure => have := HJ2.out; have := HK2.out; omega
             case rel => exact ⟨(wrap64 (x4_2 + 1)), (by first | rfl | (simp; done) | (simp [*]; done)), H', ⟨by have := HJ2.out; have := HK2.out; omega⟩, ⟨by (with_reducible repeat (first | apply Kd.R_alloc | apply Kd.R_drewN | apply Kd.R_drew)); exact HO_3.out⟩, ⟨by repeat (first | (with_reducible first | exact HB.out | apply below_alloc | apply pw_below_drewN | apply below_drew1) | exact HB.out)⟩⟩
            ·rw [if_neg c24] at H
             have c24b0 : ((bt (rdOf ByteArray.empty t225 0) x4_2) == 46) = false := beq_eq_false_iff_ne.mpr c24
             have c24b1 : ((bt (rdOf ByteArray.empty t225 0) x4_2) != 46) = true := bne_iff_ne.mpr c24
             by_cases c26 : (bt (rdOf ByteArray.empty t225 0) x4_2) = 95
             ·rw [if_pos c26] at H
              have c26b0 : ((bt (rdOf ByteArray.empty t225 0) x4_2) == 95) = true := beq_iff_eq.mpr c26
              have c26b1 : ((bt (rdOf ByteArray.empty t225 0) x4_2) != 95) = false := bne_eq_false_iff_eq.mpr c26
              clear c26
              have H' := Aside0.mk H
              clear H
              obtain ⟨Ao27, co27, eo27⟩ := Kd.R_slice HO_3.out
              subst eo27
              have p230 : 0 ≤ (0 : Int) := (by omega)
              have q230 : 0 < (t225.length : Int) := of_decide_eq_true (by first | (with_reducible assumption) | assumption)
              obtain ⟨ad230, e230, hx230_0⟩ := Kd.at_string (Kd.R_reads' HO_3.out).2.2 0 p230 q230
              cases e230
              have qi230 : (0 < t225.length) = True := eq_true (by omega)
              (try rw [show ((0 : Int)).toNat = 0 from rfl] at hx230_0)
              (try rw [Addr.add_zero'] at hx230_0)
              replace p230 := eq_true p230
              replace q230 := eq_true q230
              have p235 : 0 ≤ (0 : Int) := (by omega)
              have q235 : 0 < (t225.length : Int) := of_decide_eq_true (by first | (with_reducible assumption) | assumption)
              obtain ⟨ad235, e235, hx235_0⟩ := Kd.at_string (Kd.R_reads' HO_3.out).2.2 0 p235 q235
              obtain rfl : ad230 = ad235 := (by injection e235)
              have qi235 : (0 < t225.length) = True := eq_true (by omega)
              (try rw [show ((0 : Int)).toNat = 0 from rfl] at hx235_0)
              (try rw [Addr.add_zero'] at hx235_0)
              replace p235 := eq_true p235
              replace q235 := eq_true q235
              have p15 : 0 ≤ (x4_2 : Int) := of_decide_eq_true (by first | (with_reducible assumption) | assumption)
              have q15 : x4_2 < ((rdOf ByteArray.empty t225 0).size : Int) := of_decide_eq_true (by first | (with_reducible assumption) | assumption)
              have hx15 := bt_at (rdOf ByteArray.empty t225 0) x4_2
              replace p15 := eq_true p15
              replace q15 := eq_true q15
              go_wp2_with (first | ((with_reducible refine gate_callee (f := 32) rfl ?_); refine goesL_ (some 41) rfl rfl Try.func32 (by kernel_rfl) rfl #[.int .u8 (bt (rdOf ByteArray.empty t225 0) x4_2)] rfl (by (try simp only [List.map_toArray, List.map_cons, List.map_nil]); first | done | rfl | (simp only [List.length_drop, List.length_take]; rfl)) ?_; (with_reducible refine (parallaxref1_Letter.calls (bt (rdOf ByteArray.empty t225 0) x4_2) false _ A16.out).mono ?_); rintro e w' ⟨rfl, ⟨nd, rfl⟩⟩; refine ⟨_, rfl, ?_⟩) | (go_at_call 33; (with_reducible refine (parallaxref1_Digit.calls (bt (rdOf ByteArray.empty t225 0) x4_2) false _ A19.out).mono ?_); rintro e w' ⟨rfl, ⟨nd, rfl⟩⟩))
              go_roundg k2
              case measure => have := HJ2.out; have := HK2.out; omega
              case rel => exact ⟨(wrap64 (x4_2 + 1)), (by first | rfl | (simp; done) | (simp [*]; done)), H', ⟨by have := HJ2.out; have := HK2.out; omega⟩, ⟨by (with_reducible repeat (first | apply Kd.R_alloc | apply Kd.R_drewN | apply Kd.R_drew)); exact HO_3.out⟩, ⟨by repeat (first | (with_reducible first | exact HB.out | apply below_alloc | apply pw_below_drewN | apply below_drew1) | exact HB.out)⟩⟩
             ·rw [if_neg c26] at H
              have c26b0 : ((bt (rdOf ByteArray.empty t225 0) x4_2) == 95) = false := beq_eq_false_iff_ne.mpr c26
              have c26b1 : ((bt (rdOf ByteArray.empty t225 0) x4_2) != 95) = true := bne_iff_ne.mpr c26
              by_cases c28 : (bt (rdOf ByteArray.empty t225 0) x4_2) = 126
              ·rw [if_pos c28] at H
               have c28b0 : ((bt (rdOf ByteArray.empty t225 0) x4_2) == 126) = true := beq_iff_eq.mpr c28
               have c28b1 : ((bt (rdOf ByteArray.empty t225 0) x4_2) != 126) = false := bne_eq_false_iff_eq.mpr c28
               clear c28
               have H' := Aside0.mk H
               clear H
               obtain ⟨Ao29, co29, eo29⟩ := Kd.R_slice HO_3.out
               subst eo29
               have p230 : 0 ≤ (0 : Int) := (by omega)
               have q230 : 0 < (t225.length : Int) := of_decide_eq_true (by first | (with_reducible assumption) | assumption)
               obtain ⟨ad230, e230, hx230_0⟩ := Kd.at_string (Kd.R_reads' HO_3.out).2.2 0 p230 q230
               cases e230
               have qi230 : (0 < t225.length) = True := eq_true (by omega)
               (try rw [show ((0 : Int)).toNat = 0 from rfl] at hx230_0)
               (try rw [Addr.add_zero'] at hx230_0)
               replace p230 := eq_true p230
               replace q230 := eq_true q230
               have p235 : 0 ≤ (0 : Int) := (by omega)
               have q235 : 0 < (t225.length : Int) := of_decide_eq_true (by first | (with_reducible assumption) | assumption)
               obtain ⟨ad235, e235, hx235_0⟩ := Kd.at_string (Kd.R_reads' HO_3.out).2.2 0 p235 q235
               obtain rfl : ad230 = ad235 := (by injection e235)
               have qi235 : (0 < t225.length) = True := eq_true (by omega)
               (try rw [show ((0 : Int)).toNat = 0 from rfl] at hx235_0)
               (try rw [Addr.add_zero'] at hx235_0)
               replace p235 := eq_true p235
               replace q235 := eq_true q235
               have p15 : 0 ≤ (x4_2 : Int) := of_decide_eq_true (by first | (with_reducible assumption) | assumption)
               have q15 : x4_2 < ((rdOf ByteArray.empty t225 0).size : Int) := of_decide_eq_true (by first | (with_reducible assumption) | assumption)
               have hx15 := bt_at (rdOf ByteArray.empty t225 0) x4_2
               replace p15 := eq_true p15
               replace q15 := eq_true q15
               go_wp2_with (first | ((with_reducible refine gate_callee (f := 32) rfl ?_); refine goesL_ (some 41) rfl rfl Try.func32 (by kernel_rfl) rfl #[.int .u8 (bt (rdOf ByteArray.empty t225 0) x4_2)] rfl (by (try simp only [List.map_toArray, List.map_cons, List.map_nil]); first | done | rfl | (simp only [List.length_drop, List.length_take]; rfl)) ?_; (with_reducible refine (parallaxref1_Letter.calls (bt (rdOf ByteArray.empty t225 0) x4_2) false _ A16.out).mono ?_); rintro e w' ⟨rfl, ⟨nd, rfl⟩⟩; refine ⟨_, rfl, ?_⟩) | (go_at_call 33; (with_reducible refine (parallaxref1_Digit.calls (bt (rdOf ByteArray.empty t225 0) x4_2) false _ A19.out).mono ?_); rintro e w' ⟨rfl, ⟨nd, rfl⟩⟩))
               go_roundg k2
               case measure => have := HJ2.out; have := HK2.out; omega
               case rel => exact ⟨(wrap64 (x4_2 + 1)), (by first | rfl | (simp; done) | (simp [*]; done)), H', ⟨by have := HJ2.out; have := HK2.out; omega⟩, ⟨by (with_reducible repeat (first | apply Kd.R_alloc | apply Kd.R_drewN | apply Kd.R_drew)); exact HO_3.out⟩, ⟨by repeat (first | (with_reducible first | exact HB.out | apply below_alloc | apply pw_below_drewN | apply below_drew1) | exact HB.out)⟩⟩
              ·rw [if_neg c28] at H
               have c28b0 : ((bt (rdOf ByteArray.empty t225 0) x4_2) == 126) = false := beq_eq_false_iff_ne.mpr c28
               have c28b1 : ((bt (rdOf ByteArray.empty t225 0) x4_2) != 126) = true := bne_iff_ne.mpr c28
               obtain rfl := Option.some.inj H
               obtain ⟨Ao30, co30, eo30⟩ := Kd.R_slice HO_3.out
               subst eo30
               have p230 : 0 ≤ (0 : Int) := (by omega)
               have q230 : 0 < (t225.length : Int) := of_decide_eq_true (by first | (with_reducible assumption) | assumption)
               obtain ⟨ad230, e230, hx230_0⟩ := Kd.at_string (Kd.R_reads' HO_3.out).2.2 0 p230 q230
               cases e230
               have qi230 : (0 < t225.length) = True := eq_true (by omega)
               (try rw [show ((0 : Int)).toNat = 0 from rfl] at hx230_0)
               (try rw [Addr.add_zero'] at hx230_0)
               replace p230 := eq_true p230
               replace q230 := eq_true q230
               have p235 : 0 ≤ (0 : Int) := (by omega)
               have q235 : 0 < (t225.length : Int) := of_decide_eq_true (by first | (with_reducible assumption) | assumption)
               obtain ⟨ad235, e235, hx235_0⟩ := Kd.at_string (Kd.R_reads' HO_3.out).2.2 0 p235 q235
               obtain rfl : ad230 = ad235 := (by injection e235)
               have qi235 : (0 < t225.length) = True := eq_true (by omega)
               (try rw [show ((0 : Int)).toNat = 0 from rfl] at hx235_0)
               (try rw [Addr.add_zero'] at hx235_0)
               replace p235 := eq_true p235
               replace q235 := eq_true q235
               have p15 : 0 ≤ (x4_2 : Int) := of_decide_eq_true (by first | (with_reducible assumption) | assumption)
               have q15 : x4_2 < ((rdOf ByteArray.empty t225 0).size : Int) := of_decide_eq_true (by first | (with_reducible assumption) | assumption)
               have hx15 := bt_at (rdOf ByteArray.empty t225 0) x4_2
               replace p15 := eq_true p15
               replace q15 := eq_true q15
               go_wp2_with (first | ((with_reducible refine gate_callee (f := 32) rfl ?_); refine goesL_ (some 41) rfl rfl Try.func32 (by kernel_rfl) rfl #[.int .u8 (bt (rdOf ByteArray.empty t225 0) x4_2)] rfl (by (try simp only [List.map_toArray, List.map_cons, List.map_nil]); first | done | rfl | (simp only [List.length_drop, List.length_take]; rfl)) ?_; (with_reducible refine (parallaxref1_Letter.calls (bt (rdOf ByteArray.empty t225 0) x4_2) false _ A16.out).mono ?_); rintro e w' ⟨rfl, ⟨nd, rfl⟩⟩; refine ⟨_, rfl, ?_⟩) | (go_at_call 33; (with_reducible refine (parallaxref1_Digit.calls (bt (rdOf ByteArray.empty t225 0) x4_2) false _ A19.out).mono ?_); rintro e w' ⟨rfl, ⟨nd, rfl⟩⟩))
               go_ret
               exact ⟨by first | rfl | (simp [errW_none, errW_some] <;> rfl) | (simp [*, errW_none, errW_some] <;> rfl), by repeat (first | (with_reducible first | exact HB.out | apply below_alloc | apply pw_below_drewN | apply below_drew1) | exact HB.out)⟩
        ·rw [if_neg c14] at H
         exact absurd H (by simp)
       ·rw [if_neg c13] at H
        have c13b0 : decide (x4_2 < ((rdOf ByteArray.empty t225 0).size : Int)) = false := decide_eq_false c13
        clear c13
        by_cases c31 : (t225.length : Int) = 1
        ·rw [if_pos c31] at H
         have c31b0 : ((t225.length : Int) == 1) = true := beq_iff_eq.mpr c31
         have c31b1 : ((t225.length : Int) != 1) = false := bne_eq_false_iff_eq.mpr c31
         clear c31
         obtain rfl := Option.some.inj H
         obtain ⟨Ao32, co32, eo32⟩ := Kd.R_slice HO_3.out
         subst eo32
         have p230 : 0 ≤ (0 : Int) := (by omega)
         have q230 : 0 < (t225.length : Int) := of_decide_eq_true (by first | (with_reducible assumption) | assumption)
         obtain ⟨ad230, e230, hx230_0⟩ := Kd.at_string (Kd.R_reads' HO_3.out).2.2 0 p230 q230
         cases e230
         have qi230 : (0 < t225.length) = True := eq_true (by omega)
         (try rw [show ((0 : Int)).toNat = 0 from rfl] at hx230_0)
         (try rw [Addr.add_zero'] at hx230_0)
         replace p230 := eq_true p230
         replace q230 := eq_true q230
         go_wp2
         go_ret
         exact ⟨by first | rfl | (simp [errW_none, errW_some] <;> rfl) | (simp [*, errW_none, errW_some] <;> rfl), by repeat (first | (with_reducible first | exact HB.out | apply below_alloc | apply pw_below_drewN | apply below_drew1) | exact HB.out)⟩
        ·rw [if_neg c31] at H
         have c31b0 : ((t225.length : Int) == 1) = false := beq_eq_false_iff_ne.mpr c31
         have c31b1 : ((t225.length : Int) != 1) = true := bne_iff_ne.mpr c31
         by_cases c33 : 1 < (t225.length : Int)
         ·rw [if_pos c33] at H
          have c33b0 : decide (1 < (t225.length : Int)) = true := decide_eq_true c33
          have c33b1 : decide (1 < t225.length) = true := decide_eq_true (by omega)
          clear c33
          replace H := Option.bind_eq_some_iff.mp H
          obtain ⟨⟨t232, t233⟩, A340, H⟩ := H
          replace H : (if t233 = 0 then (some (decide (((rdOf ByteArray.empty t225 1).size : Int) ≤ 5))) else (some false)) = some r := H
          have A34 := Aside0.mk A340
          clear A340
          by_cases c35 : t233 = 0
          ·rw [if_pos c35] at H
           have c35b0 : (t233 == 0) = true := beq_iff_eq.mpr c35
           have c35b1 : (t233 != 0) = false := bne_eq_false_iff_eq.mpr c35
           clear c35
           obtain rfl := Option.some.inj H
           obtain ⟨Ao36, co36, eo36⟩ := Kd.R_slice HO_3.out
           subst eo36
           have p230 : 0 ≤ (0 : Int) := (by omega)
           have q230 : 0 < (t225.length : Int) := of_decide_eq_true (by first | (with_reducible assumption) | assumption)
           obtain ⟨ad230, e230, hx230_0⟩ := Kd.at_string (Kd.R_reads' HO_3.out).2.2 0 p230 q230
           cases e230
           have qi230 : (0 < t225.length) = True := eq_true (by omega)
           (try rw [show ((0 : Int)).toNat = 0 from rfl] at hx230_0)
           (try rw [Addr.add_zero'] at hx230_0)
           replace p230 := eq_true p230
           replace q230 := eq_true q230
           have p231 : 0 ≤ (1 : Int) := (by omega)
           have q231 : 1 < (t225.length : Int) := of_decide_eq_true (by first | (with_reducible assumption) | assumption)
           obtain ⟨ad231, e231, hx231_0⟩ := Kd.at_string (Kd.R_reads' HO_3.out).2.2 1 p231 q231
           obtain rfl : ad230 = ad231 := (by injection e231)
           (try simp only [show (1 : Int).toNat = 1 from rfl, Nat.reduceMul, Nat.reduceEqDiff, Go.Addr.add, ↓reduceIte] at hx231_0)
           have qi231 : (1 < t225.length) = True := eq_true (by omega)
           (try rw [show ((1 : Int)).toNat = 1 from rfl] at hx231_0)
           replace p231 := eq_true p231
           replace q231 := eq_true q231
           go_wp2_with (first | ((with_reducible refine gate_callee (f := 34) rfl ?_); refine goesL_ (some 71) rfl rfl Try.func34 (by kernel_rfl) rfl #[.string (rdOf ByteArray.empty t225 1), .int .i64 65535] rfl (by (try simp only [List.map_toArray, List.map_cons, List.map_nil]); first | done | rfl | (simp only [List.length_drop, List.length_take]; rfl)) ?_; (with_reducible refine (parallaxref1_Dec.calls k2 (rdOf ByteArray.empty t225 1) 65535 t232 t233 _ A34.out).mono ?_); rintro e w37 ⟨rfl, hb⟩; refine ⟨_, rfl, ?_⟩; have n0_ := Aside0.mk (Kd.R_below (by (with_reducible repeat (first | apply Kd.R_alloc | apply Kd.R_drewN | apply Kd.R_drew)); exact HO_3.out) hb); have n1_ := Aside0.mk (below_step (by repeat (first | (with_reducible first | exact HB.out | apply below_alloc | apply pw_below_drewN | apply below_drew1) | exact HB.out)) hb); clear HO_3; clear HB; have HO_3 := n0_; have HB := n1_; clear n0_ n1_; (try clear hb); (try clear hb2); (try clear hk); (try clear hi); have p234 : 0 ≤ (1 : Int) := (by omega); have q234 : 1 < (t225.length : Int) := of_decide_eq_true (by first | (with_reducible assumption) | assumption); obtain ⟨ad234, e234, hx234_0⟩ := Kd.at_string (Kd.R_reads' HO_3.out).2.2 1 p234 q234; obtain rfl : ad230 = ad234 := (by injection e234); (try simp only [show (1 : Int).toNat = 1 from rfl, Nat.reduceMul, Nat.reduceEqDiff, Go.Addr.add, ↓reduceIte] at hx234_0); have qi234 : (1 < t225.length) = True := eq_true (by omega); (try rw [show ((1 : Int)).toNat = 1 from rfl] at hx234_0); replace p234 := eq_true p234; replace q234 := eq_true q234))
           go_ret
           exact ⟨by first | rfl | (simp [errW_none, errW_some] <;> rfl) | (simp [*, errW_none, errW_some] <;> rfl), by repeat (first | (with_reducible first | exact HB.out | apply below_alloc | apply pw_below_drewN | apply below_drew1) | exact HB.out)⟩
          ·rw [if_neg c35] at H
           have c35b0 : (t233 == 0) = false := beq_eq_false_iff_ne.mpr c35
           have c35b1 : (t233 != 0) = true := bne_iff_ne.mpr c35
           obtain rfl := Option.some.inj H
           obtain ⟨Ao38, co38, eo38⟩ := Kd.R_slice HO_3.out
           subst eo38
           have p230 : 0 ≤ (0 : Int) := (by omega)
           have q230 : 0 < (t225.length : Int) := of_decide_eq_true (by first | (with_reducible assumption) | assumption)
           obtain ⟨ad230, e230, hx230_0⟩ := Kd.at_string (Kd.R_reads' HO_3.out).2.2 0 p230 q230
           cases e230
           have qi230 : (0 < t225.length) = True := eq_true (by omega)
           (try rw [show ((0 : Int)).toNat = 0 from rfl] at hx230_0)
           (try rw [Addr.add_zero'] at hx230_0)
           replace p230 := eq_true p230
           replace q230 := eq_true q230
           have p231 : 0 ≤ (1 : Int) := (by omega)
           have q231 : 1 < (t225.length : Int) := of_decide_eq_true (by first | (with_reducible assumption) | assumption)
           obtain ⟨ad231, e231, hx231_0⟩ := Kd.at_string (Kd.R_reads' HO_3.out).2.2 1 p231 q231
           obtain rfl : ad230 = ad231 := (by injection e231)
           (try simp only [show (1 : Int).toNat = 1 from rfl, Nat.reduceMul, Nat.reduceEqDiff, Go.Addr.add, ↓reduceIte] at hx231_0)
           have qi231 : (1 < t225.length) = True := eq_true (by omega)
           (try rw [show ((1 : Int)).toNat = 1 from rfl] at hx231_0)
           replace p231 := eq_true p231
           replace q231 := eq_true q231
           go_wp2_with (first | ((with_reducible refine gate_callee (f := 34) rfl ?_); refine goesL_ (some 71) rfl rfl Try.func34 (by kernel_rfl) rfl #[.string (rdOf ByteArray.empty t225 1), .int .i64 65535] rfl (by (try simp only [List.map_toArray, List.map_cons, List.map_nil]); first | done | rfl | (simp only [List.length_drop, List.length_take]; rfl)) ?_; (with_reducible refine (parallaxref1_Dec.calls k2 (rdOf ByteArray.empty t225 1) 65535 t232 t233 _ A34.out).mono ?_); rintro e w39 ⟨rfl, hb⟩; refine ⟨_, rfl, ?_⟩; have n0_ := Aside0.mk (Kd.R_below (by (with_reducible repeat (first | apply Kd.R_alloc | apply Kd.R_drewN | apply Kd.R_drew)); exact HO_3.out) hb); have n1_ := Aside0.mk (below_step (by repeat (first | (with_reducible first | exact HB.out | apply below_alloc | apply pw_below_drewN | apply below_drew1) | exact HB.out)) hb); clear HO_3; clear HB; have HO_3 := n0_; have HB := n1_; clear n0_ n1_; (try clear hb); (try clear hb2); (try clear hk); (try clear hi)))
           go_ret
           exact ⟨by first | rfl | (simp [errW_none, errW_some] <;> rfl) | (simp [*, errW_none, errW_some] <;> rfl), by repeat (first | (with_reducible first | exact HB.out | apply below_alloc | apply pw_below_drewN | apply below_drew1) | exact HB.out)⟩
         ·rw [if_neg c33] at H
          exact absurd H (by simp)
      ·rw [if_neg c12] at H
       exact absurd H (by simp)

/-! ### parallaxref6_port: function 25 -/
def parallaxref6_port.l0 : Nat → ByteArray → Int → Option (Bool)
 | 0, _, _ => none
 | k + 1, x0, x3 => if x3 < (x0.size : Int) then (if 0 ≤ x3 then (if (bt x0 x3) = 58 then (some true) else (parallaxref6_port.l0 k x0 (wrap64 (x3 + 1)))) else (none)) else (some false)
def parallaxref6_port.f (k : Nat) (a0 : ByteArray) : Option (Bool) := parallaxref6_port.l0 k a0 0
theorem parallaxref6_port.mono_l : ∀ k, (∀ y0 y1, LeO (parallaxref6_port.l0 k y0 y1) (parallaxref6_port.l0 (k + 1) y0 y1))
 | 0 => fun _ _ r h => by simp [parallaxref6_port.l0] at h
 | k + 1 => by
  have ih0 := parallaxref6_port.mono_l k
  ·intro y0 y1
   unfold parallaxref6_port.l0
   repeat' first
   | (with_reducible exact ih0 _ _)
   | (with_reducible exact LeO.refl _)
   | (with_reducible exact LeO.none _)
   | (with_reducible refine LeO.ite ?_ ?_)
   | (with_reducible refine LeO.bind ?_ (fun _ => ?_))
   | exact ih0 _ _
   | exact LeO.none _
   | refine LeO.ite ?_ ?_
   | refine LeO.bind ?_ (fun _ => ?_)
theorem parallaxref6_port.mono : ∀ a0 k, LeO (parallaxref6_port.f k a0) (parallaxref6_port.f (k + 1) a0) := by
 intro a0 k
 have ih0 := parallaxref6_port.mono_l k
 unfold parallaxref6_port.f
 repeat' first
   | (with_reducible exact ih0 _ _)
   | (with_reducible exact LeO.refl _)
   | (with_reducible exact LeO.none _)
   | (with_reducible refine LeO.ite ?_ ?_)
   | (with_reducible refine LeO.bind ?_ (fun _ => ?_))
   | exact ih0 _ _
   | exact LeO.none _
   | refine LeO.ite ?_ ?_
   | refine LeO.bind ?_ (fun _ => ?_)
set_option maxHeartbeats 8000000 in
set_option maxRecDepth 100000 in
theorem parallaxref6_port.calls (k : Nat) (a0 : ByteArray) (r : Bool) (w : World) (h : parallaxref6_port.f k a0 = some r) :
  Calls Try.prog 25 #[.string a0] w fun e w' => e = .returned (.bool r) ∧ Drawn0 w w' := by
 have H : (parallaxref6_port.l0 k a0 0) = some r := h
 clear h
 have H' := Aside0.mk H
 clear H
 go_enter Try.func25, Try.ntmps25
 go_wp2
 go_loopg [3] k (fun kq v3 w' => ∃ (x3_1 : Int), v3 = .int .i64 x3_1 ∧ Aside0 (parallaxref6_port.l0 kq a0 x3_1 = some r) ∧ Aside0 (kq ≤ k) ∧ Drawn0 w w')
 case atStart => exact ⟨(0), (by first | rfl | (simp; done) | (simp [*]; done)), H', ⟨Nat.le_refl _⟩, by repeat (first | exact Drawn0.refl _ | apply Drawn0.step)⟩
 case round =>
  clear H'
  obtain ⟨x3_1, rfl, HA, HK1, ⟨m1, rfl⟩⟩ := hrel
  cases gk with
  | zero => exact absurd HA.out (by simp [parallaxref6_port.l0])
  | succ k1 =>
   have H := HA.out
   clear HA
   simp only [parallaxref6_port.l0] at H
   by_cases c2 : x3_1 < (a0.size : Int)
   ·rw [if_pos c2] at H
    have c2b0 : decide (x3_1 < (a0.size : Int)) = true := decide_eq_true c2
    clear c2
    by_cases c3 : 0 ≤ x3_1
    ·rw [if_pos c3] at H
     have c3b0 : decide (0 ≤ x3_1) = true := decide_eq_true c3
     clear c3
     by_cases c5 : (bt a0 x3_1) = 58
     ·rw [if_pos c5] at H
      have c5b0 : ((bt a0 x3_1) == 58) = true := beq_iff_eq.mpr c5
      have c5b1 : ((bt a0 x3_1) != 58) = false := bne_eq_false_iff_eq.mpr c5
      clear c5
      obtain rfl := Option.some.inj H
      have p4 : 0 ≤ (x3_1 : Int) := of_decide_eq_true (by first | (with_reducible assumption) | assumption)
      have q4 : x3_1 < (a0.size : Int) := of_decide_eq_true (by first | (with_reducible assumption) | assumption)
      have hx4 := bt_at a0 x3_1
      replace p4 := eq_true p4
      replace q4 := eq_true q4
      go_wp2
      go_ret
      exact ⟨by first | rfl | (simp; done) | (simp [*]; done), by repeat (first | exact Drawn0.refl _ | apply Drawn0.step)⟩
     ·rw [if_neg c5] at H
      have c5b0 : ((bt a0 x3_1) == 58) = false := beq_eq_false_iff_ne.mpr c5
      have c5b1 : ((bt a0 x3_1) != 58) = true := bne_iff_ne.mpr c5
      have H' := Aside0.mk H
      clear H
      have p4 : 0 ≤ (x3_1 : Int) := of_decide_eq_true (by first | (with_reducible assumption) | assumption)
      have q4 : x3_1 < (a0.size : Int) := of_decide_eq_true (by first | (with_reducible assumption) | assumption)
      have hx4 := bt_at a0 x3_1
      replace p4 := eq_true p4
      replace q4 := eq_true q4
      go_wp2
      go_roundg k1
      case measure => have := HK1.out; omega
      case rel => exact ⟨(wrap64 (x3_1 + 1)), (by first | rfl | (simp; done) | (simp [*]; done)), H', ⟨by have := HK1.out; omega⟩, by repeat (first | exact Drawn0.refl _ | apply Drawn0.step)⟩
    ·rw [if_neg c3] at H
     exact absurd H (by simp)
   ·rw [if_neg c2] at H
    have c2b0 : decide (x3_1 < (a0.size : Int)) = false := decide_eq_false c2
    clear c2
    obtain rfl := Option.some.inj H
    go_wp2
    go_ret
    exact ⟨by first | rfl | (simp; done) | (simp [*]; done), by repeat (first | exact Drawn0.refl _ | apply Drawn0.step)⟩

/-! ### parallaxref1_Lower: function 44 -/
def parallaxref1_Lower.f (a0 : ByteArray) : Option (ByteArray) := if a0.size ≤ 9223372036854775807 then some (Low.lower a0) else none
theorem parallaxref1_Lower.calls (a0 : ByteArray) (r : ByteArray) (w : World) (h : parallaxref1_Lower.f a0 = some r) :
  Calls Try.prog 44 #[.string a0] w fun e w' => e = .returned (.string r) ∧ Below w.heap.size w w' := by
 unfold parallaxref1_Lower.f at h
 split at h
 ·rename_i hc
  obtain rfl := Option.some.inj h
  exact (Hand.parallaxref1_Lower a0 w hc).mono fun e w' hq => hq
 ·cases h

/-! ### parallaxref1_Same: function 26 -/
def parallaxref1_Same.f (a0 : ByteArray) (a1 : ByteArray) : Option (Bool) := (parallaxref1_Lower.f a0).bind fun t238 => ((parallaxref1_Lower.f a1).bind fun t239 => (some (t238.toList == t239.toList)))
set_option maxHeartbeats 8000000 in
set_option maxRecDepth 100000 in
theorem parallaxref1_Same.calls (a0 : ByteArray) (a1 : ByteArray) (r : Bool) (w : World) (h : parallaxref1_Same.f a0 a1 = some r) :
  Calls Try.prog 26 #[.string a0, .string a1] w fun e w' => e = .returned (.bool r) ∧ Below w.heap.size w w' := by
 have HB := Aside0.mk (Below.refl w.heap.size w)
 have H : ((parallaxref1_Lower.f a0).bind fun t238 => ((parallaxref1_Lower.f a1).bind fun t239 => (some (t238.toList == t239.toList)))) = some r := h
 clear h
 replace H := Option.bind_eq_some_iff.mp H
 obtain ⟨t238, A30, H⟩ := H
 replace H : ((parallaxref1_Lower.f a1).bind fun t239 => (some (t238.toList == t239.toList))) = some r := H
 have A3 := Aside0.mk A30
 clear A30
 replace H := Option.bind_eq_some_iff.mp H
 obtain ⟨t239, A40, H⟩ := H
 replace H : (some (t238.toList == t239.toList)) = some r := H
 have A4 := Aside0.mk A40
 clear A40
 obtain rfl := Option.some.inj H
 go_enter Try.func26, Try.ntmps26
 go_wp2_with (first | ((with_reducible refine gate_callee (f := 44) rfl ?_); refine goesL_ (some 6) rfl rfl Try.func44 (by kernel_rfl) rfl #[.string a0] rfl (by (try simp only [List.map_toArray, List.map_cons, List.map_nil]); first | done | rfl | (simp only [List.length_drop, List.length_take]; rfl)) ?_; (with_reducible refine (parallaxref1_Lower.calls a0 t238 _ A3.out).mono ?_); rintro e w5 ⟨rfl, hb⟩; refine ⟨_, rfl, ?_⟩; have n0_ := Aside0.mk (below_step (by repeat (first | (with_reducible first | exact HB.out | apply below_alloc | apply pw_below_drewN | apply below_drew1) | exact HB.out)) hb); clear HB; have HB := n0_; clear n0_; (try clear hb); (try clear hb2); (try clear hk); (try clear hi)) | ((with_reducible refine gate_callee (f := 44) rfl ?_); refine goesL_ (some 8) rfl rfl Try.func44 (by kernel_rfl) rfl #[.string a1] rfl (by (try simp only [List.map_toArray, List.map_cons, List.map_nil]); first | done | rfl | (simp only [List.length_drop, List.length_take]; rfl)) ?_; (with_reducible refine (parallaxref1_Lower.calls a1 t239 _ A4.out).mono ?_); rintro e w6 ⟨rfl, hb⟩; refine ⟨_, rfl, ?_⟩; have n0_ := Aside0.mk (below_step (by repeat (first | (with_reducible first | exact HB.out | apply below_alloc | apply pw_below_drewN | apply below_drew1) | exact HB.out)) hb); clear HB; have HB := n0_; clear n0_; (try clear hb); (try clear hb2); (try clear hk); (try clear hi)))
 go_ret
 exact ⟨by first | rfl | (simp [errW_none, errW_some] <;> rfl) | (simp [*, errW_none, errW_some] <;> rfl), by repeat (first | (with_reducible first | exact HB.out | apply below_alloc | apply pw_below_drewN | apply below_drew1) | exact HB.out)⟩

end Go.Proofs.Ytnnehbbfokoklaa.PTargetTells
