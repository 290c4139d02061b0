-- Written by a program of this session (wip/tools/myprint.sh)
import Derived.Test.YtnnehbbfokoklaaPTargetHostsx0
import Derived.Test.YtnnehbbfokoklaaPTargetHostsx2
import Derived.Test.YtnnehbbfokoklaaPTargetHostsx5
namespace Go.Proofs.Ytnnehbbfokoklaa.PTargetHosts
open Go.RowKit Go.Proofs.YtnnehbbfokoklaaW.PrintWords Go.Proofs.YtnnehbbfokoklaaW.PrintLast Go.Proofs.YtnnehbbfokoklaaW.PrintMore
attribute [local go_sem] max2_int min2_int max_two min_two max_three min_three max_four min_four   -- for this text's walks alone
set_option linter.unusedVariables false
set_option linter.unusedSimpArgs false

/-! ### parallaxlaw7_TargetHosts: function 5 -/
mutual
def parallaxlaw7_TargetHosts.l0 : Nat → List Int → Int → Int → Int → ByteArray → Bool → Int → Option (Bool)
  | 0, _, _, _, _, _, _, _ => none
  | k + 1, x0, x1, x2, x3, x9, x10, x11 => if x11 < (x0.length : Int) then (if 0 ≤ x11 then (if 0 ≤ (Int.tmod (rd x0 x11) 13) then (if (Int.tmod (rd x0 x11) 13) < 13 then (if x10 = true then ((some (([bt (⟨#[97, 122, 45, 46, 95, 126, 48, 57, 65, 90, 47, 64, 33]⟩ : ByteArray) (Int.tmod (rd x0 x11) 13)] : List Int) : List Int)).bind fun y215 => (if x9.size + (strOfNums y215).size ≤ 9223372036854775807 then (parallaxlaw7_TargetHosts.l0 k x0 x1 x2 x3 (x9 ++ (strOfNums y215)) (decide ((Int.tmod (rd x0 x11) 13) < 10)) (wrap64 (x11 + 1))) else (none))) else ((some (([bt (⟨#[97, 122, 45, 46, 95, 126, 48, 57, 65, 90, 47, 64, 33]⟩ : ByteArray) (Int.tmod (rd x0 x11) 13)] : List Int) : List Int)).bind fun y218 => (if x9.size + (strOfNums y218).size ≤ 9223372036854775807 then (parallaxlaw7_TargetHosts.l0 k x0 x1 x2 x3 (x9 ++ (strOfNums y218)) false (wrap64 (x11 + 1))) else (none)))) else (none)) else (none)) else (none)) else ((parallaxref1_Put.f k (wrap64 (Int.tmod x1 100000))).bind fun t221 => (parallaxlaw7_TargetHosts.l1 k x1 x2 x3 x9 x10 t221))
def parallaxlaw7_TargetHosts.l1 : Nat → Int → Int → Int → ByteArray → Bool → ByteArray → Option (Bool)
  | 0, _, _, _, _, _, _ => none
  | k + 1, x1, x2, x3, x9, x10, x13 => if (x13.size : Int) < (wrap64 (Int.tmod x2 7)) then (if 1 + x13.size ≤ 9223372036854775807 then (parallaxlaw7_TargetHosts.l1 k x1 x2 x3 x9 x10 ((⟨#[48]⟩ : ByteArray) ++ x13)) else (none)) else (parallaxlaw7_TargetHosts.l2 k x1 x3 x9 x10 x13 (⟨#[]⟩ : ByteArray) 0)
def parallaxlaw7_TargetHosts.l2 : Nat → Int → Int → ByteArray → Bool → ByteArray → ByteArray → Int → Option (Bool)
  | 0, _, _, _, _, _, _, _ => none
  | k + 1, x1, x3, x9, x10, x13, x14, x15 => if x15 < (wrap64 (250 + (wrap64 (Int.tmod x3 10)))) then (if x14.size + 1 ≤ 9223372036854775807 then (parallaxlaw7_TargetHosts.l2 k x1 x3 x9 x10 x13 (x14 ++ (⟨#[97]⟩ : ByteArray)) (wrap64 (x15 + 1))) else (none)) else ((target_Host.f k x9).bind fun t222 => (if (t222 == x10) = true then (if x9.size + 1 ≤ 9223372036854775807 then (if (x9 ++ (⟨#[58]⟩ : ByteArray)).size + x13.size ≤ 9223372036854775807 then ((target_Host.f k ((x9 ++ (⟨#[58]⟩ : ByteArray)) ++ x13)).bind fun t223 => (if x10 = true then (if (Int.tmod x1 100000) ≤ 65535 then (if (t223 == (decide ((x13.size : Int) ≤ 5))) = true then ((target_Host.f k (x9 ++ (⟨#[58]⟩ : ByteArray))).bind fun t224 => (if t224 = true then (some false) else (if 1 + x13.size ≤ 9223372036854775807 then ((target_Host.f k ((⟨#[58]⟩ : ByteArray) ++ x13)).bind fun t225 => (if t225 = true then (some false) else ((target_Host.f k x14).bind fun t226 => (some (t226 == (decide ((x14.size : Int) ≤ 255))))))) else (none)))) else (some false)) else (if (t223 == false) = true then ((target_Host.f k (x9 ++ (⟨#[58]⟩ : ByteArray))).bind fun t227 => (if t227 = true then (some false) else (if 1 + x13.size ≤ 9223372036854775807 then ((target_Host.f k ((⟨#[58]⟩ : ByteArray) ++ x13)).bind fun t228 => (if t228 = true then (some false) else ((target_Host.f k x14).bind fun t229 => (some (t229 == (decide ((x14.size : Int) ≤ 255))))))) else (none)))) else (some false))) else (if (t223 == false) = true then ((target_Host.f k (x9 ++ (⟨#[58]⟩ : ByteArray))).bind fun t230 => (if t230 = true then (some false) else (if 1 + x13.size ≤ 9223372036854775807 then ((target_Host.f k ((⟨#[58]⟩ : ByteArray) ++ x13)).bind fun t231 => (if t231 = true then (some false) else ((target_Host.f k x14).bind fun t232 => (some (t232 == (decide ((x14.size : Int) ≤ 255))))))) else (none)))) else (some false)))) else (none)) else (none)) else (some false)))
end
def parallaxlaw7_TargetHosts.f (k : Nat) (l0 : List Int) (a1 : Int) (a2 : Int) (a3 : Int) : Option (Bool) := (parallaxlaw7_known.f k).bind fun t212 => (if t212 = true then (if (l0.length : Int) > 30 then (some true) else (parallaxlaw7_TargetHosts.l0 k l0 a1 a2 a3 (⟨#[]⟩ : ByteArray) (decide ((l0.length : Int) > 0)) 0)) else (some false))
theorem parallaxlaw7_TargetHosts.mono_l : ∀ k, (∀ y0 y1 y2 y3 y4 y5 y6, LeO (parallaxlaw7_TargetHosts.l0 k y0 y1 y2 y3 y4 y5 y6) (parallaxlaw7_TargetHosts.l0 (k + 1) y0 y1 y2 y3 y4 y5 y6)) ∧ (∀ y0 y1 y2 y3 y4 y5, LeO (parallaxlaw7_TargetHosts.l1 k y0 y1 y2 y3 y4 y5) (parallaxlaw7_TargetHosts.l1 (k + 1) y0 y1 y2 y3 y4 y5)) ∧ (∀ y0 y1 y2 y3 y4 y5 y6, LeO (parallaxlaw7_TargetHosts.l2 k y0 y1 y2 y3 y4 y5 y6) (parallaxlaw7_TargetHosts.l2 (k + 1) y0 y1 y2 y3 y4 y5 y6))
  | 0 => ⟨fun _ _ _ _ _ _ _ r h => by simp [parallaxlaw7_TargetHosts.l0] at h, fun _ _ _ _ _ _ r h => by simp [parallaxlaw7_TargetHosts.l1] at h, fun _ _ _ _ _ _ _ r h => by simp [parallaxlaw7_TargetHosts.l2] at h⟩
  | k + 1 => by
    obtain ⟨ih0, ih1, ih2⟩ := parallaxlaw7_TargetHosts.mono_l k
    refine ⟨?_, ?_, ?_⟩
    · intro y0 y1 y2 y3 y4 y5 y6
      unfold parallaxlaw7_TargetHosts.l0
      repeat' first
      | (with_reducible exact ih0 _ _ _ _ _ _ _)
      | (with_reducible exact ih1 _ _ _ _ _ _)
      | (with_reducible exact ih2 _ _ _ _ _ _ _)
      | (with_reducible exact parallaxlaw7_known.mono _)
      | (with_reducible exact parallaxref1_Put.mono _ _)
      | (with_reducible exact target_Host.mono _ _)
      | (with_reducible exact LeO.refl _)
      | (with_reducible exact LeO.none _)
      | (with_reducible refine LeO.ite ?_ ?_)
      | (with_reducible refine LeO.bind ?_ (fun _ => ?_))
      | exact ih0 _ _ _ _ _ _ _
      | exact ih1 _ _ _ _ _ _
      | exact ih2 _ _ _ _ _ _ _
      | exact parallaxlaw7_known.mono _
      | exact parallaxref1_Put.mono _ _
      | exact target_Host.mono _ _
      | exact LeO.none _
      | refine LeO.ite ?_ ?_
      | refine LeO.bind ?_ (fun _ => ?_)
    · intro y0 y1 y2 y3 y4 y5
      unfold parallaxlaw7_TargetHosts.l1
      repeat' first
      | (with_reducible exact ih0 _ _ _ _ _ _ _)
      | (with_reducible exact ih1 _ _ _ _ _ _)
      | (with_reducible exact ih2 _ _ _ _ _ _ _)
      | (with_reducible exact parallaxlaw7_known.mono _)
      | (with_reducible exact parallaxref1_Put.mono _ _)
      | (with_reducible exact target_Host.mono _ _)
      | (with_reducible exact LeO.refl _)
      | (with_reducible exact LeO.none _)
      | (with_reducible refine LeO.ite ?_ ?_)
      | (with_reducible refine LeO.bind ?_ (fun _ => ?_))
      | exact ih0 _ _ _ _ _ _ _
      | exact ih1 _ _ _ _ _ _
      | exact ih2 _ _ _ _ _ _ _
      | exact parallaxlaw7_known.mono _
      | exact parallaxref1_Put.mono _ _
      | exact target_Host.mono _ _
      | exact LeO.none _
      | refine LeO.ite ?_ ?_
      | refine LeO.bind ?_ (fun _ => ?_)
    · intro y0 y1 y2 y3 y4 y5 y6
      unfold parallaxlaw7_TargetHosts.l2
      repeat' first
      | (with_reducible exact ih0 _ _ _ _ _ _ _)
      | (with_reducible exact ih1 _ _ _ _ _ _)
      | (with_reducible exact ih2 _ _ _ _ _ _ _)
      | (with_reducible exact parallaxlaw7_known.mono _)
      | (with_reducible exact parallaxref1_Put.mono _ _)
      | (with_reducible exact target_Host.mono _ _)
      | (with_reducible exact LeO.refl _)
      | (with_reducible exact LeO.none _)
      | (with_reducible refine LeO.ite ?_ ?_)
      | (with_reducible refine LeO.bind ?_ (fun _ => ?_))
      | exact ih0 _ _ _ _ _ _ _
      | exact ih1 _ _ _ _ _ _
      | exact ih2 _ _ _ _ _ _ _
      | exact parallaxlaw7_known.mono _
      | exact parallaxref1_Put.mono _ _
      | exact target_Host.mono _ _
      | exact LeO.none _
      | refine LeO.ite ?_ ?_
      | refine LeO.bind ?_ (fun _ => ?_)
theorem parallaxlaw7_TargetHosts.mono : ∀ a0 a1 a2 a3 k, LeO (parallaxlaw7_TargetHosts.f k a0 a1 a2 a3) (parallaxlaw7_TargetHosts.f (k + 1) a0 a1 a2 a3) := by
  intro a0 a1 a2 a3 k
  obtain ⟨ih0, ih1, ih2⟩ := parallaxlaw7_TargetHosts.mono_l k
  unfold parallaxlaw7_TargetHosts.f
  repeat' first
      | (with_reducible exact ih0 _ _ _ _ _ _ _)
      | (with_reducible exact ih1 _ _ _ _ _ _)
      | (with_reducible exact ih2 _ _ _ _ _ _ _)
      | (with_reducible exact parallaxlaw7_known.mono _)
      | (with_reducible exact parallaxref1_Put.mono _ _)
      | (with_reducible exact target_Host.mono _ _)
      | (with_reducible exact LeO.refl _)
      | (with_reducible exact LeO.none _)
      | (with_reducible refine LeO.ite ?_ ?_)
      | (with_reducible refine LeO.bind ?_ (fun _ => ?_))
      | exact ih0 _ _ _ _ _ _ _
      | exact ih1 _ _ _ _ _ _
      | exact ih2 _ _ _ _ _ _ _
      | exact parallaxlaw7_known.mono _
      | exact parallaxref1_Put.mono _ _
      | exact target_Host.mono _ _
      | exact LeO.none _
      | refine LeO.ite ?_ ?_
      | refine LeO.bind ?_ (fun _ => ?_)
set_option maxHeartbeats 8000000 in
set_option maxRecDepth 100000 in
theorem parallaxlaw7_TargetHosts.calls (k : Nat) (A0 : Option Addr) (c0 : Nat) (l0 : List Int) (a1 : Int) (a2 : Int) (a3 : Int) (r : Bool) (w : World) (hr0 : Kd.C (Kd.int .u8) w A0 l0.length l0) (hc0 : l0.length ≤ c0) (hq1 : (Lit.int .u32 a1).wf = true) (hq2 : (Lit.int .u8 a2).wf = true) (hq3 : (Lit.int .u16 a3).wf = true) (hT : r = true) (h : parallaxlaw7_TargetHosts.f k l0 a1 a2 a3 = some r) :
    Calls Try.prog 5 #[.slice A0 l0.length c0, .int .u32 a1, .int .u8 a2, .int .u16 a3] w fun e w' => e = .returned (.bool r) ∧ Below w.heap.size w w' := by
  have HQ1 := Aside0.mk hq1
  clear hq1
  have HQ2 := Aside0.mk hq2
  clear hq2
  have HQ3 := Aside0.mk hq3
  clear hq3
  have HT := Aside0.mk hT
  clear hT
  have HR0 := Aside0.mk hr0
  have HC0 := Aside0.mk hc0
  clear hr0 hc0
  have HB := Aside0.mk (Below.refl w.heap.size w)
  have H : ((parallaxlaw7_known.f k).bind fun t212 => (if t212 = true then (if (l0.length : Int) > 30 then (some true) else (parallaxlaw7_TargetHosts.l0 k l0 a1 a2 a3 (⟨#[]⟩ : ByteArray) (decide ((l0.length : Int) > 0)) 0)) else (some false))) = some r := h
  clear h
  replace H := Option.bind_eq_some_iff.mp H
  obtain ⟨t212, A50, H⟩ := H
  (try dsimp only at H)
  have A5 := Aside0.mk A50
  clear A50
  by_cases c6 : t212 = true
  · subst c6
    rw [if_pos rfl] at H
    by_cases c7 : (l0.length : Int) > 30
    · rw [if_pos c7] at H
      have c7b0 : decide (30 < (l0.length : Int)) = true := decide_eq_true c7
      have c7b1 : decide (30 < l0.length) = true := decide_eq_true (by omega)
      clear c7
      obtain rfl := Option.some.inj H
      go_enter Try.func5, Try.ntmps5
      go_wp2_with (first | ((with_reducible refine gate_callee (f := 7) rfl ?_); refine goesL_ (some 16) rfl rfl Try.func7 (by kernel_rfl) rfl #[] rfl (by (try simp only [List.map_toArray, List.map_cons, List.map_nil]); first | done | rfl | (simp only [List.length_drop, List.length_take]; rfl)) ?_; (with_reducible refine (parallaxlaw7_known.calls k  true _ rfl A5.out).mono ?_); rintro e w8 ⟨rfl, hb⟩; refine ⟨_, rfl, ?_⟩; have n0_ := Aside0.mk (below_step (by repeat (first | (with_reducible first | exact HB.out | apply below_alloc | apply pw_below_drewN | apply below_drew1) | exact HB.out)) hb); clear HB; have HB := n0_; clear n0_; (try clear hb); (try clear hb2); (try clear hk); (try clear hi)) | (go_at_call 7; (with_reducible refine (parallaxlaw7_known.calls k  true _ rfl A5.out).mono ?_); rintro e w8 ⟨rfl, hb⟩; have n0_ := Aside0.mk (below_step (by repeat (first | (with_reducible first | exact HB.out | apply below_alloc | apply pw_below_drewN | apply below_drew1) | exact HB.out)) hb); clear HB; have HB := n0_; clear n0_; (try clear hb); (try clear hb2); (try clear hk); (try clear hi)))
      (try any_goals (exfalso; have h_ := ‹some undef = some (Value.bool _)›; revert h_; simp [undef]; done))
      go_ret
      exact ⟨by first | rfl | (simp [errW_none, errW_some] <;> rfl) | (simp [*, errW_none, errW_some] <;> rfl), by repeat (first | (with_reducible first | exact HB.out | apply below_alloc | apply pw_below_drewN | apply below_drew1) | exact HB.out)⟩
    · rw [if_neg c7] at H
      have c7b0 : decide (30 < (l0.length : Int)) = false := decide_eq_false c7
      have c7b1 : decide (30 < l0.length) = false := decide_eq_false (by omega)
      clear c7
      have H' := Aside0.mk H
      clear H
      go_enter Try.func5, Try.ntmps5
      go_wp2_with (first | ((with_reducible refine gate_callee (f := 7) rfl ?_); refine goesL_ (some 16) rfl rfl Try.func7 (by kernel_rfl) rfl #[] rfl (by (try simp only [List.map_toArray, List.map_cons, List.map_nil]); first | done | rfl | (simp only [List.length_drop, List.length_take]; rfl)) ?_; (with_reducible refine (parallaxlaw7_known.calls k  true _ rfl A5.out).mono ?_); rintro e w9 ⟨rfl, hb⟩; refine ⟨_, rfl, ?_⟩; have n0_ := Aside0.mk (below_step (by repeat (first | (with_reducible first | exact HB.out | apply below_alloc | apply pw_below_drewN | apply below_drew1) | exact HB.out)) hb); clear HB; have HB := n0_; clear n0_; (try clear hb); (try clear hb2); (try clear hk); (try clear hi)) | (go_at_call 7; (with_reducible refine (parallaxlaw7_known.calls k  true _ rfl A5.out).mono ?_); rintro e w9 ⟨rfl, hb⟩; have n0_ := Aside0.mk (below_step (by repeat (first | (with_reducible first | exact HB.out | apply below_alloc | apply pw_below_drewN | apply below_drew1) | exact HB.out)) hb); clear HB; have HB := n0_; clear n0_; (try clear hb); (try clear hb2); (try clear hk); (try clear hi)))
      (try any_goals (exfalso; have h_ := ‹some undef = some (Value.bool _)›; revert h_; simp [undef]; done))
      go_loopg [9, 10, 11] k (fun kq v9 v10 v11 w' => ∃ (x9_1 : ByteArray) (x10_1 : Bool) (x11_1 : Int), v9 = .string x9_1 ∧ v10 = .bool x10_1 ∧ v11 = .int .i64 x11_1 ∧ Aside0 (parallaxlaw7_TargetHosts.l0 kq l0 a1 a2 a3 x9_1 x10_1 x11_1 = some r) ∧ Aside0 (kq ≤ k) ∧ Aside0 (Below w.heap.size w w'))
      case atStart => exact ⟨((⟨#[]⟩ : ByteArray)), (decide ((l0.length : Int) > 0)), (0), (by first | rfl | (simp; done) | (simp [*]; done)), (by first | rfl | (simp; done) | (simp [*]; done)), (by first | rfl | (simp; done) | (simp [*]; done)), H', ⟨Nat.le_refl _⟩, ⟨by repeat (first | (with_reducible first | exact HB.out | apply below_alloc | apply pw_below_drewN | apply below_drew1) | exact HB.out)⟩⟩
      case round =>
        clear H'
        try clear q1
        try clear p2
        try clear q2
        try clear q3
        try clear c5
        try clear c6
        try clear c7
        try clear c7b0
        try clear c7b1
        obtain ⟨x9_1, x10_1, x11_1, rfl, rfl, rfl, HA, HK1, HB⟩ := hrel
        cases gk with
        | zero => exact absurd HA.out (by simp [parallaxlaw7_TargetHosts.l0])
        | succ k1 =>
          have H := HA.out
          clear HA
          simp only [parallaxlaw7_TargetHosts.l0] at H
          by_cases c10 : x11_1 < (l0.length : Int)
          · rw [if_pos c10] at H
            have c10b0 : decide (x11_1 < (l0.length : Int)) = true := decide_eq_true c10
            clear c10
            by_cases c11 : 0 ≤ x11_1
            · rw [if_pos c11] at H
              have c11b0 : decide (0 ≤ x11_1) = true := decide_eq_true c11
              clear c11
              obtain ⟨ji12, hji12⟩ : ∃ j_ : Int, (Int.tmod (rd l0 x11_1) 13) = j_ := ⟨_, rfl⟩
              replace H : (if 0 ≤ (ji12) then (if (ji12) < 13 then (if x10_1 = true then ((some (([bt (⟨#[97, 122, 45, 46, 95, 126, 48, 57, 65, 90, 47, 64, 33]⟩ : ByteArray) (ji12)] : List Int) : List Int)).bind fun y215 => (if x9_1.size + (strOfNums y215).size ≤ 9223372036854775807 then (parallaxlaw7_TargetHosts.l0 k1 l0 a1 a2 a3 (x9_1 ++ (strOfNums y215)) (decide ((ji12) < 10)) (wrap64 (x11_1 + 1))) else (none))) else ((some (([bt (⟨#[97, 122, 45, 46, 95, 126, 48, 57, 65, 90, 47, 64, 33]⟩ : ByteArray) (ji12)] : List Int) : List Int)).bind fun y218 => (if x9_1.size + (strOfNums y218).size ≤ 9223372036854775807 then (parallaxlaw7_TargetHosts.l0 k1 l0 a1 a2 a3 (x9_1 ++ (strOfNums y218)) false (wrap64 (x11_1 + 1))) else (none)))) else (none)) else (none)) = some r := by first | (rw [hji12] at H; exact H) | (simp only [hji12] at H ⊢; exact H)
              by_cases c13 : 0 ≤ (ji12)
              · rw [if_pos c13] at H
                have c13b0 : decide (0 ≤ (ji12)) = true := decide_eq_true c13
                clear c13
                by_cases c14 : (ji12) < 13
                · rw [if_pos c14] at H
                  have c14b0 : decide ((ji12) < 13) = true := decide_eq_true c14
                  clear c14
                  by_cases c16 : x10_1 = true
                  · subst c16
                    rw [if_pos rfl] at H
                    obtain ⟨y215, hy215⟩ : ∃ y_ : List Int, y_ = (([bt (⟨#[97, 122, 45, 46, 95, 126, 48, 57, 65, 90, 47, 64, 33]⟩ : ByteArray) (ji12)] : List Int)) := ⟨_, rfl⟩
                    replace H : (if x9_1.size + (strOfNums y215).size ≤ 9223372036854775807 then (parallaxlaw7_TargetHosts.l0 k1 l0 a1 a2 a3 (x9_1 ++ (strOfNums y215)) (decide ((ji12) < 10)) (wrap64 (x11_1 + 1))) else (none)) = some r := by first | (rw [hy215]; with_reducible exact H) | (have H2_ := (Option.bind_some _ _).symm.trans H; rw [hy215]; with_reducible exact H2_) | (have H2_ := (Option.bind_some _ _).symm.trans H; with_reducible exact H2_) | with_reducible exact H | (rw [hy215]; exact H) | exact H
                    have Ny215 := Aside0.mk hy215
                    clear hy215
                    by_cases c17 : x9_1.size + (strOfNums y215).size ≤ 9223372036854775807
                    · rw [if_pos c17] at H
                      have c17b0 := eq_true c17
                      have c17b1 : decide (x9_1.size + (strOfNums y215).size ≤ 9223372036854775807) = true := decide_eq_true c17
                      try have c17b2 : (9223372036854775807 < x9_1.size + (strOfNums y215).size) = False := eq_false (Nat.not_lt.2 c17)
                      have H' := Aside0.mk H
                      clear H
                      have p213 : 0 ≤ (x11_1 : Int) := of_decide_eq_true (by first | (with_reducible assumption) | assumption)
                      have q213 : x11_1 < (l0.length : Int) := of_decide_eq_true (by first | (with_reducible assumption) | assumption)
                      obtain ⟨ad213, e213, hx213_0⟩ := Kd.at_int HR0.out x11_1 p213 q213
                      cases e213
                      replace hx213_0 := (HB.out.cell (World.block_lt_of_cell? w _ hx213_0)).trans hx213_0
                      replace p213 := eq_true p213
                      replace q213 := eq_true q213
                      have p15 : 0 ≤ ((ji12) : Int) := of_decide_eq_true (by first | (with_reducible assumption) | assumption)
                      have q15 : (ji12) < (13 : Int) := of_decide_eq_true (by first | (with_reducible assumption) | assumption)
                      have hx15 := bt_at (⟨#[97, 122, 45, 46, 95, 126, 48, 57, 65, 90, 47, 64, 33]⟩ : ByteArray) (ji12)
                      replace p15 := eq_true p15
                      replace q15 := eq_true q15
                      have p214 : 0 ≤ (x11_1 : Int) := of_decide_eq_true (by first | (with_reducible assumption) | assumption)
                      have q214 : x11_1 < (l0.length : Int) := of_decide_eq_true (by first | (with_reducible assumption) | assumption)
                      obtain ⟨ad214, e214, hx214_0⟩ := Kd.at_int HR0.out x11_1 p214 q214
                      obtain rfl : ad213 = ad214 := (by injection e214)
                      replace hx214_0 := (HB.out.cell (World.block_lt_of_cell? w _ hx214_0)).trans hx214_0
                      replace p214 := eq_true p214
                      replace q214 := eq_true q214
                      go_wp2_with (first | ((with_reducible refine gate_dst (N := 47) rfl ?_); (try (refine gate_guard (by rfl) ?_; dsimp only)); refine Kd.R_lit (Kd.int .u8) _ 5 ?hg (N := 47) ?hd (xs := ([bt (⟨#[97, 122, 45, 46, 95, 126, 48, 57, 65, 90, 47, 64, 33]⟩ : ByteArray) (ji12)] : List Int)) (inner := [.int .u8 (bt (⟨#[97, 122, 45, 46, 95, 126, 48, 57, 65, 90, 47, 64, 33]⟩ : ByteArray) (ji12))]) (ok := fun _ => True) (okp := fun _ => True) ?hr ?hp (fun _ hk => hk) trivial (Below.refl _ _) (Nat.le_refl _) (by simp) ?_; (case hd => rfl); (case hg => rfl); (case hr => first | (go_simp; done) | (go_simp; rfl)); (case hp => exact (Reps.one (show Kd.M (Kd.int .u8) _ _ _ (bt (⟨#[97, 122, 45, 46, 95, 126, 48, 57, 65, 90, 47, 64, 33]⟩ : ByteArray) (ji12)) [.int .u8 (bt (⟨#[97, 122, 45, 46, 95, 126, 48, 57, 65, 90, 47, 64, 33]⟩ : ByteArray) (ji12))] from rfl) (Reps.none _ _))); intro v216 w18 ho19 hb hg_ hnew_; clear hg_ hnew_; (first | rw [← Ny215.out] at ho19 | (simp only [Int.reduceToNat] at ho19; rw [← Ny215.out] at ho19)); have n0_ := Aside0.mk (Kd.R_lower ho19 (below_size (by repeat (first | (with_reducible first | exact HB.out | apply below_alloc | apply pw_below_drewN | apply below_drew1) | exact HB.out)))); have n1_ := Aside0.mk (below_step (by repeat (first | (with_reducible first | exact HB.out | apply below_alloc | apply pw_below_drewN | apply below_drew1) | exact HB.out)) hb); clear HB; have HO217 := n0_; have HB := n1_; clear n0_ n1_; clear hb ho19; have hcv20 := own_string (P := Try.prog) Try.underlying22 Try.underlying5 Try.underlying9 (Kd.own_of_R HO217.out)))
                      (try any_goals (exfalso; have h_ := ‹some undef = some (Value.bool _)›; revert h_; simp [undef]; done))
                      go_roundg k1
                      case measure => have := HK1.out; omega
                      case rel => exact ⟨(x9_1 ++ (strOfNums y215)), (decide ((ji12) < 10)), (wrap64 (x11_1 + 1)), (by first | rfl | (simp; done) | (simp [*]; done)), (by first | rfl | (simp; done) | (simp only [← hji12] <;> (first | rfl | simp)) | (simp [*]; done)), (by first | rfl | (simp; done) | (simp [*]; done)), H', ⟨by have := HK1.out; omega⟩, ⟨by repeat (first | (with_reducible first | exact HB.out | apply below_alloc | apply pw_below_drewN | apply below_drew1) | exact HB.out)⟩⟩
                    · rw [if_neg c17] at H
                      exact absurd H (by simp)
                  · replace c16 := Bool.eq_false_iff.mpr c16
                    subst c16
                    rw [if_neg (show ¬ (false = true) by decide)] at H
                    obtain ⟨y218, hy218⟩ : ∃ y_ : List Int, y_ = (([bt (⟨#[97, 122, 45, 46, 95, 126, 48, 57, 65, 90, 47, 64, 33]⟩ : ByteArray) (ji12)] : List Int)) := ⟨_, rfl⟩
                    replace H : (if x9_1.size + (strOfNums y218).size ≤ 9223372036854775807 then (parallaxlaw7_TargetHosts.l0 k1 l0 a1 a2 a3 (x9_1 ++ (strOfNums y218)) false (wrap64 (x11_1 + 1))) else (none)) = some r := by first | (rw [hy218]; with_reducible exact H) | (have H2_ := (Option.bind_some _ _).symm.trans H; rw [hy218]; with_reducible exact H2_) | (have H2_ := (Option.bind_some _ _).symm.trans H; with_reducible exact H2_) | with_reducible exact H | (rw [hy218]; exact H) | exact H
                    have Ny218 := Aside0.mk hy218
                    clear hy218
                    by_cases c21 : x9_1.size + (strOfNums y218).size ≤ 9223372036854775807
                    · rw [if_pos c21] at H
                      have c21b0 := eq_true c21
                      have c21b1 : decide (x9_1.size + (strOfNums y218).size ≤ 9223372036854775807) = true := decide_eq_true c21
                      try have c21b2 : (9223372036854775807 < x9_1.size + (strOfNums y218).size) = False := eq_false (Nat.not_lt.2 c21)
                      have H' := Aside0.mk H
                      clear H
                      have p213 : 0 ≤ (x11_1 : Int) := of_decide_eq_true (by first | (with_reducible assumption) | assumption)
                      have q213 : x11_1 < (l0.length : Int) := of_decide_eq_true (by first | (with_reducible assumption) | assumption)
                      obtain ⟨ad213, e213, hx213_0⟩ := Kd.at_int HR0.out x11_1 p213 q213
                      cases e213
                      replace hx213_0 := (HB.out.cell (World.block_lt_of_cell? w _ hx213_0)).trans hx213_0
                      replace p213 := eq_true p213
                      replace q213 := eq_true q213
                      have p15 : 0 ≤ ((ji12) : Int) := of_decide_eq_true (by first | (with_reducible assumption) | assumption)
                      have q15 : (ji12) < (13 : Int) := of_decide_eq_true (by first | (with_reducible assumption) | assumption)
                      have hx15 := bt_at (⟨#[97, 122, 45, 46, 95, 126, 48, 57, 65, 90, 47, 64, 33]⟩ : ByteArray) (ji12)
                      replace p15 := eq_true p15
                      replace q15 := eq_true q15
                      go_wp2_with (first | ((with_reducible refine gate_dst (N := 47) rfl ?_); (try (refine gate_guard (by rfl) ?_; dsimp only)); refine Kd.R_lit (Kd.int .u8) _ 5 ?hg (N := 47) ?hd (xs := ([bt (⟨#[97, 122, 45, 46, 95, 126, 48, 57, 65, 90, 47, 64, 33]⟩ : ByteArray) (ji12)] : List Int)) (inner := [.int .u8 (bt (⟨#[97, 122, 45, 46, 95, 126, 48, 57, 65, 90, 47, 64, 33]⟩ : ByteArray) (ji12))]) (ok := fun _ => True) (okp := fun _ => True) ?hr ?hp (fun _ hk => hk) trivial (Below.refl _ _) (Nat.le_refl _) (by simp) ?_; (case hd => rfl); (case hg => rfl); (case hr => first | (go_simp; done) | (go_simp; rfl)); (case hp => exact (Reps.one (show Kd.M (Kd.int .u8) _ _ _ (bt (⟨#[97, 122, 45, 46, 95, 126, 48, 57, 65, 90, 47, 64, 33]⟩ : ByteArray) (ji12)) [.int .u8 (bt (⟨#[97, 122, 45, 46, 95, 126, 48, 57, 65, 90, 47, 64, 33]⟩ : ByteArray) (ji12))] from rfl) (Reps.none _ _))); intro v219 w22 ho23 hb hg_ hnew_; clear hg_ hnew_; (first | rw [← Ny218.out] at ho23 | (simp only [Int.reduceToNat] at ho23; rw [← Ny218.out] at ho23)); have n0_ := Aside0.mk (Kd.R_lower ho23 (below_size (by repeat (first | (with_reducible first | exact HB.out | apply below_alloc | apply pw_below_drewN | apply below_drew1) | exact HB.out)))); have n1_ := Aside0.mk (below_step (by repeat (first | (with_reducible first | exact HB.out | apply below_alloc | apply pw_below_drewN | apply below_drew1) | exact HB.out)) hb); clear HB; have HO220 := n0_; have HB := n1_; clear n0_ n1_; clear hb ho23; have hcv24 := own_string (P := Try.prog) Try.underlying22 Try.underlying5 Try.underlying9 (Kd.own_of_R HO220.out)))
                      (try any_goals (exfalso; have h_ := ‹some undef = some (Value.bool _)›; revert h_; simp [undef]; done))
                      go_roundg k1
                      case measure => have := HK1.out; omega
                      case rel => exact ⟨(x9_1 ++ (strOfNums y218)), (false), (wrap64 (x11_1 + 1)), (by first | rfl | (simp; done) | (simp [*]; done)), (by first | rfl | (simp; done) | (simp [*]; done)), (by first | rfl | (simp; done) | (simp [*]; done)), H', ⟨by have := HK1.out; omega⟩, ⟨by repeat (first | (with_reducible first | exact HB.out | apply below_alloc | apply pw_below_drewN | apply below_drew1) | exact HB.out)⟩⟩
                    · rw [if_neg c21] at H
                      exact absurd H (by simp)
                · rw [if_neg c14] at H
                  exact absurd H (by simp)
              · rw [if_neg c13] at H
                exact absurd H (by simp)
            · rw [if_neg c11] at H
              exact absurd H (by simp)
          · rw [if_neg c10] at H
            have c10b0 : decide (x11_1 < (l0.length : Int)) = false := decide_eq_false c10
            clear c10
            replace H := Option.bind_eq_some_iff.mp H
            obtain ⟨t221, A250, H⟩ := H
            (try dsimp only at H)
            have A25 := Aside0.mk A250
            clear A250
            have H' := Aside0.mk H
            clear H
            go_wp2_with (first | ((with_reducible refine gate_callee (f := 19) rfl ?_); refine goesL_ (some 53) rfl rfl Try.func19 (by kernel_rfl) rfl #[.int .i64 (wrap64 (Int.tmod a1 100000))] rfl (by (try simp only [List.map_toArray, List.map_cons, List.map_nil]); first | done | rfl | (simp only [List.length_drop, List.length_take]; rfl)) ?_; (with_reducible refine (parallaxref1_Put.calls k1 (wrap64 (Int.tmod a1 100000)) t221 _ A25.out).mono ?_); rintro e w26 ⟨rfl, hb⟩; refine ⟨_, rfl, ?_⟩; have n0_ := Aside0.mk (below_step (by repeat (first | (with_reducible first | exact HB.out | apply below_alloc | apply pw_below_drewN | apply below_drew1) | exact HB.out)) hb); clear HB; have HB := n0_; clear n0_; (try clear hb); (try clear hb2); (try clear hk); (try clear hi)) | (go_at_call 19; (with_reducible refine (parallaxref1_Put.calls k1 (wrap64 (Int.tmod a1 100000)) t221 _ A25.out).mono ?_); rintro e w26 ⟨rfl, hb⟩; have n0_ := Aside0.mk (below_step (by repeat (first | (with_reducible first | exact HB.out | apply below_alloc | apply pw_below_drewN | apply below_drew1) | exact HB.out)) hb); clear HB; have HB := n0_; clear n0_; (try clear hb); (try clear hb2); (try clear hk); (try clear hi)))
            (try any_goals (exfalso; have h_ := ‹some undef = some (Value.bool _)›; revert h_; simp [undef]; done))
            go_loopg [13] k1 (fun kq v13 w' => ∃ (x13_2 : ByteArray), v13 = .string x13_2 ∧ Aside0 (parallaxlaw7_TargetHosts.l1 kq a1 a2 a3 x9_1 x10_1 x13_2 = some r) ∧ Aside0 (kq ≤ k1) ∧ Aside0 (Below w.heap.size w w'))
            case atStart => exact ⟨(t221), (by first | rfl | (simp; done) | (simp [*]; done)), H', ⟨Nat.le_refl _⟩, ⟨by repeat (first | (with_reducible first | exact HB.out | apply below_alloc | apply pw_below_drewN | apply below_drew1) | exact HB.out)⟩⟩
            case round =>
              clear H'
              try clear c1
              try clear p1
              try clear q1
              try clear hx1
              try clear c2
              try clear p2
              try clear q2
              try clear hx2
              try clear hcv2
              try clear q3
              try clear c5
              try clear c6
              try clear p6
              try clear c7
              try clear c7b0
              try clear c7b1
              try clear c10
              try clear c10b0
              try clear c11
              try clear c11b0
              try clear c13
              try clear c13b0
              try clear c14
              try clear c14b0
              try clear p15
              try clear q15
              try clear hx15
              try clear c16
              try clear c17
              try clear c17b0
              try clear c17b1
              try clear c17b2
              try clear c19
              try clear hcv20
              try clear c21
              try clear c21b0
              try clear c21b1
              try clear c21b2
              try clear p21
              try clear q21
              try clear hx21
              try clear hcv24
              try clear hx213_0
              try clear hx214_0
              try clear p15
              try clear p2
              try clear p213
              try clear p214
              try clear q1
              try clear q15
              try clear q2
              try clear q213
              try clear q214
              try clear q3
              obtain ⟨x13_2, rfl, HA, HK2, HB⟩ := hrel
              cases gk with
              | zero => exact absurd HA.out (by simp [parallaxlaw7_TargetHosts.l1])
              | succ k2 =>
                have H := HA.out
                clear HA
                simp only [parallaxlaw7_TargetHosts.l1] at H
                by_cases c27 : (x13_2.size : Int) < (wrap64 (Int.tmod a2 7))
                · rw [if_pos c27] at H
                  have c27b0 : decide ((x13_2.size : Int) < (wrap64 (Int.tmod a2 7))) = true := decide_eq_true c27
                  clear c27
                  by_cases c28 : 1 + x13_2.size ≤ 9223372036854775807
                  · rw [if_pos c28] at H
                    have c28b0 := eq_true c28
                    have c28b1 : decide (1 + x13_2.size ≤ 9223372036854775807) = true := decide_eq_true c28
                    try have c28b2 : (9223372036854775807 < 1 + x13_2.size) = False := eq_false (Nat.not_lt.2 c28)
                    have H' := Aside0.mk H
                    clear H
                    go_wp2
                    (try any_goals (exfalso; have h_ := ‹some undef = some (Value.bool _)›; revert h_; simp [undef]; done))
                    go_roundg k2
                    case measure => have := HK1.out; have := HK2.out; omega
                    case rel => exact ⟨((⟨#[48]⟩ : ByteArray) ++ x13_2), (by first | rfl | (simp; done) | (simp [*]; done)), H', ⟨by have := HK1.out; have := HK2.out; omega⟩, ⟨by repeat (first | (with_reducible first | exact HB.out | apply below_alloc | apply pw_below_drewN | apply below_drew1) | exact HB.out)⟩⟩
                  · rw [if_neg c28] at H
                    exact absurd H (by simp)
                · rw [if_neg c27] at H
                  have c27b0 : decide ((x13_2.size : Int) < (wrap64 (Int.tmod a2 7))) = false := decide_eq_false c27
                  clear c27
                  have H' := Aside0.mk H
                  clear H
                  go_wp2
                  (try any_goals (exfalso; have h_ := ‹some undef = some (Value.bool _)›; revert h_; simp [undef]; done))
                  go_loopg [14, 15] k2 (fun kq v14 v15 w' => ∃ (x14_3 : ByteArray) (x15_3 : Int), v14 = .string x14_3 ∧ v15 = .int .i64 x15_3 ∧ Aside0 (parallaxlaw7_TargetHosts.l2 kq a1 a3 x9_1 x10_1 x13_2 x14_3 x15_3 = some r) ∧ Aside0 (kq ≤ k2) ∧ Aside0 (Below w.heap.size w w'))
                  case atStart => exact ⟨((⟨#[]⟩ : ByteArray)), (0), (by first | rfl | (simp; done) | (simp [*]; done)), (by first | rfl | (simp; done) | (simp [*]; done)), H', ⟨Nat.le_refl _⟩, ⟨by repeat (first | (with_reducible first | exact HB.out | apply below_alloc | apply pw_below_drewN | apply below_drew1) | exact HB.out)⟩⟩
                  case round =>
                    clear H'
                    try clear c1
                    try clear p1
                    try clear q1
                    try clear hx1
                    try clear c2
                    try clear p2
                    try clear q2
                    try clear hx2
                    try clear hcv2
                    try clear q3
                    try clear c5
                    try clear c6
                    try clear p6
                    try clear c7
                    try clear c7b0
                    try clear c7b1
                    try clear c10
                    try clear c10b0
                    try clear c11
                    try clear c11b0
                    try clear c13
                    try clear c13b0
                    try clear c14
                    try clear c14b0
                    try clear p15
                    try clear q15
                    try clear hx15
                    try clear c16
                    try clear c17
                    try clear c17b0
                    try clear c17b1
                    try clear c17b2
                    try clear c19
                    try clear hcv20
                    try clear c21
                    try clear c21b0
                    try clear c21b1
                    try clear c21b2
                    try clear p21
                    try clear q21
                    try clear hx21
                    try clear hcv24
                    try clear c27
                    try clear c27b0
                    try clear c28
                    try clear c28b0
                    try clear c28b1
                    try clear c28b2
                    try clear hx213_0
                    try clear hx214_0
                    try clear p1
                    try clear p15
                    try clear p2
                    try clear p21
                    try clear p213
                    try clear p214
                    try clear p6
                    try clear q1
                    try clear q15
                    try clear q2
                    try clear q21
                    try clear q213
                    try clear q214
                    try clear q3
                    obtain ⟨x14_3, x15_3, rfl, rfl, HA, HK3, HB⟩ := hrel
                    cases gk with
                    | zero => exact absurd HA.out (by simp [parallaxlaw7_TargetHosts.l2])
                    | succ k3 =>
                      have H := HA.out
                      clear HA
                      simp only [parallaxlaw7_TargetHosts.l2] at H
                      by_cases c29 : x15_3 < (wrap64 (250 + (wrap64 (Int.tmod a3 10))))
                      · rw [if_pos c29] at H
                        have c29b0 : decide (x15_3 < (wrap64 (250 + (wrap64 (Int.tmod a3 10))))) = true := decide_eq_true c29
                        clear c29
                        by_cases c30 : x14_3.size + 1 ≤ 9223372036854775807
                        · rw [if_pos c30] at H
                          have c30b0 := eq_true c30
                          have c30b1 : decide (x14_3.size + 1 ≤ 9223372036854775807) = true := decide_eq_true c30
                          try have c30b2 : (9223372036854775807 < x14_3.size + 1) = False := eq_false (Nat.not_lt.2 c30)
                          have H' := Aside0.mk H
                          clear H
                          go_wp2
                          (try any_goals (exfalso; have h_ := ‹some undef = some (Value.bool _)›; revert h_; simp [undef]; done))
                          go_roundg k3
                          case measure => have := HK1.out; have := HK2.out; have := HK3.out; omega
                          case rel => exact ⟨(x14_3 ++ (⟨#[97]⟩ : ByteArray)), (wrap64 (x15_3 + 1)), (by first | rfl | (simp; done) | (simp [*]; done)), (by first | rfl | (simp; done) | (simp [*]; done)), H', ⟨by have := HK1.out; have := HK2.out; have := HK3.out; omega⟩, ⟨by repeat (first | (with_reducible first | exact HB.out | apply below_alloc | apply pw_below_drewN | apply below_drew1) | exact HB.out)⟩⟩
                        · rw [if_neg c30] at H
                          exact absurd H (by simp)
                      · rw [if_neg c29] at H
                        have c29b0 : decide (x15_3 < (wrap64 (250 + (wrap64 (Int.tmod a3 10))))) = false := decide_eq_false c29
                        clear c29
                        replace H := Option.bind_eq_some_iff.mp H
                        obtain ⟨t222, A310, H⟩ := H
                        (try dsimp only at H)
                        have A31 := Aside0.mk A310
                        clear A310
                        by_cases c32 : (t222 == x10_1) = true
                        · rw [if_pos c32] at H
                          have c32b0 : (t222 == x10_1) = true := c32
                          (try (have c32b1 : decide (t222 = x10_1) = true := by simpa using c32))
                          (try (have c32b2 : (t222 == x10_1) = true := by simpa using c32))
                          clear c32
                          by_cases c33 : x9_1.size + 1 ≤ 9223372036854775807
                          · rw [if_pos c33] at H
                            have c33b0 := eq_true c33
                            have c33b1 : decide (x9_1.size + 1 ≤ 9223372036854775807) = true := decide_eq_true c33
                            try have c33b2 : (9223372036854775807 < x9_1.size + 1) = False := eq_false (Nat.not_lt.2 c33)
                            by_cases c34 : (x9_1 ++ (⟨#[58]⟩ : ByteArray)).size + x13_2.size ≤ 9223372036854775807
                            · rw [if_pos c34] at H
                              have c34b0 := eq_true c34
                              have c34b1 : decide ((x9_1 ++ (⟨#[58]⟩ : ByteArray)).size + x13_2.size ≤ 9223372036854775807) = true := decide_eq_true c34
                              try have c34b2 : (9223372036854775807 < (x9_1 ++ (⟨#[58]⟩ : ByteArray)).size + x13_2.size) = False := eq_false (Nat.not_lt.2 c34)
                              (try (have c34b3 : (9223372036854775807 < x9_1.size + 1 + x13_2.size) = False := eq_false (by have h_ := c34; simp only [ByteArray.size_append] at h_; exact Nat.not_lt.mpr h_)))
                              (try (have c34b4 : decide (x9_1.size + 1 + x13_2.size ≤ 9223372036854775807) = true := decide_eq_true (by have h_ := c34; simp only [ByteArray.size_append] at h_; exact h_)))
                              replace H := Option.bind_eq_some_iff.mp H
                              obtain ⟨t223, A350, H⟩ := H
                              (try dsimp only at H)
                              have A35 := Aside0.mk A350
                              clear A350
                              by_cases c36 : x10_1 = true
                              · subst c36
                                rw [if_pos rfl] at H
                                by_cases c37 : (Int.tmod a1 100000) ≤ 65535
                                · rw [if_pos c37] at H
                                  have c37b0 : decide ((Int.tmod a1 100000) ≤ 65535) = true := decide_eq_true c37
                                  clear c37
                                  by_cases c38 : (t223 == (decide ((x13_2.size : Int) ≤ 5))) = true
                                  · rw [if_pos c38] at H
                                    have c38b0 : (t223 == (decide ((x13_2.size : Int) ≤ 5))) = true := c38
                                    (try (have c38b1 : decide (t223 = (decide ((x13_2.size : Int) ≤ 5))) = true := by simpa using c38))
                                    (try (have c38b2 : (t223 == (decide ((x13_2.size : Int) ≤ 5))) = true := by simpa using c38))
                                    clear c38
                                    replace H := Option.bind_eq_some_iff.mp H
                                    obtain ⟨t224, A390, H⟩ := H
                                    (try dsimp only at H)
                                    have A39 := Aside0.mk A390
                                    clear A390
                                    by_cases c40 : t224 = true
                                    · subst c40
                                      rw [if_pos rfl] at H
                                      exact absurd ((Option.some.inj H).trans HT.out) (by decide)
                                    · replace c40 := Bool.eq_false_iff.mpr c40
                                      subst c40
                                      rw [if_neg (show ¬ (false = true) by decide)] at H
                                      by_cases c41 : 1 + x13_2.size ≤ 9223372036854775807
                                      · rw [if_pos c41] at H
                                        have c41b0 := eq_true c41
                                        have c41b1 : decide (1 + x13_2.size ≤ 9223372036854775807) = true := decide_eq_true c41
                                        try have c41b2 : (9223372036854775807 < 1 + x13_2.size) = False := eq_false (Nat.not_lt.2 c41)
                                        replace H := Option.bind_eq_some_iff.mp H
                                        obtain ⟨t225, A420, H⟩ := H
                                        (try dsimp only at H)
                                        have A42 := Aside0.mk A420
                                        clear A420
                                        by_cases c43 : t225 = true
                                        · subst c43
                                          rw [if_pos rfl] at H
                                          exact absurd ((Option.some.inj H).trans HT.out) (by decide)
                                        · replace c43 := Bool.eq_false_iff.mpr c43
                                          subst c43
                                          rw [if_neg (show ¬ (false = true) by decide)] at H
                                          replace H := Option.bind_eq_some_iff.mp H
                                          obtain ⟨t226, A440, H⟩ := H
                                          (try dsimp only at H)
                                          have A44 := Aside0.mk A440
                                          clear A440
                                          obtain rfl := Option.some.inj H
                                          go_wp2_with (first | ((with_reducible refine gate_callee (f := 13) rfl ?_); refine goesL_ (some 73) rfl rfl Try.func13 (by kernel_rfl) rfl #[.string x9_1] rfl (by (try simp only [List.map_toArray, List.map_cons, List.map_nil]); first | done | rfl | (simp only [List.length_drop, List.length_take]; rfl)) ?_; (with_reducible refine (target_Host.calls k3 x9_1 t222 _ A31.out).mono ?_); rintro e w45 ⟨rfl, hb⟩; refine ⟨_, rfl, ?_⟩; have n0_ := Aside0.mk (below_step (by repeat (first | (with_reducible first | exact HB.out | apply below_alloc | apply pw_below_drewN | apply below_drew1) | exact HB.out)) hb); clear HB; have HB := n0_; clear n0_; (try clear hb); (try clear hb2); (try clear hk); (try clear hi)) | (go_at_call 13; (with_reducible refine (target_Host.calls k3 ((x9_1 ++ (⟨#[58]⟩ : ByteArray)) ++ x13_2) t223 _ A35.out).mono ?_); rintro e w46 ⟨rfl, hb⟩; have n0_ := Aside0.mk (below_step (by repeat (first | (with_reducible first | exact HB.out | apply below_alloc | apply pw_below_drewN | apply below_drew1) | exact HB.out)) hb); clear HB; have HB := n0_; clear n0_; (try clear hb); (try clear hb2); (try clear hk); (try clear hi)) | (go_at_call 13; (with_reducible refine (target_Host.calls k3 (x9_1 ++ (⟨#[58]⟩ : ByteArray)) false _ A39.out).mono ?_); rintro e w47 ⟨rfl, hb⟩; have n0_ := Aside0.mk (below_step (by repeat (first | (with_reducible first | exact HB.out | apply below_alloc | apply pw_below_drewN | apply below_drew1) | exact HB.out)) hb); clear HB; have HB := n0_; clear n0_; (try clear hb); (try clear hb2); (try clear hk); (try clear hi)) | (go_at_call 13; (with_reducible refine (target_Host.calls k3 ((⟨#[58]⟩ : ByteArray) ++ x13_2) false _ A42.out).mono ?_); rintro e w48 ⟨rfl, hb⟩; have n0_ := Aside0.mk (below_step (by repeat (first | (with_reducible first | exact HB.out | apply below_alloc | apply pw_below_drewN | apply below_drew1) | exact HB.out)) hb); clear HB; have HB := n0_; clear n0_; (try clear hb); (try clear hb2); (try clear hk); (try clear hi)) | (go_at_call 13; (with_reducible refine (target_Host.calls k3 x14_3 t226 _ A44.out).mono ?_); rintro e w49 ⟨rfl, hb⟩; have n0_ := Aside0.mk (below_step (by repeat (first | (with_reducible first | exact HB.out | apply below_alloc | apply pw_below_drewN | apply below_drew1) | exact HB.out)) hb); clear HB; have HB := n0_; clear n0_; (try clear hb); (try clear hb2); (try clear hk); (try clear hi)) | (go_at_call 13; (with_reducible refine (target_Host.calls k3 x9_1 t222 _ A31.out).mono ?_); rintro e w45 ⟨rfl, hb⟩; have n0_ := Aside0.mk (below_step (by repeat (first | (with_reducible first | exact HB.out | apply below_alloc | apply pw_below_drewN | apply below_drew1) | exact HB.out)) hb); clear HB; have HB := n0_; clear n0_; (try clear hb); (try clear hb2); (try clear hk); (try clear hi)))
                                          (try any_goals (exfalso; have h_ := ‹some undef = some (Value.bool _)›; revert h_; simp [undef]; done))
                                          go_ret
                                          exact ⟨by first | rfl | (simp [errW_none, errW_some] <;> rfl) | (simp [*, errW_none, errW_some] <;> rfl), by repeat (first | (with_reducible first | exact HB.out | apply below_alloc | apply pw_below_drewN | apply below_drew1) | exact HB.out)⟩
                                      · rw [if_neg c41] at H
                                        exact absurd H (by simp)
                                  · rw [if_neg c38] at H
                                    have c38b0 : (t223 == (decide ((x13_2.size : Int) ≤ 5))) = false := by simpa using c38
                                    (try (have c38b1 : decide (t223 = (decide ((x13_2.size : Int) ≤ 5))) = false := by simpa using c38))
                                    (try (have c38b2 : (t223 == (decide ((x13_2.size : Int) ≤ 5))) = false := by simpa using c38))
                                    (try (have c38b3 : ¬ (t223 = (decide ((x13_2.size : Int) ≤ 5))) := by simpa using c38))
                                    clear c38
                                    exact absurd ((Option.some.inj H).trans HT.out) (by decide)
                                · rw [if_neg c37] at H
                                  have c37b0 : decide ((Int.tmod a1 100000) ≤ 65535) = false := decide_eq_false c37
                                  clear c37
                                  by_cases c50 : t223 = true
                                  · skip
                                    subst c50
                                    rw [if_neg (show ¬ ((true == false) = true) by decide)] at H
                                    exact absurd ((Option.some.inj H).trans HT.out) (by decide)
                                  · skip
                                    replace c50 := Bool.eq_false_iff.mpr c50
                                    subst c50
                                    rw [if_pos (show (false == false) = true by rfl)] at H
                                    replace H := Option.bind_eq_some_iff.mp H
                                    obtain ⟨t227, A510, H⟩ := H
                                    (try dsimp only at H)
                                    have A51 := Aside0.mk A510
                                    clear A510
                                    by_cases c52 : t227 = true
                                    · subst c52
                                      rw [if_pos rfl] at H
                                      exact absurd ((Option.some.inj H).trans HT.out) (by decide)
                                    · replace c52 := Bool.eq_false_iff.mpr c52
                                      subst c52
                                      rw [if_neg (show ¬ (false = true) by decide)] at H
                                      by_cases c53 : 1 + x13_2.size ≤ 9223372036854775807
                                      · rw [if_pos c53] at H
                                        have c53b0 := eq_true c53
                                        have c53b1 : decide (1 + x13_2.size ≤ 9223372036854775807) = true := decide_eq_true c53
                                        try have c53b2 : (9223372036854775807 < 1 + x13_2.size) = False := eq_false (Nat.not_lt.2 c53)
                                        replace H := Option.bind_eq_some_iff.mp H
                                        obtain ⟨t228, A540, H⟩ := H
                                        (try dsimp only at H)
                                        have A54 := Aside0.mk A540
                                        clear A540
                                        by_cases c55 : t228 = true
                                        · subst c55
                                          rw [if_pos rfl] at H
                                          exact absurd ((Option.some.inj H).trans HT.out) (by decide)
                                        · replace c55 := Bool.eq_false_iff.mpr c55
                                          subst c55
                                          rw [if_neg (show ¬ (false = true) by decide)] at H
                                          replace H := Option.bind_eq_some_iff.mp H
                                          obtain ⟨t229, A560, H⟩ := H
                                          (try dsimp only at H)
                                          have A56 := Aside0.mk A560
                                          clear A560
                                          obtain rfl := Option.some.inj H
                                          go_wp2_with (first | ((with_reducible refine gate_callee (f := 13) rfl ?_); refine goesL_ (some 73) rfl rfl Try.func13 (by kernel_rfl) rfl #[.string x9_1] rfl (by (try simp only [List.map_toArray, List.map_cons, List.map_nil]); first | done | rfl | (simp only [List.length_drop, List.length_take]; rfl)) ?_; (with_reducible refine (target_Host.calls k3 x9_1 t222 _ A31.out).mono ?_); rintro e w57 ⟨rfl, hb⟩; refine ⟨_, rfl, ?_⟩; have n0_ := Aside0.mk (below_step (by repeat (first | (with_reducible first | exact HB.out | apply below_alloc | apply pw_below_drewN | apply below_drew1) | exact HB.out)) hb); clear HB; have HB := n0_; clear n0_; (try clear hb); (try clear hb2); (try clear hk); (try clear hi)) | (go_at_call 13; (with_reducible refine (target_Host.calls k3 ((x9_1 ++ (⟨#[58]⟩ : ByteArray)) ++ x13_2) false _ A35.out).mono ?_); rintro e w58 ⟨rfl, hb⟩; have n0_ := Aside0.mk (below_step (by repeat (first | (with_reducible first | exact HB.out | apply below_alloc | apply pw_below_drewN | apply below_drew1) | exact HB.out)) hb); clear HB; have HB := n0_; clear n0_; (try clear hb); (try clear hb2); (try clear hk); (try clear hi)) | (go_at_call 13; (with_reducible refine (target_Host.calls k3 (x9_1 ++ (⟨#[58]⟩ : ByteArray)) false _ A51.out).mono ?_); rintro e w59 ⟨rfl, hb⟩; have n0_ := Aside0.mk (below_step (by repeat (first | (with_reducible first | exact HB.out | apply below_alloc | apply pw_below_drewN | apply below_drew1) | exact HB.out)) hb); clear HB; have HB := n0_; clear n0_; (try clear hb); (try clear hb2); (try clear hk); (try clear hi)) | (go_at_call 13; (with_reducible refine (target_Host.calls k3 ((⟨#[58]⟩ : ByteArray) ++ x13_2) false _ A54.out).mono ?_); rintro e w60 ⟨rfl, hb⟩; have n0_ := Aside0.mk (below_step (by repeat (first | (with_reducible first | exact HB.out | apply below_alloc | apply pw_below_drewN | apply below_drew1) | exact HB.out)) hb); clear HB; have HB := n0_; clear n0_; (try clear hb); (try clear hb2); (try clear hk); (try clear hi)) | (go_at_call 13; (with_reducible refine (target_Host.calls k3 x14_3 t229 _ A56.out).mono ?_); rintro e w61 ⟨rfl, hb⟩; have n0_ := Aside0.mk (below_step (by repeat (first | (with_reducible first | exact HB.out | apply below_alloc | apply pw_below_drewN | apply below_drew1) | exact HB.out)) hb); clear HB; have HB := n0_; clear n0_; (try clear hb); (try clear hb2); (try clear hk); (try clear hi)) | (go_at_call 13; (with_reducible refine (target_Host.calls k3 x9_1 t222 _ A31.out).mono ?_); rintro e w57 ⟨rfl, hb⟩; have n0_ := Aside0.mk (below_step (by repeat (first | (with_reducible first | exact HB.out | apply below_alloc | apply pw_below_drewN | apply below_drew1) | exact HB.out)) hb); clear HB; have HB := n0_; clear n0_; (try clear hb); (try clear hb2); (try clear hk); (try clear hi)))
                                          (try any_goals (exfalso; have h_ := ‹some undef = some (Value.bool _)›; revert h_; simp [undef]; done))
                                          go_ret
                                          exact ⟨by first | rfl | (simp [errW_none, errW_some] <;> rfl) | (simp [*, errW_none, errW_some] <;> rfl), by repeat (first | (with_reducible first | exact HB.out | apply below_alloc | apply pw_below_drewN | apply below_drew1) | exact HB.out)⟩
                                      · rw [if_neg c53] at H
                                        exact absurd H (by simp)
                              · replace c36 := Bool.eq_false_iff.mpr c36
                                subst c36
                                rw [if_neg (show ¬ (false = true) by decide)] at H
                                by_cases c62 : t223 = true
                                · skip
                                  subst c62
                                  rw [if_neg (show ¬ ((true == false) = true) by decide)] at H
                                  exact absurd ((Option.some.inj H).trans HT.out) (by decide)
                                · skip
                                  replace c62 := Bool.eq_false_iff.mpr c62
                                  subst c62
                                  rw [if_pos (show (false == false) = true by rfl)] at H
                                  replace H := Option.bind_eq_some_iff.mp H
                                  obtain ⟨t230, A630, H⟩ := H
                                  (try dsimp only at H)
                                  have A63 := Aside0.mk A630
                                  clear A630
                                  by_cases c64 : t230 = true
                                  · subst c64
                                    rw [if_pos rfl] at H
                                    exact absurd ((Option.some.inj H).trans HT.out) (by decide)
                                  · replace c64 := Bool.eq_false_iff.mpr c64
                                    subst c64
                                    rw [if_neg (show ¬ (false = true) by decide)] at H
                                    by_cases c65 : 1 + x13_2.size ≤ 9223372036854775807
                                    · rw [if_pos c65] at H
                                      have c65b0 := eq_true c65
                                      have c65b1 : decide (1 + x13_2.size ≤ 9223372036854775807) = true := decide_eq_true c65
                                      try have c65b2 : (9223372036854775807 < 1 + x13_2.size) = False := eq_false (Nat.not_lt.2 c65)
                                      replace H := Option.bind_eq_some_iff.mp H
                                      obtain ⟨t231, A660, H⟩ := H
                                      (try dsimp only at H)
                                      have A66 := Aside0.mk A660
                                      clear A660
                                      by_cases c67 : t231 = true
                                      · subst c67
                                        rw [if_pos rfl] at H
                                        exact absurd ((Option.some.inj H).trans HT.out) (by decide)
                                      · replace c67 := Bool.eq_false_iff.mpr c67
                                        subst c67
                                        rw [if_neg (show ¬ (false = true) by decide)] at H
                                        replace H := Option.bind_eq_some_iff.mp H
                                        obtain ⟨t232, A680, H⟩ := H
                                        (try dsimp only at H)
                                        have A68 := Aside0.mk A680
                                        clear A680
                                        obtain rfl := Option.some.inj H
                                        go_wp2_with (first | ((with_reducible refine gate_callee (f := 13) rfl ?_); refine goesL_ (some 73) rfl rfl Try.func13 (by kernel_rfl) rfl #[.string x9_1] rfl (by (try simp only [List.map_toArray, List.map_cons, List.map_nil]); first | done | rfl | (simp only [List.length_drop, List.length_take]; rfl)) ?_; (with_reducible refine (target_Host.calls k3 x9_1 t222 _ A31.out).mono ?_); rintro e w69 ⟨rfl, hb⟩; refine ⟨_, rfl, ?_⟩; have n0_ := Aside0.mk (below_step (by repeat (first | (with_reducible first | exact HB.out | apply below_alloc | apply pw_below_drewN | apply below_drew1) | exact HB.out)) hb); clear HB; have HB := n0_; clear n0_; (try clear hb); (try clear hb2); (try clear hk); (try clear hi)) | (go_at_call 13; (with_reducible refine (target_Host.calls k3 ((x9_1 ++ (⟨#[58]⟩ : ByteArray)) ++ x13_2) false _ A35.out).mono ?_); rintro e w70 ⟨rfl, hb⟩; have n0_ := Aside0.mk (below_step (by repeat (first | (with_reducible first | exact HB.out | apply below_alloc | apply pw_below_drewN | apply below_drew1) | exact HB.out)) hb); clear HB; have HB := n0_; clear n0_; (try clear hb); (try clear hb2); (try clear hk); (try clear hi)) | (go_at_call 13; (with_reducible refine (target_Host.calls k3 (x9_1 ++ (⟨#[58]⟩ : ByteArray)) false _ A63.out).mono ?_); rintro e w71 ⟨rfl, hb⟩; have n0_ := Aside0.mk (below_step (by repeat (first | (with_reducible first | exact HB.out | apply below_alloc | apply pw_below_drewN | apply below_drew1) | exact HB.out)) hb); clear HB; have HB := n0_; clear n0_; (try clear hb); (try clear hb2); (try clear hk); (try clear hi)) | (go_at_call 13; (with_reducible refine (target_Host.calls k3 ((⟨#[58]⟩ : ByteArray) ++ x13_2) false _ A66.out).mono ?_); rintro e w72 ⟨rfl, hb⟩; have n0_ := Aside0.mk (below_step (by repeat (first | (with_reducible first | exact HB.out | apply below_alloc | apply pw_below_drewN | apply below_drew1) | exact HB.out)) hb); clear HB; have HB := n0_; clear n0_; (try clear hb); (try clear hb2); (try clear hk); (try clear hi)) | (go_at_call 13; (with_reducible refine (target_Host.calls k3 x14_3 t232 _ A68.out).mono ?_); rintro e w73 ⟨rfl, hb⟩; have n0_ := Aside0.mk (below_step (by repeat (first | (with_reducible first | exact HB.out | apply below_alloc | apply pw_below_drewN | apply below_drew1) | exact HB.out)) hb); clear HB; have HB := n0_; clear n0_; (try clear hb); (try clear hb2); (try clear hk); (try clear hi)) | (go_at_call 13; (with_reducible refine (target_Host.calls k3 x9_1 t222 _ A31.out).mono ?_); rintro e w69 ⟨rfl, hb⟩; have n0_ := Aside0.mk (below_step (by repeat (first | (with_reducible first | exact HB.out | apply below_alloc | apply pw_below_drewN | apply below_drew1) | exact HB.out)) hb); clear HB; have HB := n0_; clear n0_; (try clear hb); (try clear hb2); (try clear hk); (try clear hi)))
                                        (try any_goals (exfalso; have h_ := ‹some undef = some (Value.bool _)›; revert h_; simp [undef]; done))
                                        go_ret
                                        exact ⟨by first | rfl | (simp [errW_none, errW_some] <;> rfl) | (simp [*, errW_none, errW_some] <;> rfl), by repeat (first | (with_reducible first | exact HB.out | apply below_alloc | apply pw_below_drewN | apply below_drew1) | exact HB.out)⟩
                                    · rw [if_neg c65] at H
                                      exact absurd H (by simp)
                            · rw [if_neg c34] at H
                              exact absurd H (by simp)
                          · rw [if_neg c33] at H
                            exact absurd H (by simp)
                        · rw [if_neg c32] at H
                          have c32b0 : (t222 == x10_1) = false := by simpa using c32
                          (try (have c32b1 : decide (t222 = x10_1) = false := by simpa using c32))
                          (try (have c32b2 : (t222 == x10_1) = false := by simpa using c32))
                          (try (have c32b3 : ¬ (t222 = x10_1) := by simpa using c32))
                          clear c32
                          exact absurd ((Option.some.inj H).trans HT.out) (by decide)
  · replace c6 := Bool.eq_false_iff.mpr c6
    subst c6
    rw [if_neg (show ¬ (false = true) by decide)] at H
    exact absurd ((Option.some.inj H).trans HT.out) (by decide)

/-- THE ONE PURE STATEMENT of parallaxlaw7_TargetHosts: yours. -/
def parallaxlaw7_TargetHosts.Pure : Prop := ∀ (l0 : List Int) (a1 : Int) (a2 : Int) (a3 : Int), l0.length ≤ maxLen → l0.length * 1 ≤ 140737488351232 → (∀ x ∈ l0, (Lit.int .u8 x).wf = true) → (Lit.int .u32 a1).wf = true → (Lit.int .u8 a2).wf = true → (Lit.int .u16 a3).wf = true → ∃ k, parallaxlaw7_TargetHosts.f k l0 a1 a2 a3 = some true
theorem parallaxlaw7_TargetHosts.walk (P : parallaxlaw7_TargetHosts.Pure) (a0 : Option Addr) (len0 cap0 : Nat) (z0 : List Int) (a1 : Int) (a2 : Int) (a3 : Int) (w : World) (w0 : (a0 = none ∧ len0 = 0 ∧ cap0 = 0 ∧ z0 = []) ∨ ∃ x, a0 = some x ∧ len0 ≤ cap0 ∧ cap0 ≤ maxLen ∧ z0.length = cap0 ∧ (∀ i, i < z0.length → w.cell? (x.add i) = some (.int .u8 (z0.getD i 0))) ∧ ∀ n ∈ z0, (Lit.int .u8 n).wf = true) (y0 : len0 * 1 ≤ 140737488351232) (w1 : (Lit.int .u32 a1).wf = true) (w2 : (Lit.int .u8 a2).wf = true) (w3 : (Lit.int .u16 a3).wf = true) :
    Calls Try.prog 5 #[.slice a0 len0 cap0, .int .u32 a1, .int .u8 a2, .int .u16 a3] w fun e w' => e = .returned (.bool true) ∧ Below w.heap.size w w' := by
  obtain ⟨l0, rfl, hr0, hm0, hw0, hc0⟩ := ReadsInt.ofRowC w0
  obtain ⟨k, h⟩ := P l0 a1 a2 a3 hm0 y0 hw0 w1 w2 w3
  refine (parallaxlaw7_TargetHosts.calls k _ _ l0 a1 a2 a3 true w (Kd.C_of_reads (d := (0 : Int)) (h1 := fun _ => rfl) hr0) hc0 w1 w2 w3 rfl h).mono ?_
  rintro e w' ⟨rfl, hd⟩
  exact ⟨rfl, hd⟩

end Go.Proofs.Ytnnehbbfokoklaa.PTargetHosts
