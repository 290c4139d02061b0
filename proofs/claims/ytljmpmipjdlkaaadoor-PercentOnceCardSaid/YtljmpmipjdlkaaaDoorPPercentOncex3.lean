-- Written by a program of this session (wip/tools/myprint.sh)
import Derived.Test.YtljmpmipjdlkaaaDoorPPercentOncex0
import Derived.Test.YtljmpmipjdlkaaaDoorPPercentOncex1
import Derived.Test.YtljmpmipjdlkaaaDoorPPercentOncex2
namespace Go.Proofs.YtljmpmipjdlkaaaDoor.PPercentOnce
open Go.RowKit Go.Proofs.YtljmpmipjdlkaaaDoorW.PrintWords Go.Proofs.YtljmpmipjdlkaaaDoorW.PrintLast Go.Proofs.YtljmpmipjdlkaaaDoorW.PrintMore
attribute [local go_sem] max2_int min2_int max_two min_two max_three min_three max_four min_four   -- for this text's walks alone
set_option linter.unusedVariables false
set_option linter.unusedSimpArgs false

/-! ### percent_norm: function 19 -/
def percent_norm.f (a0 : Int) : Option (ByteArray) := if (Go.bits .or .u8 a0 32) ≥ 97 then (if (Go.bits .or .u8 a0 32) ≤ 122 then (some (strOfNums (([a0] : List Int)))) else ((octet_Digit.f a0).bind fun t169 => (if t169 = true then (some (strOfNums (([a0] : List Int)))) else ((strings_IndexByte.f (⟨#[45, 46, 95, 126]⟩ : ByteArray) a0).bind fun t173 => (if t173 ≥ 0 then (some (strOfNums (([a0] : List Int)))) else (if 0 ≤ (wrap64 (Int.tdiv (wrap64 (a0)) 16)) then (if (wrap64 (Int.tdiv (wrap64 (a0)) 16)) < 16 then (if 0 ≤ (Int.tmod (wrap64 (a0)) 16) then (if (Int.tmod (wrap64 (a0)) 16) < 16 then (some (strOfNums (([37, bt (⟨#[48, 49, 50, 51, 52, 53, 54, 55, 56, 57, 65, 66, 67, 68, 69, 70]⟩ : ByteArray) (wrap64 (Int.tdiv (wrap64 (a0)) 16)), bt (⟨#[48, 49, 50, 51, 52, 53, 54, 55, 56, 57, 65, 66, 67, 68, 69, 70]⟩ : ByteArray) (Int.tmod (wrap64 (a0)) 16)] : List Int)))) else (none)) else (none)) else (none)) else (none))))))) else ((octet_Digit.f a0).bind fun t180 => (if t180 = true then (some (strOfNums (([a0] : List Int)))) else ((strings_IndexByte.f (⟨#[45, 46, 95, 126]⟩ : ByteArray) a0).bind fun t184 => (if t184 ≥ 0 then (some (strOfNums (([a0] : List Int)))) else (if 0 ≤ (wrap64 (Int.tdiv (wrap64 (a0)) 16)) then (if (wrap64 (Int.tdiv (wrap64 (a0)) 16)) < 16 then (if 0 ≤ (Int.tmod (wrap64 (a0)) 16) then (if (Int.tmod (wrap64 (a0)) 16) < 16 then (some (strOfNums (([37, bt (⟨#[48, 49, 50, 51, 52, 53, 54, 55, 56, 57, 65, 66, 67, 68, 69, 70]⟩ : ByteArray) (wrap64 (Int.tdiv (wrap64 (a0)) 16)), bt (⟨#[48, 49, 50, 51, 52, 53, 54, 55, 56, 57, 65, 66, 67, 68, 69, 70]⟩ : ByteArray) (Int.tmod (wrap64 (a0)) 16)] : List Int)))) else (none)) else (none)) else (none)) else (none))))))
def percent_norm.T3 : Bool × List (List Nat × List Nat) := (true, [([], []), ([0], [0]), ([1], [1]), ([2], [2]), ([], []), ([4], [4]), ([5], [5]), ([6], [6]), ([3, 7], [3, 7]), ([8], [8]), ([9, 0, 1, 2, 3, 4, 5, 6, 7, 8, 9], [9])])
def percent_norm.B3 : List Nat := [0, 1, 3, 7, 0, 16, 48, 112, 255, 511, 1023]
theorem percent_norm.tab3 : rtab .any (opsOf Tryd.f19 3) = percent_norm.T3 := by kernel_rfl
theorem percent_norm.bits3 : waitsOk percent_norm.T3.2 percent_norm.B3 = true := by kernel_rfl
set_option maxHeartbeats 8000000 in
set_option maxRecDepth 100000 in
theorem percent_norm.calls (a0 : Int) (r : ByteArray) (w : World) (h : percent_norm.f a0 = some r) :
    Calls Tryd.prog 19 #[.int .u8 a0] w fun e w' => e = .returned (.string r) ∧ Below w.heap.size w w' := by
  have HB := Aside0.mk (Below.refl w.heap.size w)
  have H : (if (Go.bits .or .u8 a0 32) ≥ 97 then (if (Go.bits .or .u8 a0 32) ≤ 122 then (some (strOfNums (([a0] : List Int)))) else ((octet_Digit.f a0).bind fun t169 => (if t169 = true then (some (strOfNums (([a0] : List Int)))) else ((strings_IndexByte.f (⟨#[45, 46, 95, 126]⟩ : ByteArray) a0).bind fun t173 => (if t173 ≥ 0 then (some (strOfNums (([a0] : List Int)))) else (if 0 ≤ (wrap64 (Int.tdiv (wrap64 (a0)) 16)) then (if (wrap64 (Int.tdiv (wrap64 (a0)) 16)) < 16 then (if 0 ≤ (Int.tmod (wrap64 (a0)) 16) then (if (Int.tmod (wrap64 (a0)) 16) < 16 then (some (strOfNums (([37, bt (⟨#[48, 49, 50, 51, 52, 53, 54, 55, 56, 57, 65, 66, 67, 68, 69, 70]⟩ : ByteArray) (wrap64 (Int.tdiv (wrap64 (a0)) 16)), bt (⟨#[48, 49, 50, 51, 52, 53, 54, 55, 56, 57, 65, 66, 67, 68, 69, 70]⟩ : ByteArray) (Int.tmod (wrap64 (a0)) 16)] : List Int)))) else (none)) else (none)) else (none)) else (none))))))) else ((octet_Digit.f a0).bind fun t180 => (if t180 = true then (some (strOfNums (([a0] : List Int)))) else ((strings_IndexByte.f (⟨#[45, 46, 95, 126]⟩ : ByteArray) a0).bind fun t184 => (if t184 ≥ 0 then (some (strOfNums (([a0] : List Int)))) else (if 0 ≤ (wrap64 (Int.tdiv (wrap64 (a0)) 16)) then (if (wrap64 (Int.tdiv (wrap64 (a0)) 16)) < 16 then (if 0 ≤ (Int.tmod (wrap64 (a0)) 16) then (if (Int.tmod (wrap64 (a0)) 16) < 16 then (some (strOfNums (([37, bt (⟨#[48, 49, 50, 51, 52, 53, 54, 55, 56, 57, 65, 66, 67, 68, 69, 70]⟩ : ByteArray) (wrap64 (Int.tdiv (wrap64 (a0)) 16)), bt (⟨#[48, 49, 50, 51, 52, 53, 54, 55, 56, 57, 65, 66, 67, 68, 69, 70]⟩ : ByteArray) (Int.tmod (wrap64 (a0)) 16)] : List Int)))) else (none)) else (none)) else (none)) else (none))))))) = some r := h
  clear h
  by_cases c2 : (Go.bits .or .u8 a0 32) ≥ 97
  · rw [if_pos c2] at H
    have c2b0 : decide (97 ≤ (Go.bits .or .u8 a0 32)) = true := decide_eq_true c2
    clear c2
    by_cases c3 : (Go.bits .or .u8 a0 32) ≤ 122
    · rw [if_pos c3] at H
      have c3b0 : decide ((Go.bits .or .u8 a0 32) ≤ 122) = true := decide_eq_true c3
      clear c3
      obtain ⟨y166, hy166⟩ : ∃ y_ : List Int, y_ = (([a0] : List Int)) := ⟨_, rfl⟩
      replace H : (some (strOfNums y166)) = some r := by first | (rw [hy166]; with_reducible exact H) | (have H2_ := (Option.bind_some _ _).symm.trans H; rw [hy166]; with_reducible exact H2_) | (have H2_ := (Option.bind_some _ _).symm.trans H; with_reducible exact H2_) | with_reducible exact H | (rw [hy166]; exact H) | exact H
      have Ny166 := Aside0.mk hy166
      clear hy166
      obtain rfl := Option.some.inj H
      go_enter Tryd.func19, Tryd.ntmps19
      go_wp2_with (first | ((with_reducible refine gate_dst (N := 21) rfl ?_); refine Kd.R_lit (Kd.int .u8) _ 5 ?hg (N := 21) ?hd (xs := ([a0] : List Int)) (inner := [.int .u8 a0]) (ok := fun _ => True) (okp := fun _ => True) ?hr ?hp (fun _ hk => hk) trivial (Below.refl _ _) (Nat.le_refl _) (by simp) ?_; (case hd => rfl); (case hg => rfl); (case hr => first | (go_simp; done) | (go_simp; rfl)); (case hp => exact (Reps.one (show Kd.M (Kd.int .u8) _ _ _ a0 [.int .u8 a0] from rfl) (Reps.none _ _))); intro v167 w4 ho5 hb hg_ hnew_; clear hg_ hnew_; (first | rw [← Ny166.out] at ho5 | (simp only [Int.reduceToNat] at ho5; rw [← Ny166.out] at ho5)); have n0_ := Aside0.mk (Kd.R_lower ho5 (below_size (by repeat (first | (with_reducible first | exact HB.out | apply below_alloc | apply pw_below_drewN | apply below_drew1) | exact HB.out)))); have n1_ := Aside0.mk (below_step (by repeat (first | (with_reducible first | exact HB.out | apply below_alloc | apply pw_below_drewN | apply below_drew1) | exact HB.out)) hb); clear HB; have HO168 := n0_; have HB := n1_; clear n0_ n1_; clear hb ho5; have hcv6 := own_string (P := Tryd.prog) Tryd.underlying22 Tryd.underlying5 Tryd.underlying9 (Kd.own_of_R HO168.out)))
      go_ret
      exact ⟨by first | rfl | (simp [errW_none, errW_some] <;> rfl) | (simp [*, errW_none, errW_some] <;> rfl), by repeat (first | (with_reducible first | exact HB.out | apply below_alloc | apply pw_below_drewN | apply below_drew1) | exact HB.out)⟩
    · rw [if_neg c3] at H
      have c3b0 : decide ((Go.bits .or .u8 a0 32) ≤ 122) = false := decide_eq_false c3
      clear c3
      replace H := Option.bind_eq_some_iff.mp H
      obtain ⟨t169, A70, H⟩ := H
      replace H : (if t169 = true then (some (strOfNums (([a0] : List Int)))) else ((strings_IndexByte.f (⟨#[45, 46, 95, 126]⟩ : ByteArray) a0).bind fun t173 => (if t173 ≥ 0 then (some (strOfNums (([a0] : List Int)))) else (if 0 ≤ (wrap64 (Int.tdiv (wrap64 (a0)) 16)) then (if (wrap64 (Int.tdiv (wrap64 (a0)) 16)) < 16 then (if 0 ≤ (Int.tmod (wrap64 (a0)) 16) then (if (Int.tmod (wrap64 (a0)) 16) < 16 then (some (strOfNums (([37, bt (⟨#[48, 49, 50, 51, 52, 53, 54, 55, 56, 57, 65, 66, 67, 68, 69, 70]⟩ : ByteArray) (wrap64 (Int.tdiv (wrap64 (a0)) 16)), bt (⟨#[48, 49, 50, 51, 52, 53, 54, 55, 56, 57, 65, 66, 67, 68, 69, 70]⟩ : ByteArray) (Int.tmod (wrap64 (a0)) 16)] : List Int)))) else (none)) else (none)) else (none)) else (none))))) = some r := H
      have A7 := Aside0.mk A70
      clear A70
      by_cases c8 : t169 = true
      · subst c8
        have H1 : (some (strOfNums (([a0] : List Int)))) = some r := by rw [if_pos rfl] at H; exact H
        clear H
        have H := H1
        clear H1
        obtain ⟨y170, hy170⟩ : ∃ y_ : List Int, y_ = (([a0] : List Int)) := ⟨_, rfl⟩
        replace H : (some (strOfNums y170)) = some r := by first | (rw [hy170]; with_reducible exact H) | (have H2_ := (Option.bind_some _ _).symm.trans H; rw [hy170]; with_reducible exact H2_) | (have H2_ := (Option.bind_some _ _).symm.trans H; with_reducible exact H2_) | with_reducible exact H | (rw [hy170]; exact H) | exact H
        have Ny170 := Aside0.mk hy170
        clear hy170
        obtain rfl := Option.some.inj H
        go_enter Tryd.func19, Tryd.ntmps19
        go_wp2_with (first | (go_at_call 34; (with_reducible refine (octet_Digit.calls a0 true _ A7.out).mono ?_); rintro e w' ⟨rfl, ⟨nd, rfl⟩⟩) | ((with_reducible refine gate_dst (N := 21) rfl ?_); refine Kd.R_lit (Kd.int .u8) _ 5 ?hg (N := 21) ?hd (xs := ([a0] : List Int)) (inner := [.int .u8 a0]) (ok := fun _ => True) (okp := fun _ => True) ?hr ?hp (fun _ hk => hk) trivial (Below.refl _ _) (Nat.le_refl _) (by simp) ?_; (case hd => rfl); (case hg => rfl); (case hr => first | (go_simp; done) | (go_simp; rfl)); (case hp => exact (Reps.one (show Kd.M (Kd.int .u8) _ _ _ a0 [.int .u8 a0] from rfl) (Reps.none _ _))); intro v171 w9 ho10 hb hg_ hnew_; clear hg_ hnew_; (first | rw [← Ny170.out] at ho10 | (simp only [Int.reduceToNat] at ho10; rw [← Ny170.out] at ho10)); have n0_ := Aside0.mk (Kd.R_lower ho10 (below_size (by repeat (first | (with_reducible first | exact HB.out | apply below_alloc | apply pw_below_drewN | apply below_drew1) | exact HB.out)))); have n1_ := Aside0.mk (below_step (by repeat (first | (with_reducible first | exact HB.out | apply below_alloc | apply pw_below_drewN | apply below_drew1) | exact HB.out)) hb); clear HB; have HO172 := n0_; have HB := n1_; clear n0_ n1_; clear hb ho10; have hcv11 := own_string (P := Tryd.prog) Tryd.underlying22 Tryd.underlying5 Tryd.underlying9 (Kd.own_of_R HO172.out)))
        go_ret
        exact ⟨by first | rfl | (simp [errW_none, errW_some] <;> rfl) | (simp [*, errW_none, errW_some] <;> rfl), by repeat (first | (with_reducible first | exact HB.out | apply below_alloc | apply pw_below_drewN | apply below_drew1) | exact HB.out)⟩
      · replace c8 := Bool.eq_false_iff.mpr c8
        subst c8
        have H1 : ((strings_IndexByte.f (⟨#[45, 46, 95, 126]⟩ : ByteArray) a0).bind fun t173 => (if t173 ≥ 0 then (some (strOfNums (([a0] : List Int)))) else (if 0 ≤ (wrap64 (Int.tdiv (wrap64 (a0)) 16)) then (if (wrap64 (Int.tdiv (wrap64 (a0)) 16)) < 16 then (if 0 ≤ (Int.tmod (wrap64 (a0)) 16) then (if (Int.tmod (wrap64 (a0)) 16) < 16 then (some (strOfNums (([37, bt (⟨#[48, 49, 50, 51, 52, 53, 54, 55, 56, 57, 65, 66, 67, 68, 69, 70]⟩ : ByteArray) (wrap64 (Int.tdiv (wrap64 (a0)) 16)), bt (⟨#[48, 49, 50, 51, 52, 53, 54, 55, 56, 57, 65, 66, 67, 68, 69, 70]⟩ : ByteArray) (Int.tmod (wrap64 (a0)) 16)] : List Int)))) else (none)) else (none)) else (none)) else (none)))) = some r := by rw [if_neg (show ¬ (false = true) by decide)] at H; exact H
        clear H
        have H := H1
        clear H1
        replace H := Option.bind_eq_some_iff.mp H
        obtain ⟨t173, A120, H⟩ := H
        replace H : (if t173 ≥ 0 then (some (strOfNums (([a0] : List Int)))) else (if 0 ≤ (wrap64 (Int.tdiv (wrap64 (a0)) 16)) then (if (wrap64 (Int.tdiv (wrap64 (a0)) 16)) < 16 then (if 0 ≤ (Int.tmod (wrap64 (a0)) 16) then (if (Int.tmod (wrap64 (a0)) 16) < 16 then (some (strOfNums (([37, bt (⟨#[48, 49, 50, 51, 52, 53, 54, 55, 56, 57, 65, 66, 67, 68, 69, 70]⟩ : ByteArray) (wrap64 (Int.tdiv (wrap64 (a0)) 16)), bt (⟨#[48, 49, 50, 51, 52, 53, 54, 55, 56, 57, 65, 66, 67, 68, 69, 70]⟩ : ByteArray) (Int.tmod (wrap64 (a0)) 16)] : List Int)))) else (none)) else (none)) else (none)) else (none))) = some r := H
        have A12 := Aside0.mk A120
        clear A120
        by_cases c13 : t173 ≥ 0
        · rw [if_pos c13] at H
          have c13b0 : decide (0 ≤ t173) = true := decide_eq_true c13
          clear c13
          obtain ⟨y174, hy174⟩ : ∃ y_ : List Int, y_ = (([a0] : List Int)) := ⟨_, rfl⟩
          replace H : (some (strOfNums y174)) = some r := by first | (rw [hy174]; with_reducible exact H) | (have H2_ := (Option.bind_some _ _).symm.trans H; rw [hy174]; with_reducible exact H2_) | (have H2_ := (Option.bind_some _ _).symm.trans H; with_reducible exact H2_) | with_reducible exact H | (rw [hy174]; exact H) | exact H
          have Ny174 := Aside0.mk hy174
          clear hy174
          obtain rfl := Option.some.inj H
          go_enter Tryd.func19, Tryd.ntmps19
          go_wp2_with (first | (go_at_call 34; (with_reducible refine (octet_Digit.calls a0 false _ A7.out).mono ?_); rintro e w' ⟨rfl, ⟨nd, rfl⟩⟩) | (go_at_call 35; (with_reducible refine (strings_IndexByte.calls (⟨#[45, 46, 95, 126]⟩ : ByteArray) a0 t173 _ A12.out).mono ?_); rintro e w' ⟨rfl, ⟨nd, rfl⟩⟩) | ((with_reducible refine gate_dst (N := 21) rfl ?_); refine Kd.R_lit (Kd.int .u8) _ 5 ?hg (N := 21) ?hd (xs := ([a0] : List Int)) (inner := [.int .u8 a0]) (ok := fun _ => True) (okp := fun _ => True) ?hr ?hp (fun _ hk => hk) trivial (Below.refl _ _) (Nat.le_refl _) (by simp) ?_; (case hd => rfl); (case hg => rfl); (case hr => first | (go_simp; done) | (go_simp; rfl)); (case hp => exact (Reps.one (show Kd.M (Kd.int .u8) _ _ _ a0 [.int .u8 a0] from rfl) (Reps.none _ _))); intro v175 w14 ho15 hb hg_ hnew_; clear hg_ hnew_; (first | rw [← Ny174.out] at ho15 | (simp only [Int.reduceToNat] at ho15; rw [← Ny174.out] at ho15)); have n0_ := Aside0.mk (Kd.R_lower ho15 (below_size (by repeat (first | (with_reducible first | exact HB.out | apply below_alloc | apply pw_below_drewN | apply below_drew1) | exact HB.out)))); have n1_ := Aside0.mk (below_step (by repeat (first | (with_reducible first | exact HB.out | apply below_alloc | apply pw_below_drewN | apply below_drew1) | exact HB.out)) hb); clear HB; have HO176 := n0_; have HB := n1_; clear n0_ n1_; clear hb ho15; have hcv16 := own_string (P := Tryd.prog) Tryd.underlying22 Tryd.underlying5 Tryd.underlying9 (Kd.own_of_R HO176.out)))
          go_ret
          exact ⟨by first | rfl | (simp [errW_none, errW_some] <;> rfl) | (simp [*, errW_none, errW_some] <;> rfl), by repeat (first | (with_reducible first | exact HB.out | apply below_alloc | apply pw_below_drewN | apply below_drew1) | exact HB.out)⟩
        · rw [if_neg c13] at H
          have c13b0 : decide (0 ≤ t173) = false := decide_eq_false c13
          clear c13
          obtain ⟨ji17, hji17⟩ : ∃ j_ : Int, (wrap64 (Int.tdiv (wrap64 (a0)) 16)) = j_ := ⟨_, rfl⟩
          replace H : (if 0 ≤ (ji17) then (if (ji17) < 16 then (if 0 ≤ (Int.tmod (wrap64 (a0)) 16) then (if (Int.tmod (wrap64 (a0)) 16) < 16 then (some (strOfNums (([37, bt (⟨#[48, 49, 50, 51, 52, 53, 54, 55, 56, 57, 65, 66, 67, 68, 69, 70]⟩ : ByteArray) (ji17), bt (⟨#[48, 49, 50, 51, 52, 53, 54, 55, 56, 57, 65, 66, 67, 68, 69, 70]⟩ : ByteArray) (Int.tmod (wrap64 (a0)) 16)] : List Int)))) else (none)) else (none)) else (none)) else (none)) = some r := by first | (rw [hji17] at H; exact H) | (simp only [hji17] at H ⊢; exact H)
          (try rw [hji17] at A7)
          (try rw [hji17] at A12)
          have hji17w : (IntKind.i64.wrap (Int.tdiv (wrap64 (a0)) 16)) = ji17 := (i64_w _).trans hji17
          by_cases c18 : 0 ≤ (ji17)
          · rw [if_pos c18] at H
            have c18b0 : decide (0 ≤ (ji17)) = true := decide_eq_true c18
            clear c18
            by_cases c19 : (ji17) < 16
            · rw [if_pos c19] at H
              have c19b0 : decide ((ji17) < 16) = true := decide_eq_true c19
              clear c19
              obtain ⟨ji21, hji21⟩ : ∃ j_ : Int, (Int.tmod (wrap64 (a0)) 16) = j_ := ⟨_, rfl⟩
              replace H : (if 0 ≤ (ji21) then (if (ji21) < 16 then (some (strOfNums (([37, bt (⟨#[48, 49, 50, 51, 52, 53, 54, 55, 56, 57, 65, 66, 67, 68, 69, 70]⟩ : ByteArray) (ji17), bt (⟨#[48, 49, 50, 51, 52, 53, 54, 55, 56, 57, 65, 66, 67, 68, 69, 70]⟩ : ByteArray) (ji21)] : List Int)))) else (none)) else (none)) = some r := by first | (rw [hji21] at H; exact H) | (simp only [hji21] at H ⊢; exact H)
              (try rw [hji21] at A7)
              (try rw [hji21] at A12)
              by_cases c22 : 0 ≤ (ji21)
              · rw [if_pos c22] at H
                have c22b0 : decide (0 ≤ (ji21)) = true := decide_eq_true c22
                clear c22
                by_cases c23 : (ji21) < 16
                · rw [if_pos c23] at H
                  have c23b0 : decide ((ji21) < 16) = true := decide_eq_true c23
                  clear c23
                  obtain ⟨y177, hy177⟩ : ∃ y_ : List Int, y_ = (([37, bt (⟨#[48, 49, 50, 51, 52, 53, 54, 55, 56, 57, 65, 66, 67, 68, 69, 70]⟩ : ByteArray) (ji17), bt (⟨#[48, 49, 50, 51, 52, 53, 54, 55, 56, 57, 65, 66, 67, 68, 69, 70]⟩ : ByteArray) (ji21)] : List Int)) := ⟨_, rfl⟩
                  replace H : (some (strOfNums y177)) = some r := by first | (rw [hy177]; with_reducible exact H) | (have H2_ := (Option.bind_some _ _).symm.trans H; rw [hy177]; with_reducible exact H2_) | (have H2_ := (Option.bind_some _ _).symm.trans H; with_reducible exact H2_) | with_reducible exact H | (rw [hy177]; exact H) | exact H
                  have Ny177 := Aside0.mk hy177
                  clear hy177
                  obtain rfl := Option.some.inj H
                  go_enter Tryd.func19, Tryd.ntmps19
                  try go_wp2_with (first | (go_at_call 34; (with_reducible refine (octet_Digit.calls a0 false _ A7.out).mono ?_); rintro e w' ⟨rfl, ⟨nd, hd_⟩⟩; have n0_ := Aside0.mk (show Below w.heap.size w w' by rw [hd_]; exact pw_below_drewN HB.out nd); clear HB; have HB := n0_; clear n0_ hd_) | (go_at_call 35; (with_reducible refine (strings_IndexByte.calls (⟨#[45, 46, 95, 126]⟩ : ByteArray) a0 t173 _ A12.out).mono ?_); rintro e w' ⟨rfl, ⟨nd, hd_⟩⟩; have n0_ := Aside0.mk (show Below w.heap.size w w' by rw [hd_]; exact pw_below_drewN HB.out nd); clear HB; have HB := n0_; clear n0_ hd_))
                  have n0_ := Aside0.mk (below_drew1 HB.out)
                  clear HB
                  have HB := n0_
                  clear n0_
                  have p20 : 0 ≤ ((ji17) : Int) := of_decide_eq_true (by first | (with_reducible assumption) | assumption)
                  have q20 : (ji17) < (16 : Int) := of_decide_eq_true (by first | (with_reducible assumption) | assumption)
                  have hx20 := bt_at (⟨#[48, 49, 50, 51, 52, 53, 54, 55, 56, 57, 65, 66, 67, 68, 69, 70]⟩ : ByteArray) (ji17)
                  replace p20 := eq_true p20
                  replace q20 := eq_true q20
                  have p24 : 0 ≤ ((ji21) : Int) := of_decide_eq_true (by first | (with_reducible assumption) | assumption)
                  have q24 : (ji21) < (16 : Int) := of_decide_eq_true (by first | (with_reducible assumption) | assumption)
                  have hx24 := bt_at (⟨#[48, 49, 50, 51, 52, 53, 54, 55, 56, 57, 65, 66, 67, 68, 69, 70]⟩ : ByteArray) (ji21)
                  replace p24 := eq_true p24
                  replace q24 := eq_true q24
                  refine start_ (n := 11) (S := fun w' => True) (ds := []) #[false, false, false, false, false, false, false, false, false, false, false] (by kernel_rfl) rfl rfl trivial (fun hHeld => ?_); refine with_tabW percent_norm.tab3 percent_norm.bits3 (fun HT_ HW_ => ?_)
                  generalize w'.drew = w25 at HB hHeld ⊢
                  refine pure_ (i := 0) (N := some 23) (v := ?_) (a' := ?_) #[true, false, false, false, false, false, false, false, false, false, false] rfl rfl (any_of HT_.out (by kernel_rfl)) (fun _ _ _ h => h) (Or.inl ⟨by rfl, ?_⟩) ?_ ?_
                  rotate_left
                  · intro w'
                    go_simp
                    with_reducible rfl
                  rotate_left
                  · simp only [Act.put, List.setIfInBounds_toArray, List.set_cons_zero, List.set_cons_succ, i64_w, i32_w]
                    rfl
                  refine pure_ (i := 1) (N := some 24) (v := ?_) (a' := ?_) #[true, true, false, false, false, false, false, false, false, false, false] rfl rfl (any_of HT_.out (by kernel_rfl)) (fun _ _ _ h => h) (Or.inl ⟨by rfl, ?_⟩) ?_ ?_
                  rotate_left
                  · intro w'
                    go_simp
                    with_reducible rfl
                  rotate_left
                  · simp only [Act.put, List.setIfInBounds_toArray, List.set_cons_zero, List.set_cons_succ, i64_w, i32_w]
                    rfl
                  refine pure_ (i := 2) (N := some 25) (v := ?_) (a' := ?_) #[true, true, true, false, false, false, false, false, false, false, false] rfl rfl (any_of HT_.out (by kernel_rfl)) (fun _ _ _ h => h) (Or.inl ⟨by rfl, ?_⟩) ?_ ?_
                  rotate_left
                  · intro w'
                    go_simp
                    with_reducible rfl
                  rotate_left
                  · simp only [Act.put, List.setIfInBounds_toArray, List.set_cons_zero, List.set_cons_succ, i64_w, i32_w]
                    rfl
                  refine pure_ (i := 4) (N := some 27) (v := ?_) (a' := ?_) #[true, true, true, false, true, false, false, false, false, false, false] rfl rfl (any_of HT_.out (by kernel_rfl)) (fun _ _ _ h => h) (Or.inl ⟨by rfl, ?_⟩) ?_ ?_
                  rotate_left
                  · intro w'
                    go_simp
                    with_reducible rfl
                  rotate_left
                  · simp only [Act.put, List.setIfInBounds_toArray, List.set_cons_zero, List.set_cons_succ, i64_w, i32_w]
                    rfl
                  refine pure_ (i := 5) (N := some 28) (v := ?_) (a' := ?_) #[true, true, true, false, true, true, false, false, false, false, false] rfl rfl (any_of HT_.out (by kernel_rfl)) (fun _ _ _ h => h) (Or.inl ⟨by rfl, ?_⟩) ?_ ?_
                  rotate_left
                  · intro w'
                    go_simp
                    with_reducible rfl
                  rotate_left
                  · simp only [Act.put, List.setIfInBounds_toArray, List.set_cons_zero, List.set_cons_succ, i64_w, i32_w]
                    rfl
                  refine pure_ (i := 6) (N := some 29) (v := ?_) (a' := ?_) #[true, true, true, false, true, true, true, false, false, false, false] rfl rfl (any_of HT_.out (by kernel_rfl)) (fun _ _ _ h => h) (Or.inl ⟨by rfl, ?_⟩) ?_ ?_
                  rotate_left
                  · intro w'
                    go_simp
                    with_reducible rfl
                  rotate_left
                  · simp only [Act.put, List.setIfInBounds_toArray, List.set_cons_zero, List.set_cons_succ, i64_w, i32_w]
                    rfl
                  refine take_ (i := 3) (N := some 26) (v := ?_) (a' := ?_) #[true, true, true, true, true, true, true, false, false, false, false] rfl rfl (take_ofW HT_.out HW_.out (by kernel_rfl)) (fun _ _ _ h => h) (Or.inl ⟨by rfl, ?_⟩) hHeld ?_ ?_
                  rotate_left
                  · intro w' _
                    go_simp
                    with_reducible rfl
                  rotate_left
                  · simp only [Act.put, List.setIfInBounds_toArray, List.set_cons_zero, List.set_cons_succ, i64_w, i32_w]
                    rfl
                  refine take_ (i := 7) (N := some 30) (v := ?_) (a' := ?_) #[true, true, true, true, true, true, true, true, false, false, false] rfl rfl (take_ofW HT_.out HW_.out (by kernel_rfl)) (fun _ _ _ h => h) (Or.inl ⟨by rfl, ?_⟩) hHeld ?_ ?_
                  rotate_left
                  · intro w' _
                    go_simp
                    with_reducible rfl
                  rotate_left
                  · simp only [Act.put, List.setIfInBounds_toArray, List.set_cons_zero, List.set_cons_succ, i64_w, i32_w]
                    rfl
                  refine one_ (i := 8) (N := some 31) #[true, true, true, true, true, true, true, true, true, false, false] rfl rfl (one_of HT_.out (by kernel_rfl)) (by decide) (fun K hK => ?_)
                  refine Kd.R_lit_step (Kd.int .u8) _ 5 ?hg (N := 31) ?hd (xs := ([37, bt (⟨#[48, 49, 50, 51, 52, 53, 54, 55, 56, 57, 65, 66, 67, 68, 69, 70]⟩ : ByteArray) (ji17), bt (⟨#[48, 49, 50, 51, 52, 53, 54, 55, 56, 57, 65, 66, 67, 68, 69, 70]⟩ : ByteArray) (ji21)] : List Int)) (inner := [.int .u8 37, .int .u8 (bt (⟨#[48, 49, 50, 51, 52, 53, 54, 55, 56, 57, 65, 66, 67, 68, 69, 70]⟩ : ByteArray) (ji17)), .int .u8 (bt (⟨#[48, 49, 50, 51, 52, 53, 54, 55, 56, 57, 65, 66, 67, 68, 69, 70]⟩ : ByteArray) (ji21))]) (ok := fun _ => True) (okp := fun _ => True) ?hr ?hp (fun _ hk => hk) trivial (Below.refl _ _) (Nat.le_refl _) (by simp) ?_; (case hd => rfl); (case hg => rfl); (case hr => first | (go_simp; done) | (go_simp; rfl)); (case hp => exact (Reps.one (show Kd.M (Kd.int .u8) _ _ _ 37 [.int .u8 37] from rfl) (Reps.one (show Kd.M (Kd.int .u8) _ _ _ (bt (⟨#[48, 49, 50, 51, 52, 53, 54, 55, 56, 57, 65, 66, 67, 68, 69, 70]⟩ : ByteArray) (ji17)) [.int .u8 (bt (⟨#[48, 49, 50, 51, 52, 53, 54, 55, 56, 57, 65, 66, 67, 68, 69, 70]⟩ : ByteArray) (ji17))] from rfl) (Reps.one (show Kd.M (Kd.int .u8) _ _ _ (bt (⟨#[48, 49, 50, 51, 52, 53, 54, 55, 56, 57, 65, 66, 67, 68, 69, 70]⟩ : ByteArray) (ji21)) [.int .u8 (bt (⟨#[48, 49, 50, 51, 52, 53, 54, 55, 56, 57, 65, 66, 67, 68, 69, 70]⟩ : ByteArray) (ji21))] from rfl) (Reps.none _ _)))))
                  intro v178 w26 ho27 hb hg_ hnew_
                  clear hg_ hnew_
                  (first | rw [← Ny177.out] at ho27 | (simp only [Int.reduceToNat] at ho27; rw [← Ny177.out] at ho27))
                  have n0_ := Aside0.mk (Kd.R_lower ho27 (below_size (by repeat (first | (with_reducible first | exact HB.out | apply below_alloc | apply pw_below_drewN | apply below_drew1) | exact HB.out))))
                  have n1_ := Aside0.mk (below_step (by repeat (first | (with_reducible first | exact HB.out | apply below_alloc | apply pw_below_drewN | apply below_drew1) | exact HB.out)) hb)
                  clear HB
                  have HO179 := n0_
                  have HB := n1_
                  clear n0_ n1_
                  clear hb ho27
                  refine hK.out _ _ trivial (fun hHeld => ?_)
                  clear hK K
                  refine norm_ (a' := ?_) ?_ ?_
                  rotate_left
                  · show Act.put _ (some 31) _ = _
                    simp only [Act.put, List.setIfInBounds_toArray, List.set_cons_zero, List.set_cons_succ, i64_w, i32_w]
                    rfl
                  refine one_ (i := 9) (N := some 32) #[true, true, true, true, true, true, true, true, true, true, false] rfl rfl (one_of HT_.out (by kernel_rfl)) (by decide) (fun K hK => ?_)
                  have hcv28 := own_string (P := Tryd.prog) Tryd.underlying22 Tryd.underlying5 Tryd.underlying9 (Kd.own_of_R HO179.out)
                  refine value_ (w1 := ?_) (v := ?_) (by rfl) rfl ?_ ?_
                  rotate_left 2
                  · go_simp
                    constructor
                    · rfl
                    · rfl
                  clear hcv28
                  refine hK.out _ _ trivial (fun hHeld => ?_)
                  clear hK K
                  refine norm_ (a' := ?_) ?_ ?_
                  rotate_left
                  · show Act.put _ (some 32) _ = _
                    simp only [Act.put, List.setIfInBounds_toArray, List.set_cons_zero, List.set_cons_succ, i64_w, i32_w]
                    rfl
                  refine pure_ (i := 10) (N := some 2) (v := ?_) (a' := ?_) #[true, true, true, true, true, true, true, true, true, true, true] rfl rfl (any_of HT_.out (by kernel_rfl)) (fun _ _ _ h => h) (Or.inl ⟨by rfl, ?_⟩) ?_ ?_
                  rotate_left
                  · intro w'
                    go_simp
                    with_reducible rfl
                  rotate_left
                  · simp only [Act.put, List.setIfInBounds_toArray, List.set_cons_zero, List.set_cons_succ, i64_w, i32_w]
                    rfl
                  refine done_ (done_of HT_.out (by kernel_rfl)) ?_
                  try go_wp2
                  go_ret
                  exact ⟨by first | rfl | (simp [errW_none, errW_some] <;> rfl) | (simp only [← hji17, ← hji21]; first | rfl | (simp [errW_none, errW_some] <;> rfl)) | (simp [*, errW_none, errW_some] <;> rfl), by repeat (first | (with_reducible first | exact HB.out | apply below_alloc | apply pw_below_drewN | apply below_drew1) | exact HB.out)⟩
                · rw [if_neg c23] at H
                  exact absurd H (by simp)
              · rw [if_neg c22] at H
                exact absurd H (by simp)
            · rw [if_neg c19] at H
              exact absurd H (by simp)
          · rw [if_neg c18] at H
            exact absurd H (by simp)
  · rw [if_neg c2] at H
    have c2b0 : decide (97 ≤ (Go.bits .or .u8 a0 32)) = false := decide_eq_false c2
    clear c2
    replace H := Option.bind_eq_some_iff.mp H
    obtain ⟨t180, A290, H⟩ := H
    replace H : (if t180 = true then (some (strOfNums (([a0] : List Int)))) else ((strings_IndexByte.f (⟨#[45, 46, 95, 126]⟩ : ByteArray) a0).bind fun t184 => (if t184 ≥ 0 then (some (strOfNums (([a0] : List Int)))) else (if 0 ≤ (wrap64 (Int.tdiv (wrap64 (a0)) 16)) then (if (wrap64 (Int.tdiv (wrap64 (a0)) 16)) < 16 then (if 0 ≤ (Int.tmod (wrap64 (a0)) 16) then (if (Int.tmod (wrap64 (a0)) 16) < 16 then (some (strOfNums (([37, bt (⟨#[48, 49, 50, 51, 52, 53, 54, 55, 56, 57, 65, 66, 67, 68, 69, 70]⟩ : ByteArray) (wrap64 (Int.tdiv (wrap64 (a0)) 16)), bt (⟨#[48, 49, 50, 51, 52, 53, 54, 55, 56, 57, 65, 66, 67, 68, 69, 70]⟩ : ByteArray) (Int.tmod (wrap64 (a0)) 16)] : List Int)))) else (none)) else (none)) else (none)) else (none))))) = some r := H
    have A29 := Aside0.mk A290
    clear A290
    by_cases c30 : t180 = true
    · subst c30
      have H1 : (some (strOfNums (([a0] : List Int)))) = some r := by rw [if_pos rfl] at H; exact H
      clear H
      have H := H1
      clear H1
      obtain ⟨y181, hy181⟩ : ∃ y_ : List Int, y_ = (([a0] : List Int)) := ⟨_, rfl⟩
      replace H : (some (strOfNums y181)) = some r := by first | (rw [hy181]; with_reducible exact H) | (have H2_ := (Option.bind_some _ _).symm.trans H; rw [hy181]; with_reducible exact H2_) | (have H2_ := (Option.bind_some _ _).symm.trans H; with_reducible exact H2_) | with_reducible exact H | (rw [hy181]; exact H) | exact H
      have Ny181 := Aside0.mk hy181
      clear hy181
      obtain rfl := Option.some.inj H
      go_enter Tryd.func19, Tryd.ntmps19
      go_wp2_with (first | (go_at_call 34; (with_reducible refine (octet_Digit.calls a0 true _ A29.out).mono ?_); rintro e w' ⟨rfl, ⟨nd, rfl⟩⟩) | ((with_reducible refine gate_dst (N := 21) rfl ?_); refine Kd.R_lit (Kd.int .u8) _ 5 ?hg (N := 21) ?hd (xs := ([a0] : List Int)) (inner := [.int .u8 a0]) (ok := fun _ => True) (okp := fun _ => True) ?hr ?hp (fun _ hk => hk) trivial (Below.refl _ _) (Nat.le_refl _) (by simp) ?_; (case hd => rfl); (case hg => rfl); (case hr => first | (go_simp; done) | (go_simp; rfl)); (case hp => exact (Reps.one (show Kd.M (Kd.int .u8) _ _ _ a0 [.int .u8 a0] from rfl) (Reps.none _ _))); intro v182 w31 ho32 hb hg_ hnew_; clear hg_ hnew_; (first | rw [← Ny181.out] at ho32 | (simp only [Int.reduceToNat] at ho32; rw [← Ny181.out] at ho32)); have n0_ := Aside0.mk (Kd.R_lower ho32 (below_size (by repeat (first | (with_reducible first | exact HB.out | apply below_alloc | apply pw_below_drewN | apply below_drew1) | exact HB.out)))); have n1_ := Aside0.mk (below_step (by repeat (first | (with_reducible first | exact HB.out | apply below_alloc | apply pw_below_drewN | apply below_drew1) | exact HB.out)) hb); clear HB; have HO183 := n0_; have HB := n1_; clear n0_ n1_; clear hb ho32; have hcv33 := own_string (P := Tryd.prog) Tryd.underlying22 Tryd.underlying5 Tryd.underlying9 (Kd.own_of_R HO183.out)))
      go_ret
      exact ⟨by first | rfl | (simp [errW_none, errW_some] <;> rfl) | (simp [*, errW_none, errW_some] <;> rfl), by repeat (first | (with_reducible first | exact HB.out | apply below_alloc | apply pw_below_drewN | apply below_drew1) | exact HB.out)⟩
    · replace c30 := Bool.eq_false_iff.mpr c30
      subst c30
      have H1 : ((strings_IndexByte.f (⟨#[45, 46, 95, 126]⟩ : ByteArray) a0).bind fun t184 => (if t184 ≥ 0 then (some (strOfNums (([a0] : List Int)))) else (if 0 ≤ (wrap64 (Int.tdiv (wrap64 (a0)) 16)) then (if (wrap64 (Int.tdiv (wrap64 (a0)) 16)) < 16 then (if 0 ≤ (Int.tmod (wrap64 (a0)) 16) then (if (Int.tmod (wrap64 (a0)) 16) < 16 then (some (strOfNums (([37, bt (⟨#[48, 49, 50, 51, 52, 53, 54, 55, 56, 57, 65, 66, 67, 68, 69, 70]⟩ : ByteArray) (wrap64 (Int.tdiv (wrap64 (a0)) 16)), bt (⟨#[48, 49, 50, 51, 52, 53, 54, 55, 56, 57, 65, 66, 67, 68, 69, 70]⟩ : ByteArray) (Int.tmod (wrap64 (a0)) 16)] : List Int)))) else (none)) else (none)) else (none)) else (none)))) = some r := by rw [if_neg (show ¬ (false = true) by decide)] at H; exact H
      clear H
      have H := H1
      clear H1
      replace H := Option.bind_eq_some_iff.mp H
      obtain ⟨t184, A340, H⟩ := H
      replace H : (if t184 ≥ 0 then (some (strOfNums (([a0] : List Int)))) else (if 0 ≤ (wrap64 (Int.tdiv (wrap64 (a0)) 16)) then (if (wrap64 (Int.tdiv (wrap64 (a0)) 16)) < 16 then (if 0 ≤ (Int.tmod (wrap64 (a0)) 16) then (if (Int.tmod (wrap64 (a0)) 16) < 16 then (some (strOfNums (([37, bt (⟨#[48, 49, 50, 51, 52, 53, 54, 55, 56, 57, 65, 66, 67, 68, 69, 70]⟩ : ByteArray) (wrap64 (Int.tdiv (wrap64 (a0)) 16)), bt (⟨#[48, 49, 50, 51, 52, 53, 54, 55, 56, 57, 65, 66, 67, 68, 69, 70]⟩ : ByteArray) (Int.tmod (wrap64 (a0)) 16)] : List Int)))) else (none)) else (none)) else (none)) else (none))) = some r := H
      have A34 := Aside0.mk A340
      clear A340
      by_cases c35 : t184 ≥ 0
      · rw [if_pos c35] at H
        have c35b0 : decide (0 ≤ t184) = true := decide_eq_true c35
        clear c35
        obtain ⟨y185, hy185⟩ : ∃ y_ : List Int, y_ = (([a0] : List Int)) := ⟨_, rfl⟩
        replace H : (some (strOfNums y185)) = some r := by first | (rw [hy185]; with_reducible exact H) | (have H2_ := (Option.bind_some _ _).symm.trans H; rw [hy185]; with_reducible exact H2_) | (have H2_ := (Option.bind_some _ _).symm.trans H; with_reducible exact H2_) | with_reducible exact H | (rw [hy185]; exact H) | exact H
        have Ny185 := Aside0.mk hy185
        clear hy185
        obtain rfl := Option.some.inj H
        go_enter Tryd.func19, Tryd.ntmps19
        go_wp2_with (first | (go_at_call 34; (with_reducible refine (octet_Digit.calls a0 false _ A29.out).mono ?_); rintro e w' ⟨rfl, ⟨nd, rfl⟩⟩) | (go_at_call 35; (with_reducible refine (strings_IndexByte.calls (⟨#[45, 46, 95, 126]⟩ : ByteArray) a0 t184 _ A34.out).mono ?_); rintro e w' ⟨rfl, ⟨nd, rfl⟩⟩) | ((with_reducible refine gate_dst (N := 21) rfl ?_); refine Kd.R_lit (Kd.int .u8) _ 5 ?hg (N := 21) ?hd (xs := ([a0] : List Int)) (inner := [.int .u8 a0]) (ok := fun _ => True) (okp := fun _ => True) ?hr ?hp (fun _ hk => hk) trivial (Below.refl _ _) (Nat.le_refl _) (by simp) ?_; (case hd => rfl); (case hg => rfl); (case hr => first | (go_simp; done) | (go_simp; rfl)); (case hp => exact (Reps.one (show Kd.M (Kd.int .u8) _ _ _ a0 [.int .u8 a0] from rfl) (Reps.none _ _))); intro v186 w36 ho37 hb hg_ hnew_; clear hg_ hnew_; (first | rw [← Ny185.out] at ho37 | (simp only [Int.reduceToNat] at ho37; rw [← Ny185.out] at ho37)); have n0_ := Aside0.mk (Kd.R_lower ho37 (below_size (by repeat (first | (with_reducible first | exact HB.out | apply below_alloc | apply pw_below_drewN | apply below_drew1) | exact HB.out)))); have n1_ := Aside0.mk (below_step (by repeat (first | (with_reducible first | exact HB.out | apply below_alloc | apply pw_below_drewN | apply below_drew1) | exact HB.out)) hb); clear HB; have HO187 := n0_; have HB := n1_; clear n0_ n1_; clear hb ho37; have hcv38 := own_string (P := Tryd.prog) Tryd.underlying22 Tryd.underlying5 Tryd.underlying9 (Kd.own_of_R HO187.out)))
        go_ret
        exact ⟨by first | rfl | (simp [errW_none, errW_some] <;> rfl) | (simp [*, errW_none, errW_some] <;> rfl), by repeat (first | (with_reducible first | exact HB.out | apply below_alloc | apply pw_below_drewN | apply below_drew1) | exact HB.out)⟩
      · rw [if_neg c35] at H
        have c35b0 : decide (0 ≤ t184) = false := decide_eq_false c35
        clear c35
        obtain ⟨ji39, hji39⟩ : ∃ j_ : Int, (wrap64 (Int.tdiv (wrap64 (a0)) 16)) = j_ := ⟨_, rfl⟩
        replace H : (if 0 ≤ (ji39) then (if (ji39) < 16 then (if 0 ≤ (Int.tmod (wrap64 (a0)) 16) then (if (Int.tmod (wrap64 (a0)) 16) < 16 then (some (strOfNums (([37, bt (⟨#[48, 49, 50, 51, 52, 53, 54, 55, 56, 57, 65, 66, 67, 68, 69, 70]⟩ : ByteArray) (ji39), bt (⟨#[48, 49, 50, 51, 52, 53, 54, 55, 56, 57, 65, 66, 67, 68, 69, 70]⟩ : ByteArray) (Int.tmod (wrap64 (a0)) 16)] : List Int)))) else (none)) else (none)) else (none)) else (none)) = some r := by first | (rw [hji39] at H; exact H) | (simp only [hji39] at H ⊢; exact H)
        (try rw [hji39] at A29)
        (try rw [hji39] at A34)
        have hji39w : (IntKind.i64.wrap (Int.tdiv (wrap64 (a0)) 16)) = ji39 := (i64_w _).trans hji39
        by_cases c40 : 0 ≤ (ji39)
        · rw [if_pos c40] at H
          have c40b0 : decide (0 ≤ (ji39)) = true := decide_eq_true c40
          clear c40
          by_cases c41 : (ji39) < 16
          · rw [if_pos c41] at H
            have c41b0 : decide ((ji39) < 16) = true := decide_eq_true c41
            clear c41
            obtain ⟨ji43, hji43⟩ : ∃ j_ : Int, (Int.tmod (wrap64 (a0)) 16) = j_ := ⟨_, rfl⟩
            replace H : (if 0 ≤ (ji43) then (if (ji43) < 16 then (some (strOfNums (([37, bt (⟨#[48, 49, 50, 51, 52, 53, 54, 55, 56, 57, 65, 66, 67, 68, 69, 70]⟩ : ByteArray) (ji39), bt (⟨#[48, 49, 50, 51, 52, 53, 54, 55, 56, 57, 65, 66, 67, 68, 69, 70]⟩ : ByteArray) (ji43)] : List Int)))) else (none)) else (none)) = some r := by first | (rw [hji43] at H; exact H) | (simp only [hji43] at H ⊢; exact H)
            (try rw [hji43] at A29)
            (try rw [hji43] at A34)
            by_cases c44 : 0 ≤ (ji43)
            · rw [if_pos c44] at H
              have c44b0 : decide (0 ≤ (ji43)) = true := decide_eq_true c44
              clear c44
              by_cases c45 : (ji43) < 16
              · rw [if_pos c45] at H
                have c45b0 : decide ((ji43) < 16) = true := decide_eq_true c45
                clear c45
                obtain ⟨y188, hy188⟩ : ∃ y_ : List Int, y_ = (([37, bt (⟨#[48, 49, 50, 51, 52, 53, 54, 55, 56, 57, 65, 66, 67, 68, 69, 70]⟩ : ByteArray) (ji39), bt (⟨#[48, 49, 50, 51, 52, 53, 54, 55, 56, 57, 65, 66, 67, 68, 69, 70]⟩ : ByteArray) (ji43)] : List Int)) := ⟨_, rfl⟩
                replace H : (some (strOfNums y188)) = some r := by first | (rw [hy188]; with_reducible exact H) | (have H2_ := (Option.bind_some _ _).symm.trans H; rw [hy188]; with_reducible exact H2_) | (have H2_ := (Option.bind_some _ _).symm.trans H; with_reducible exact H2_) | with_reducible exact H | (rw [hy188]; exact H) | exact H
                have Ny188 := Aside0.mk hy188
                clear hy188
                obtain rfl := Option.some.inj H
                go_enter Tryd.func19, Tryd.ntmps19
                try go_wp2_with (first | (go_at_call 34; (with_reducible refine (octet_Digit.calls a0 false _ A29.out).mono ?_); rintro e w' ⟨rfl, ⟨nd, hd_⟩⟩; have n0_ := Aside0.mk (show Below w.heap.size w w' by rw [hd_]; exact pw_below_drewN HB.out nd); clear HB; have HB := n0_; clear n0_ hd_) | (go_at_call 35; (with_reducible refine (strings_IndexByte.calls (⟨#[45, 46, 95, 126]⟩ : ByteArray) a0 t184 _ A34.out).mono ?_); rintro e w' ⟨rfl, ⟨nd, hd_⟩⟩; have n0_ := Aside0.mk (show Below w.heap.size w w' by rw [hd_]; exact pw_below_drewN HB.out nd); clear HB; have HB := n0_; clear n0_ hd_))
                have n0_ := Aside0.mk (below_drew1 HB.out)
                clear HB
                have HB := n0_
                clear n0_
                have p42 : 0 ≤ ((ji39) : Int) := of_decide_eq_true (by first | (with_reducible assumption) | assumption)
                have q42 : (ji39) < (16 : Int) := of_decide_eq_true (by first | (with_reducible assumption) | assumption)
                have hx42 := bt_at (⟨#[48, 49, 50, 51, 52, 53, 54, 55, 56, 57, 65, 66, 67, 68, 69, 70]⟩ : ByteArray) (ji39)
                replace p42 := eq_true p42
                replace q42 := eq_true q42
                have p46 : 0 ≤ ((ji43) : Int) := of_decide_eq_true (by first | (with_reducible assumption) | assumption)
                have q46 : (ji43) < (16 : Int) := of_decide_eq_true (by first | (with_reducible assumption) | assumption)
                have hx46 := bt_at (⟨#[48, 49, 50, 51, 52, 53, 54, 55, 56, 57, 65, 66, 67, 68, 69, 70]⟩ : ByteArray) (ji43)
                replace p46 := eq_true p46
                replace q46 := eq_true q46
                refine start_ (n := 11) (S := fun w' => True) (ds := []) #[false, false, false, false, false, false, false, false, false, false, false] (by kernel_rfl) rfl rfl trivial (fun hHeld => ?_); refine with_tabW percent_norm.tab3 percent_norm.bits3 (fun HT_ HW_ => ?_)
                generalize w'.drew = w47 at HB hHeld ⊢
                refine pure_ (i := 0) (N := some 23) (v := ?_) (a' := ?_) #[true, false, false, false, false, false, false, false, false, false, false] rfl rfl (any_of HT_.out (by kernel_rfl)) (fun _ _ _ h => h) (Or.inl ⟨by rfl, ?_⟩) ?_ ?_
                rotate_left
                · intro w'
                  go_simp
                  with_reducible rfl
                rotate_left
                · simp only [Act.put, List.setIfInBounds_toArray, List.set_cons_zero, List.set_cons_succ, i64_w, i32_w]
                  rfl
                refine pure_ (i := 1) (N := some 24) (v := ?_) (a' := ?_) #[true, true, false, false, false, false, false, false, false, false, false] rfl rfl (any_of HT_.out (by kernel_rfl)) (fun _ _ _ h => h) (Or.inl ⟨by rfl, ?_⟩) ?_ ?_
                rotate_left
                · intro w'
                  go_simp
                  with_reducible rfl
                rotate_left
                · simp only [Act.put, List.setIfInBounds_toArray, List.set_cons_zero, List.set_cons_succ, i64_w, i32_w]
                  rfl
                refine pure_ (i := 2) (N := some 25) (v := ?_) (a' := ?_) #[true, true, true, false, false, false, false, false, false, false, false] rfl rfl (any_of HT_.out (by kernel_rfl)) (fun _ _ _ h => h) (Or.inl ⟨by rfl, ?_⟩) ?_ ?_
                rotate_left
                · intro w'
                  go_simp
                  with_reducible rfl
                rotate_left
                · simp only [Act.put, List.setIfInBounds_toArray, List.set_cons_zero, List.set_cons_succ, i64_w, i32_w]
                  rfl
                refine pure_ (i := 4) (N := some 27) (v := ?_) (a' := ?_) #[true, true, true, false, true, false, false, false, false, false, false] rfl rfl (any_of HT_.out (by kernel_rfl)) (fun _ _ _ h => h) (Or.inl ⟨by rfl, ?_⟩) ?_ ?_
                rotate_left
                · intro w'
                  go_simp
                  with_reducible rfl
                rotate_left
                · simp only [Act.put, List.setIfInBounds_toArray, List.set_cons_zero, List.set_cons_succ, i64_w, i32_w]
                  rfl
                refine pure_ (i := 5) (N := some 28) (v := ?_) (a' := ?_) #[true, true, true, false, true, true, false, false, false, false, false] rfl rfl (any_of HT_.out (by kernel_rfl)) (fun _ _ _ h => h) (Or.inl ⟨by rfl, ?_⟩) ?_ ?_
                rotate_left
                · intro w'
                  go_simp
                  with_reducible rfl
                rotate_left
                · simp only [Act.put, List.setIfInBounds_toArray, List.set_cons_zero, List.set_cons_succ, i64_w, i32_w]
                  rfl
                refine pure_ (i := 6) (N := some 29) (v := ?_) (a' := ?_) #[true, true, true, false, true, true, true, false, false, false, false] rfl rfl (any_of HT_.out (by kernel_rfl)) (fun _ _ _ h => h) (Or.inl ⟨by rfl, ?_⟩) ?_ ?_
                rotate_left
                · intro w'
                  go_simp
                  with_reducible rfl
                rotate_left
                · simp only [Act.put, List.setIfInBounds_toArray, List.set_cons_zero, List.set_cons_succ, i64_w, i32_w]
                  rfl
                refine take_ (i := 3) (N := some 26) (v := ?_) (a' := ?_) #[true, true, true, true, true, true, true, false, false, false, false] rfl rfl (take_ofW HT_.out HW_.out (by kernel_rfl)) (fun _ _ _ h => h) (Or.inl ⟨by rfl, ?_⟩) hHeld ?_ ?_
                rotate_left
                · intro w' _
                  go_simp
                  with_reducible rfl
                rotate_left
                · simp only [Act.put, List.setIfInBounds_toArray, List.set_cons_zero, List.set_cons_succ, i64_w, i32_w]
                  rfl
                refine take_ (i := 7) (N := some 30) (v := ?_) (a' := ?_) #[true, true, true, true, true, true, true, true, false, false, false] rfl rfl (take_ofW HT_.out HW_.out (by kernel_rfl)) (fun _ _ _ h => h) (Or.inl ⟨by rfl, ?_⟩) hHeld ?_ ?_
                rotate_left
                · intro w' _
                  go_simp
                  with_reducible rfl
                rotate_left
                · simp only [Act.put, List.setIfInBounds_toArray, List.set_cons_zero, List.set_cons_succ, i64_w, i32_w]
                  rfl
                refine one_ (i := 8) (N := some 31) #[true, true, true, true, true, true, true, true, true, false, false] rfl rfl (one_of HT_.out (by kernel_rfl)) (by decide) (fun K hK => ?_)
                refine Kd.R_lit_step (Kd.int .u8) _ 5 ?hg (N := 31) ?hd (xs := ([37, bt (⟨#[48, 49, 50, 51, 52, 53, 54, 55, 56, 57, 65, 66, 67, 68, 69, 70]⟩ : ByteArray) (ji39), bt (⟨#[48, 49, 50, 51, 52, 53, 54, 55, 56, 57, 65, 66, 67, 68, 69, 70]⟩ : ByteArray) (ji43)] : List Int)) (inner := [.int .u8 37, .int .u8 (bt (⟨#[48, 49, 50, 51, 52, 53, 54, 55, 56, 57, 65, 66, 67, 68, 69, 70]⟩ : ByteArray) (ji39)), .int .u8 (bt (⟨#[48, 49, 50, 51, 52, 53, 54, 55, 56, 57, 65, 66, 67, 68, 69, 70]⟩ : ByteArray) (ji43))]) (ok := fun _ => True) (okp := fun _ => True) ?hr ?hp (fun _ hk => hk) trivial (Below.refl _ _) (Nat.le_refl _) (by simp) ?_; (case hd => rfl); (case hg => rfl); (case hr => first | (go_simp; done) | (go_simp; rfl)); (case hp => exact (Reps.one (show Kd.M (Kd.int .u8) _ _ _ 37 [.int .u8 37] from rfl) (Reps.one (show Kd.M (Kd.int .u8) _ _ _ (bt (⟨#[48, 49, 50, 51, 52, 53, 54, 55, 56, 57, 65, 66, 67, 68, 69, 70]⟩ : ByteArray) (ji39)) [.int .u8 (bt (⟨#[48, 49, 50, 51, 52, 53, 54, 55, 56, 57, 65, 66, 67, 68, 69, 70]⟩ : ByteArray) (ji39))] from rfl) (Reps.one (show Kd.M (Kd.int .u8) _ _ _ (bt (⟨#[48, 49, 50, 51, 52, 53, 54, 55, 56, 57, 65, 66, 67, 68, 69, 70]⟩ : ByteArray) (ji43)) [.int .u8 (bt (⟨#[48, 49, 50, 51, 52, 53, 54, 55, 56, 57, 65, 66, 67, 68, 69, 70]⟩ : ByteArray) (ji43))] from rfl) (Reps.none _ _)))))
                intro v189 w48 ho49 hb hg_ hnew_
                clear hg_ hnew_
                (first | rw [← Ny188.out] at ho49 | (simp only [Int.reduceToNat] at ho49; rw [← Ny188.out] at ho49))
                have n0_ := Aside0.mk (Kd.R_lower ho49 (below_size (by repeat (first | (with_reducible first | exact HB.out | apply below_alloc | apply pw_below_drewN | apply below_drew1) | exact HB.out))))
                have n1_ := Aside0.mk (below_step (by repeat (first | (with_reducible first | exact HB.out | apply below_alloc | apply pw_below_drewN | apply below_drew1) | exact HB.out)) hb)
                clear HB
                have HO190 := n0_
                have HB := n1_
                clear n0_ n1_
                clear hb ho49
                refine hK.out _ _ trivial (fun hHeld => ?_)
                clear hK K
                refine norm_ (a' := ?_) ?_ ?_
                rotate_left
                · show Act.put _ (some 31) _ = _
                  simp only [Act.put, List.setIfInBounds_toArray, List.set_cons_zero, List.set_cons_succ, i64_w, i32_w]
                  rfl
                refine one_ (i := 9) (N := some 32) #[true, true, true, true, true, true, true, true, true, true, false] rfl rfl (one_of HT_.out (by kernel_rfl)) (by decide) (fun K hK => ?_)
                have hcv50 := own_string (P := Tryd.prog) Tryd.underlying22 Tryd.underlying5 Tryd.underlying9 (Kd.own_of_R HO190.out)
                refine value_ (w1 := ?_) (v := ?_) (by rfl) rfl ?_ ?_
                rotate_left 2
                · go_simp
                  constructor
                  · rfl
                  · rfl
                clear hcv50
                refine hK.out _ _ trivial (fun hHeld => ?_)
                clear hK K
                refine norm_ (a' := ?_) ?_ ?_
                rotate_left
                · show Act.put _ (some 32) _ = _
                  simp only [Act.put, List.setIfInBounds_toArray, List.set_cons_zero, List.set_cons_succ, i64_w, i32_w]
                  rfl
                refine pure_ (i := 10) (N := some 2) (v := ?_) (a' := ?_) #[true, true, true, true, true, true, true, true, true, true, true] rfl rfl (any_of HT_.out (by kernel_rfl)) (fun _ _ _ h => h) (Or.inl ⟨by rfl, ?_⟩) ?_ ?_
                rotate_left
                · intro w'
                  go_simp
                  with_reducible rfl
                rotate_left
                · simp only [Act.put, List.setIfInBounds_toArray, List.set_cons_zero, List.set_cons_succ, i64_w, i32_w]
                  rfl
                refine done_ (done_of HT_.out (by kernel_rfl)) ?_
                try go_wp2
                go_ret
                exact ⟨by first | rfl | (simp [errW_none, errW_some] <;> rfl) | (simp only [← hji39, ← hji43]; first | rfl | (simp [errW_none, errW_some] <;> rfl)) | (simp [*, errW_none, errW_some] <;> rfl), by repeat (first | (with_reducible first | exact HB.out | apply below_alloc | apply pw_below_drewN | apply below_drew1) | exact HB.out)⟩
              · rw [if_neg c45] at H
                exact absurd H (by simp)
            · rw [if_neg c44] at H
              exact absurd H (by simp)
          · rw [if_neg c41] at H
            exact absurd H (by simp)
        · rw [if_neg c40] at H
          exact absurd H (by simp)

/-! ### strings_Join: function 21 -/
theorem strings_Join_lens (m : Nat) (t : List (List UInt8)) (h : ∀ x ∈ t, x.length ≤ m) : Lib.lens t ≤ m * t.length := by
  induction t with
  | nil => simp [Lib.lens]
  | cons x t ih =>
    have h1 := h x (by simp)
    have h2 := ih (fun y hy => h y (by simp [hy]))
    have e : Lib.lens (x :: t) = x.length + Lib.lens t := by simp [Lib.lens]
    rw [e, List.length_cons, Nat.mul_succ]; omega
def strings_Join.f (l0 : List ByteArray) (a1 : ByteArray) : Option (ByteArray) := if l0.length ≤ 10000 ∧ a1.size ≤ 1000000 ∧ (l0.all fun s => decide (s.size ≤ 1000000)) = true then some ⟨(Lib.join (l0.map (·.data.toList)) a1.data.toList).toArray⟩ else none
theorem strings_Join.calls (A0 : Option Addr) (c0 : Nat) (l0 : List ByteArray) (a1 : ByteArray) (r : ByteArray) (w : World) (hr0 : Kd.C Kd.string w A0 l0.length l0) (hc0 : l0.length ≤ c0) (h : strings_Join.f l0 a1 = some r) :
    Calls Tryd.prog 21 #[.slice A0 l0.length c0, .string a1] w fun e w' => e = .returned (.string r) ∧ Below w.heap.size w w' := by
  unfold strings_Join.f at h
  split at h
  · rename_i hq
    obtain rfl := Option.some.inj h
    cases l0 with
    | nil => exact (Tryd.strings_Join_none_b A0 c0 a1 w).mono fun e w' hz => ⟨hz.1, hz.2 ▸ Below.refl _ _⟩
    | cons x t =>
      obtain ⟨ad, rfl, hc⟩ := Kd.at_string hr0 0 (by omega) (by rw [List.length_cons]; omega)
      obtain ⟨bk, o, sp⟩ := ad
      have h0 : w.cell? ⟨bk, o, sp⟩ = some (.string (rdOf ByteArray.empty (x :: t) 0)) := hc
      have hsp : sp = none ∧ bk < w.heap.size := by
        unfold World.cell? at h0
        split at h0
        · rename_i hb
          refine ⟨?_, (Array.getElem?_eq_some_iff.mp hb).1⟩
          cases sp with
          | none => rfl
          | some v => simp at h0
        · cases h0
      obtain ⟨rfl, hbk⟩ := hsp
      have hcells : ∀ (j : Nat) y, (x :: t)[j]? = some y → w.cell? ⟨bk, o + j, none⟩ = some (.string y) := by
        intro j y hy
        have hj : j < (x :: t).length := (List.getElem?_eq_some_iff.mp hy).1
        obtain ⟨ad', he, hc'⟩ := Kd.at_string hr0 (j : Int) (by omega) (by omega)
        obtain rfl := Option.some.inj he
        have e : rdOf ByteArray.empty (x :: t) (j : Int) = y := by unfold rdOf; rw [Int.toNat_natCast, List.getD_eq_getElem?_getD, hy]; rfl
        rw [e, Int.toNat_natCast] at hc'
        have ea : ({ block := bk, off := o, spot := none } : Addr).add j = { block := bk, off := o + j, spot := none } := by
          unfold Addr.add
          by_cases h : j = 0
          · rw [if_pos h, h]; rfl
          · rw [if_neg h]
        rw [ea] at hc'
        exact hc'
      have hall := List.all_eq_true.mp hq.2.2
      refine Tryd.strings_Join_b bk o c0 (x :: t) a1 w hcells hbk (by have := hq.1; omega) hc0 ?_
      have h1 := hall x (by simp)
      have h2 := strings_Join_lens 1000000 (t.map (·.data.toList)) (fun y hy => by
        obtain ⟨z, hz, rfl⟩ := List.mem_map.mp hy
        have := of_decide_eq_true (hall z (by simp [hz]))
        rw [show z.data.toList.length = z.size from Array.length_toList]; exact this)
      have h1' := of_decide_eq_true h1
      have hn := hq.1
      rw [List.length_cons] at hn
      rw [List.map_cons, Lib.join_cons, List.length_append, Lib.joinTail_length, List.length_map] at *
      rw [show x.data.toList.length = x.size from Array.length_toList, show a1.data.toList.length = a1.size from Array.length_toList]
      have h3 : a1.size * t.length ≤ 1000000 * 10000 := Nat.mul_le_mul hq.2.1 (by omega)
      have h4 : 1000000 * t.length ≤ 1000000 * 10000 := Nat.mul_le_mul_left _ (by omega)
      omega
  · cases h


/-! ### percent_norm_turned: percent.turned (function 18) with the function 19 -/
theorem percent_norm_turned_below {T e B b : Nat} {bs : List Value} {w w' : World} (h : Lib.IsBuilder T e B b bs w) (hb : Below w.heap.size w w') : Lib.IsBuilder T e B b bs w' := by
  have key : ∀ p, Lib.BuilderAt T e B b p bs w → Lib.BuilderAt T e B b p bs w' := by
    intro p hp
    have hlt := hp.lt
    obtain ⟨hB, v, hbk, hown, hne⟩ := hp
    exact ⟨hB, v, (hb.block b hlt).trans hbk, hown.kept (row := none) ⟨hb.os, hb.tape, hb.output, hb.size, fun k hk _ => hb.block k hk⟩ (Classical.em _), hne⟩
  rcases h with h | h
  · exact .inl (key _ h)
  · exact .inr (key _ h)
theorem percent_norm_turned_app (a p : ByteArray) : Lib.byteCells (a ++ p).data.toList = Lib.byteCells a.data.toList ++ Lib.byteCells p.data.toList := by
  show Lib.byteCells (ByteArray.append _ _).data.toList = _
  rw [ByteArray.toList_data_append']
  simp [Lib.byteCells]
theorem percent_norm_turned_one (c : Int) (h0 : 0 ≤ c) (h1 : c < 256) : Lib.byteCells (strOfNums [c]).data.toList = [Value.int .u8 c] := by
  rw [strOfNums_data]
  have : (((UInt8.ofNat c.toNat).toNat : Nat) : Int) = c := by
    rw [UInt8.toNat_ofNat_of_lt' (by show c.toNat < 256; omega)]; omega
  simp only [Lib.byteCells, List.map_cons, List.map_nil, this]
theorem percent_norm_turned_size (a : ByteArray) : (Lib.byteCells a.data.toList).length = a.size := by simp [Lib.byteCells]
def percent_norm_turned.l0 : Nat → ByteArray → ByteArray → Nat → Option (ByteArray × Bool)
  | 0, _, _, _ => none
  | k + 1, s, acc, i => if acc.size ≤ 1000000000 then (if i < s.size then (if bt s (i : Int) = 37 then ((percent_triple.f k (s.extract i s.size)).bind fun t => (if t.2 = true then ((percent_norm.f t.1).bind fun p => (if i + 3 ≤ s.size ∧ p.size ≤ 1000000000 then percent_norm_turned.l0 k s (acc ++ p) (i + 3) else none)) else some ((⟨#[]⟩ : ByteArray), false))) else percent_norm_turned.l0 k s (acc ++ strOfNums [bt s (i : Int)]) (i + 1)) else some (acc, true)) else none
def percent_norm_turned.f (k : Nat) (a0 : ByteArray) : Option (ByteArray × Bool) := if a0.size ≤ 1000000000 then percent_norm_turned.l0 k a0 (⟨#[]⟩ : ByteArray) 0 else none
theorem percent_norm_turned.mono_l : ∀ k s acc i, LeO (percent_norm_turned.l0 k s acc i) (percent_norm_turned.l0 (k + 1) s acc i) := by
  intro k
  induction k with
  | zero => intro s acc i r h; simp [percent_norm_turned.l0] at h
  | succ k ih =>
    intro s acc i
    show LeO (if acc.size ≤ 1000000000 then _ else _) (if acc.size ≤ 1000000000 then _ else _)
    exact LeO.ite (LeO.ite (LeO.ite (LeO.bind (percent_triple.mono _ _) (fun t => LeO.ite (LeO.bind (LeO.refl _) (fun p => LeO.ite (ih _ _ _) (LeO.refl _))) (LeO.refl _))) (ih _ _ _)) (LeO.refl _)) (LeO.refl _)
theorem percent_norm_turned.mono : ∀ a0 k, LeO (percent_norm_turned.f k a0) (percent_norm_turned.f (k + 1) a0) := by
  intro a0 k
  unfold percent_norm_turned.f
  exact LeO.ite (percent_norm_turned.mono_l _ _ _ _) (LeO.refl _)
set_option maxHeartbeats 8000000 in
set_option maxRecDepth 100000 in
theorem percent_norm_turned.calls (k : Nat) (a0 : ByteArray) (r1 : ByteArray) (r2 : Bool) (w : World) (h : percent_norm_turned.f k a0 = some (r1, r2)) :
    Calls Tryd.prog 18 #[.string a0, .func (Fn.func 19) #[] #[]] w fun e w' => e = .returned (.tuple #[.string r1, .bool r2]) ∧ Below w.heap.size w w' := by
  unfold percent_norm_turned.f at h
  split at h
  · rename_i hz
    have HK := Lib.hid h
    clear h
    go_enter Tryd.func18, Tryd.ntmps18
    go_wp2
    go_loopw [7] (fun v W => ∃ (q : Nat) (acc : ByteArray) (i : Nat), v = .int .i64 i ∧ i ≤ a0.size ∧ Hid (percent_norm_turned.l0 q a0 acc i = some (r1, r2)) ∧ Hid (Lib.IsBuilder 49 5 w.heap.size w.heap.size (Lib.byteCells acc.data.toList) W) ∧ Hid (Below w.heap.size w W)) (fun v _ => a0.size - (intOf v).toNat)
    case atStart => exact ⟨k, ⟨#[]⟩, 0, rfl, Nat.zero_le _, HK, Lib.hid (Lib.fresh_isBuilder 49 5 w), Lib.hid ((Below.refl _ _).alloc (Nat.le_refl _) _)⟩
    case round =>
      obtain ⟨q, acc, i, rfl, hi, HQ, HI, HB⟩ := hrel
      clear HK
      cases q with
      | zero => exact absurd HQ.out (by simp [percent_norm_turned.l0])
      | succ q =>
      have hq := HQ.out
      clear HQ
      simp only [percent_norm_turned.l0] at hq
      split at hq
      · rename_i hacc
        have HP := Lib.hid (percent_norm_turned_size acc)
        by_cases hlt : i < a0.size
        · rw [if_pos hlt] at hq
          have hx : ∀ h : i < a0.size, (((a0[i]'h).toNat : Nat) : Int) = bt a0 (i : Int) := fun h => by have := bt_at a0 (i : Int) (by simpa using h); simpa using this
          have hrange := bt_range a0 (i : Int)
          by_cases h37 : bt a0 (i : Int) = 37
          · rw [if_pos h37] at hq
            have e37 : (bt a0 (i : Int) != 37) = false := by simp [h37]
            obtain ⟨⟨c, is⟩, h1, hq⟩ := Option.bind_eq_some_iff.mp hq
            have H1 := Lib.hid h1
            clear h1
            cases is with
            | false =>
              simp only [Bool.false_eq_true, if_false, Option.some.injEq, Prod.mk.injEq] at hq
              obtain ⟨rfl, rfl⟩ := hq
              go_wp2_with (go_at_call 31; (with_reducible refine (percent_triple.calls q (a0.extract i a0.size) c false _ H1.out).mono ?_); rintro e w1 ⟨rfl, hw1⟩)
              go_ret2
              exact ⟨rfl, below_step HB.out hw1⟩
            | true =>
              simp only [if_true] at hq
              obtain ⟨p, h2, hq⟩ := Option.bind_eq_some_iff.mp hq
              have H2 := Lib.hid h2
              clear h2
              split at hq
              · rename_i hp
                have HQ := Lib.hid hq
                clear hq
                go_wp2_with (first
                  | (go_at_call 31; (with_reducible refine (percent_triple.calls q (a0.extract i a0.size) c true _ H1.out).mono ?_); rintro e w1 ⟨rfl, hw1⟩; have HB1 := Lib.hid (below_step HB.out hw1); have HI1 := Lib.hid (percent_norm_turned_below HI.out hw1); clear hw1)
                  | (go_at_call 19; (with_reducible refine (percent_norm.calls c p _ H2.out).mono ?_); rintro e w2 ⟨rfl, hw2⟩; have HB2 := Lib.hid (below_step HB1.out hw2); have HI2 := Lib.hid (percent_norm_turned_below HI1.out hw2); clear hw2)
                  | (go_at_call 32; go_loud (refine (Tryd.Builder_WriteString_b w.heap.size w.heap.size _ p _ HI2.out (by rw [HP.out]; omega) (by have := HB2.out.size; omega)).mono ?_; rintro e w3 ⟨rfl, hb, hbel⟩)))
                refine ⟨⟨q, acc ++ p, i + 3, by go_num, hp.1, HQ, Lib.hid ?_, Lib.hid ?_⟩, by simp [intOf]; omega⟩
                · rw [percent_norm_turned_app]
                  first | exact .inl hb | exact .inr hb
                · exact HB2.out.trans hbel
              · cases hq
          · rw [if_neg h37] at hq
            have e37 : (bt a0 (i : Int) != 37) = true := by simp [h37]
            have HQ := Lib.hid hq
            clear hq
            go_wp2_with (go_at_call 30; go_loud (refine (Tryd.Builder_WriteByte_b w.heap.size w.heap.size _ _ _ HI.out (by rw [HP.out]; omega) (by have := HB.out.size; omega)).mono ?_; rintro e w1 ⟨rfl, hb, hbel⟩))
            refine ⟨⟨q, acc ++ strOfNums [bt a0 (i : Int)], i + 1, by go_num, by omega, HQ, Lib.hid ?_, Lib.hid ?_⟩, by simp [intOf]; omega⟩
            · rw [percent_norm_turned_app, percent_norm_turned_one _ hrange.1 (by omega)]
              first | exact .inl hb | exact .inr hb
            · exact HB.out.trans hbel
        · rw [if_neg hlt] at hq
          simp only [Option.some.injEq, Prod.mk.injEq] at hq
          obtain ⟨rfl, rfl⟩ := hq
          go_wp2_with (go_at_call 33; go_loud (refine (Tryd.Builder_String_any w.heap.size w.heap.size _ _ HI.out (by have := HB.out.size; omega)).mono ?_; rintro e w1 ⟨rfl, hbel⟩))
          go_ret2
          exact ⟨rfl, HB.out.trans hbel⟩
      · cases hq
  · cases h

/-! ### percent_Norm: function 9 -/
def percent_Norm.j0 : Nat → ByteArray → Bool → Option (ByteArray × Bool)
  | 0, _, _ => none
  | k + 1, x4, x17 => if x17 = true then (some ((⟨#[]⟩ : ByteArray), false)) else ((percent_Segments.f k x4).bind fun t194 => ((percent_Dots.f k t194).bind fun t197 => ((strings_Join.f t197 (⟨#[47]⟩ : ByteArray)).bind fun t200 => (if 1 + t200.size ≤ 9223372036854775807 then (some ((⟨#[47]⟩ : ByteArray) ++ t200, true)) else (none)))))
def percent_Norm.f (k : Nat) (a0 : ByteArray) : Option (ByteArray × Bool) := (percent_norm_turned.f k a0).bind fun bt191 => (if bt191.2 = true then ((strings_HasPrefix.f a0 (⟨#[47]⟩ : ByteArray)).bind fun t193 => (percent_Norm.j0 k bt191.1 (!t193))) else (percent_Norm.j0 k bt191.1 true))
theorem percent_Norm.mono_l : ∀ k, (∀ y0 y1, LeO (percent_Norm.j0 k y0 y1) (percent_Norm.j0 (k + 1) y0 y1))
  | 0 => fun _ _ r h => by simp [percent_Norm.j0] at h
  | k + 1 => by
    have ih0 := percent_Norm.mono_l k
    · intro y0 y1
      unfold percent_Norm.j0
      repeat' first
      | (with_reducible exact ih0 _ _)
      | (with_reducible exact percent_Dots.mono _ _)
      | (with_reducible exact percent_Segments.mono _ _)
      | (with_reducible exact percent_norm_turned.mono _ _)
      | (with_reducible exact LeO.refl _)
      | (with_reducible exact LeO.none _)
      | (with_reducible refine LeO.ite ?_ ?_)
      | (with_reducible refine LeO.bind ?_ (fun _ => ?_))
      | exact ih0 _ _
      | exact percent_Dots.mono _ _
      | exact percent_Segments.mono _ _
      | exact percent_norm_turned.mono _ _
      | exact LeO.none _
      | refine LeO.ite ?_ ?_
      | refine LeO.bind ?_ (fun _ => ?_)
theorem percent_Norm.mono : ∀ a0 k, LeO (percent_Norm.f k a0) (percent_Norm.f (k + 1) a0) := by
  intro a0 k
  have ih0 := percent_Norm.mono_l k
  unfold percent_Norm.f
  repeat' first
      | (with_reducible exact ih0 _ _)
      | (with_reducible exact percent_Dots.mono _ _)
      | (with_reducible exact percent_Segments.mono _ _)
      | (with_reducible exact percent_norm_turned.mono _ _)
      | (with_reducible exact LeO.refl _)
      | (with_reducible exact LeO.none _)
      | (with_reducible refine LeO.ite ?_ ?_)
      | (with_reducible refine LeO.bind ?_ (fun _ => ?_))
      | exact ih0 _ _
      | exact percent_Dots.mono _ _
      | exact percent_Segments.mono _ _
      | exact percent_norm_turned.mono _ _
      | exact LeO.none _
      | refine LeO.ite ?_ ?_
      | refine LeO.bind ?_ (fun _ => ?_)
set_option maxHeartbeats 8000000 in
set_option maxRecDepth 100000 in
theorem percent_Norm.calls (k : Nat) (a0 : ByteArray) (r1 : ByteArray) (r2 : Bool) (w : World) (h : percent_Norm.f k a0 = some (r1, r2)) :
    Calls Tryd.prog 9 #[.string a0] w fun e w' => e = .returned (.tuple #[.string r1, .bool r2]) ∧ Below w.heap.size w w' := by
  have HB := Aside0.mk (Below.refl w.heap.size w)
  have H : ((percent_norm_turned.f k a0).bind fun bt191 => (if bt191.2 = true then ((strings_HasPrefix.f a0 (⟨#[47]⟩ : ByteArray)).bind fun t193 => (percent_Norm.j0 k bt191.1 (!t193))) else (percent_Norm.j0 k bt191.1 true))) = some (r1, r2) := h
  clear h
  replace H := Option.bind_eq_some_iff.mp H
  obtain ⟨⟨t191, t192⟩, A20, H⟩ := H
  replace H : (if t192 = true then ((strings_HasPrefix.f a0 (⟨#[47]⟩ : ByteArray)).bind fun t193 => (percent_Norm.j0 k t191 (!t193))) else (percent_Norm.j0 k t191 true)) = some (r1, r2) := H
  have A2 := Aside0.mk A20
  clear A20
  have HC3 := Aside0.mk H
  clear H
  go_enter Tryd.func9, Tryd.ntmps9
  go_upto_region 2 with (first | (go_at_call 18; (with_reducible refine (percent_norm_turned.calls k a0 t191 t192 _ A2.out).mono ?_); rintro e w4 ⟨rfl, hb⟩; have n0_ := Aside0.mk (below_step (by repeat (first | (with_reducible first | exact HB.out | apply below_alloc | apply pw_below_drewN | apply below_drew1) | exact HB.out)) hb); clear HB; have HB := n0_; clear n0_; (try clear hb); (try clear hb2); (try clear hk); (try clear hi)))
  (try simp only [Act.put, List.setIfInBounds_toArray, List.set_cons_zero, List.set_cons_succ])
  go_cut [17] (fun v17 wc => ∃ (kq : Nat) (x17_2 : Bool), v17 = .bool x17_2 ∧ Aside0 (percent_Norm.j0 kq t191 x17_2 = some (r1, r2)) ∧ Aside0 (kq ≤ k) ∧ Aside0 (Below w.heap.size w wc))
  case first =>
    have H := HC3.out
    clear HC3
    by_cases c5 : t192 = true
    · subst c5
      have H1 : ((strings_HasPrefix.f a0 (⟨#[47]⟩ : ByteArray)).bind fun t193 => (percent_Norm.j0 k t191 (!t193))) = some (r1, r2) := by rw [if_pos rfl] at H; exact H
      clear H
      have H := H1
      clear H1
      replace H := Option.bind_eq_some_iff.mp H
      obtain ⟨t193, A60, H⟩ := H
      replace H : (percent_Norm.j0 k t191 (!t193)) = some (r1, r2) := H
      have A6 := Aside0.mk A60
      clear A60
      have H' := Aside0.mk H
      clear H
      go_wp2_with (first | (go_at_call 20; (with_reducible refine (strings_HasPrefix.calls a0 (⟨#[47]⟩ : ByteArray) t193 _ A6.out).mono ?_); rintro e w' ⟨rfl, ⟨nd, rfl⟩⟩))
      go_meet
      case rel => exact ⟨_, (!t193), (by first | rfl | (simp; done) | (simp [*]; done)), H', ⟨by first | omega | exact Nat.le_refl _⟩, ⟨by repeat (first | (with_reducible first | exact HB.out | apply below_alloc | apply pw_below_drewN | apply below_drew1) | exact HB.out)⟩⟩
    · replace c5 := Bool.eq_false_iff.mpr c5
      subst c5
      have H1 : (percent_Norm.j0 k t191 true) = some (r1, r2) := by rw [if_neg (show ¬ (false = true) by decide)] at H; exact H
      clear H
      have H := H1
      clear H1
      have H' := Aside0.mk H
      clear H
      go_wp2
      go_meet
      case rel => exact ⟨_, (true), (by first | rfl | (simp; done) | (simp [*]; done)), H', ⟨by first | omega | exact Nat.le_refl _⟩, ⟨by repeat (first | (with_reducible first | exact HB.out | apply below_alloc | apply pw_below_drewN | apply below_drew1) | exact HB.out)⟩⟩
  case rest =>
    clear HC3
    try clear p2
    try clear c5
    obtain ⟨kq, x17_2, rfl, HA, HJ2, HB⟩ := hcut
    cases kq with
    | zero => exact absurd HA.out (by simp [percent_Norm.j0])
    | succ kj2 =>
      have H := HA.out
      clear HA
      simp only [percent_Norm.j0] at H
      by_cases c7 : x17_2 = true
      · subst c7
        have H1 : (some ((⟨#[]⟩ : ByteArray), false)) = some (r1, r2) := by rw [if_pos rfl] at H; exact H
        clear H
        have H := H1
        clear H1
        simp only [Option.some.injEq, Prod.mk.injEq] at H
        obtain ⟨rfl, rfl⟩ := H
        go_wp2
        go_ret2
        exact ⟨by first | rfl | (simp [errW_none, errW_some] <;> rfl) | (simp [*, errW_none, errW_some] <;> rfl), by repeat (first | (with_reducible first | exact HB.out | apply below_alloc | apply pw_below_drewN | apply below_drew1) | exact HB.out)⟩
      · replace c7 := Bool.eq_false_iff.mpr c7
        subst c7
        have H1 : ((percent_Segments.f kj2 t191).bind fun t194 => ((percent_Dots.f kj2 t194).bind fun t197 => ((strings_Join.f t197 (⟨#[47]⟩ : ByteArray)).bind fun t200 => (if 1 + t200.size ≤ 9223372036854775807 then (some ((⟨#[47]⟩ : ByteArray) ++ t200, true)) else (none))))) = some (r1, r2) := by rw [if_neg (show ¬ (false = true) by decide)] at H; exact H
        clear H
        have H := H1
        clear H1
        replace H := Option.bind_eq_some_iff.mp H
        obtain ⟨t194, A80, H⟩ := H
        replace H : ((percent_Dots.f kj2 t194).bind fun t197 => ((strings_Join.f t197 (⟨#[47]⟩ : ByteArray)).bind fun t200 => (if 1 + t200.size ≤ 9223372036854775807 then (some ((⟨#[47]⟩ : ByteArray) ++ t200, true)) else (none)))) = some (r1, r2) := H
        have A8 := Aside0.mk A80
        clear A80
        replace H := Option.bind_eq_some_iff.mp H
        obtain ⟨t197, A90, H⟩ := H
        replace H : ((strings_Join.f t197 (⟨#[47]⟩ : ByteArray)).bind fun t200 => (if 1 + t200.size ≤ 9223372036854775807 then (some ((⟨#[47]⟩ : ByteArray) ++ t200, true)) else (none))) = some (r1, r2) := H
        have A9 := Aside0.mk A90
        clear A90
        replace H := Option.bind_eq_some_iff.mp H
        obtain ⟨t200, A100, H⟩ := H
        replace H : (if 1 + t200.size ≤ 9223372036854775807 then (some ((⟨#[47]⟩ : ByteArray) ++ t200, true)) else (none)) = some (r1, r2) := H
        have A10 := Aside0.mk A100
        clear A100
        by_cases c11 : 1 + t200.size ≤ 9223372036854775807
        · rw [if_pos c11] at H
          have c11b0 := eq_true c11
          have c11b1 : decide (1 + t200.size ≤ 9223372036854775807) = true := decide_eq_true c11
          try have c11b2 : (9223372036854775807 < 1 + t200.size) = False := eq_false (Nat.not_lt.2 c11)
          simp only [Option.some.injEq, Prod.mk.injEq] at H
          obtain ⟨rfl, rfl⟩ := H
          go_wp2_with (first | ((with_reducible refine gate_callee (f := 14) rfl ?_); refine goesL_ (some 19) rfl rfl Tryd.func14 (by kernel_rfl) rfl #[.string t191] rfl (by (try simp only [List.map_toArray, List.map_cons, List.map_nil]); first | done | rfl | (simp only [List.length_drop, List.length_take]; rfl)) ?_; (with_reducible refine (percent_Segments.calls kj2 t191 t194 _ A8.out).mono ?_); rintro e w12 ⟨v195, rfl, ho0, hb⟩; refine ⟨_, rfl, ?_⟩; have n0_ := Aside0.mk (Kd.R_lower ho0 (below_size (by repeat (first | (with_reducible first | exact HB.out | apply below_alloc | apply pw_below_drewN | apply below_drew1) | exact HB.out)))); have n1_ := Aside0.mk (below_step (by repeat (first | (with_reducible first | exact HB.out | apply below_alloc | apply pw_below_drewN | apply below_drew1) | exact HB.out)) hb); clear HB; have HO196 := n0_; have HB := n1_; clear n0_ n1_; (try clear hb); (try clear hb2); (try clear hk); (try clear hi); (try clear ho0); obtain ⟨Ao13, co13, eo13⟩ := Kd.R_slice HO196.out; subst eo13) | ((with_reducible refine gate_callee (f := 16) rfl ?_); refine goesL_ (some 20) rfl rfl Tryd.func16 (by kernel_rfl) rfl #[.slice Ao13 t194.length co13] rfl (by (try simp only [List.map_toArray, List.map_cons, List.map_nil]); first | done | rfl | (simp only [List.length_drop, List.length_take]; rfl)) ?_; (with_reducible refine (percent_Dots.calls kj2 _ _ t194 t197 _ ?side1 ?side2 A9.out).mono ?_); (case side1 => repeat (first | exact (Kd.R_reads' HO196.out).2.2 | (with_reducible refine Kd.C_alloc ?_ _) | (with_reducible refine Kd.C_drewN ?_ _) | (with_reducible refine Kd.C_drew ?_))); (case side2 => exact (Kd.R_reads' HO196.out).2.1); rintro e w14 ⟨v198, rfl, ho0, hb⟩; refine ⟨_, rfl, ?_⟩; have n0_ := Aside0.mk (Kd.R_elder' (by (with_reducible repeat (first | apply Kd.R_alloc | apply Kd.R_drewN | apply Kd.R_drew)); exact HO196.out) (Kd.R_base ho0) hb); have n1_ := Aside0.mk (Kd.R_lower (Kd.R_new' ho0 (Kd.R_lt (by (with_reducible repeat (first | apply Kd.R_alloc | apply Kd.R_drewN | apply Kd.R_drew)); exact HO196.out))) (below_size (by repeat (first | (with_reducible first | exact HB.out | apply below_alloc | apply pw_below_drewN | apply below_drew1) | exact HB.out)))); have n2_ := Aside0.mk (below_step (by repeat (first | (with_reducible first | exact HB.out | apply below_alloc | apply pw_below_drewN | apply below_drew1) | exact HB.out)) hb); clear HO196; clear HB; have HO196 := n0_; have HO199 := n1_; have HB := n2_; clear n0_ n1_ n2_; (try clear hb); (try clear hb2); (try clear hk); (try clear hi); (try clear ho0); obtain ⟨Ao15, co15, eo15⟩ := Kd.R_slice HO199.out; subst eo15) | ((with_reducible refine gate_callee (f := 21) rfl ?_); refine goesL_ (some 21) rfl rfl Tryd.func21 (by kernel_rfl) rfl #[.slice Ao15 t197.length co15, .string (⟨#[47]⟩ : ByteArray)] rfl (by (try simp only [List.map_toArray, List.map_cons, List.map_nil]); first | done | rfl | (simp only [List.length_drop, List.length_take]; rfl)) ?_; (with_reducible refine (strings_Join.calls _ _ t197 (⟨#[47]⟩ : ByteArray) t200 _ ?side1 ?side2 A10.out).mono ?_); (case side1 => repeat (first | exact (Kd.R_reads' HO199.out).2.2 | (with_reducible refine Kd.C_alloc ?_ _) | (with_reducible refine Kd.C_drewN ?_ _) | (with_reducible refine Kd.C_drew ?_))); (case side2 => exact (Kd.R_reads' HO199.out).2.1); rintro e w16 ⟨rfl, hb⟩; refine ⟨_, rfl, ?_⟩; have n0_ := Aside0.mk (Kd.R_below (by (with_reducible repeat (first | apply Kd.R_alloc | apply Kd.R_drewN | apply Kd.R_drew)); exact HO196.out) hb); have n1_ := Aside0.mk (Kd.R_below (by (with_reducible repeat (first | apply Kd.R_alloc | apply Kd.R_drewN | apply Kd.R_drew)); exact HO199.out) hb); have n2_ := Aside0.mk (below_step (by repeat (first | (with_reducible first | exact HB.out | apply below_alloc | apply pw_below_drewN | apply below_drew1) | exact HB.out)) hb); clear HO196; clear HO199; clear HB; have HO196 := n0_; have HO199 := n1_; have HB := n2_; clear n0_ n1_ n2_; (try clear hb); (try clear hb2); (try clear hk); (try clear hi)))
          go_ret2
          exact ⟨by first | rfl | (simp [errW_none, errW_some] <;> rfl) | (simp [*, errW_none, errW_some] <;> rfl), by repeat (first | (with_reducible first | exact HB.out | apply below_alloc | apply pw_below_drewN | apply below_drew1) | exact HB.out)⟩
        · rw [if_neg c11] at H
          exact absurd H (by simp)

/-! ### percent_Decode_1: function 27 -/
def percent_Decode_1.f (a0 : Int) : Option (ByteArray) := some (strOfNums (([a0] : List Int)))
set_option maxHeartbeats 8000000 in
set_option maxRecDepth 100000 in
theorem percent_Decode_1.calls (a0 : Int) (r : ByteArray) (w : World) (h : percent_Decode_1.f a0 = some r) :
    Calls Tryd.prog 27 #[.int .u8 a0] w fun e w' => e = .returned (.string r) ∧ Below w.heap.size w w' := by
  have HB := Aside0.mk (Below.refl w.heap.size w)
  have H : (some (strOfNums (([a0] : List Int)))) = some r := h
  clear h
  obtain ⟨y201, hy201⟩ : ∃ y_ : List Int, y_ = (([a0] : List Int)) := ⟨_, rfl⟩
  replace H : (some (strOfNums y201)) = some r := by first | (rw [hy201]; with_reducible exact H) | (have H2_ := (Option.bind_some _ _).symm.trans H; rw [hy201]; with_reducible exact H2_) | (have H2_ := (Option.bind_some _ _).symm.trans H; with_reducible exact H2_) | with_reducible exact H | (rw [hy201]; exact H) | exact H
  have Ny201 := Aside0.mk hy201
  clear hy201
  obtain rfl := Option.some.inj H
  go_enter Tryd.func27, Tryd.ntmps27
  go_wp2_with (first | ((with_reducible refine gate_dst (N := 4) rfl ?_); refine Kd.R_lit (Kd.int .u8) _ 5 ?hg (N := 4) ?hd (xs := ([a0] : List Int)) (inner := [.int .u8 a0]) (ok := fun _ => True) (okp := fun _ => True) ?hr ?hp (fun _ hk => hk) trivial (Below.refl _ _) (Nat.le_refl _) (by simp) ?_; (case hd => rfl); (case hg => rfl); (case hr => first | (go_simp; done) | (go_simp; rfl)); (case hp => exact (Reps.one (show Kd.M (Kd.int .u8) _ _ _ a0 [.int .u8 a0] from rfl) (Reps.none _ _))); intro v202 w2 ho3 hb hg_ hnew_; clear hg_ hnew_; (first | rw [← Ny201.out] at ho3 | (simp only [Int.reduceToNat] at ho3; rw [← Ny201.out] at ho3)); have n0_ := Aside0.mk (Kd.R_lower ho3 (below_size (by repeat (first | (with_reducible first | exact HB.out | apply below_alloc | apply pw_below_drewN | apply below_drew1) | exact HB.out)))); have n1_ := Aside0.mk (below_step (by repeat (first | (with_reducible first | exact HB.out | apply below_alloc | apply pw_below_drewN | apply below_drew1) | exact HB.out)) hb); clear HB; have HO203 := n0_; have HB := n1_; clear n0_ n1_; clear hb ho3; have hcv4 := own_string (P := Tryd.prog) Tryd.underlying22 Tryd.underlying5 Tryd.underlying9 (Kd.own_of_R HO203.out)))
  go_ret
  exact ⟨by first | rfl | (simp [errW_none, errW_some] <;> rfl) | (simp [*, errW_none, errW_some] <;> rfl), by repeat (first | (with_reducible first | exact HB.out | apply below_alloc | apply pw_below_drewN | apply below_drew1) | exact HB.out)⟩

end Go.Proofs.YtljmpmipjdlkaaaDoor.PPercentOnce
