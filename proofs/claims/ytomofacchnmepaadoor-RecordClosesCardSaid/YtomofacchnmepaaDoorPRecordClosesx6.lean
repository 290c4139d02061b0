-- Written by a program of this session (wip/tools/myprint.sh)
import Derived.Test.YtomofacchnmepaaDoorPRecordClosesx0
import Derived.Test.YtomofacchnmepaaDoorPRecordClosesx3
import Derived.Test.YtomofacchnmepaaDoorPRecordClosesx5
namespace Go.Proofs.YtomofacchnmepaaDoor.PRecordCloses
open Go.RowKit Go.Proofs.YtomofacchnmepaaDoorW.PrintWords Go.Proofs.YtomofacchnmepaaDoorW.PrintLast Go.Proofs.YtomofacchnmepaaDoorW.PrintMore
attribute [local go_sem] max2_int min2_int max_two min_two max_three min_three max_four min_four   -- for this text's walks alone
set_option linter.unusedVariables false
set_option linter.unusedSimpArgs false

/-! ### parallaxlaw12_RecordCloses: function 4 -/
mutual
def parallaxlaw12_RecordCloses.j0 : Nat → List Int → Bool → Int → ByteArray → ByteArray → Int → Bool → Option (Bool)
  | 0, _, _, _, _, _, _, _ => none
  | k + 1, x0, x1, x2, x206000, x206001, x206002, x206004 => parallaxlaw12_RecordCloses.l0 k x0 x1 x2 false false 0 x206000 x206001 x206002 ([] : List (S31)) x206004
def parallaxlaw12_RecordCloses.l0 : Nat → List Int → Bool → Int → Bool → Bool → Int → ByteArray → ByteArray → Int → List (S31) → Bool → Option (Bool)
  | 0, _, _, _, _, _, _, _, _, _, _, _ => none
  | k + 1, x0, x1, x2, x8, x9, x10, x206000, x206001, x206002, x206003, x206004 => if x10 < (x0.length : Int) then ((some (([(⟨#[99, 108, 111, 115, 101]⟩ : ByteArray), (⟨#[67, 76, 79, 83, 69]⟩ : ByteArray), (⟨#[107, 101, 101, 112, 45, 97, 108, 105, 118, 101]⟩ : ByteArray), (⟨#[75, 101, 101, 112, 45, 65, 108, 105, 118, 101]⟩ : ByteArray), (⟨#[120]⟩ : ByteArray), (⟨#[120, 99, 108, 111, 115, 101]⟩ : ByteArray), (⟨#[97, 44, 32, 99, 108, 111, 115, 101]⟩ : ByteArray), (⟨#[99, 108, 111, 115, 101, 44, 98]⟩ : ByteArray), (⟨#[107, 101, 101, 112, 45, 97, 108, 105, 118, 101, 32, 44, 120]⟩ : ByteArray), (⟨#[99, 108, 111, 115, 101, 32, 120]⟩ : ByteArray)] : List ByteArray) : List ByteArray)).bind fun y206 => (if 0 ≤ x10 then (if 0 ≤ (Int.tmod (rd x0 x10) 10) then (if (Int.tmod (rd x0 x10) 10) < (y206.length : Int) then ((some (([(⟨#[67, 111, 110, 110, 101, 99, 116, 105, 111, 110]⟩ : ByteArray), (⟨#[99, 111, 110, 110, 101, 99, 116, 105, 111, 110]⟩ : ByteArray), (⟨#[80, 114, 111, 120, 121, 45, 67, 111, 110, 110, 101, 99, 116, 105, 111, 110]⟩ : ByteArray)] : List ByteArray) : List ByteArray)).bind fun y211 => (if 0 ≤ (((((Int.tdiv (rd x0 x10) 10) % 256) + x2) % 256) % 3) then (if (((((Int.tdiv (rd x0 x10) 10) % 256) + x2) % 256) % 3) < (y211.length : Int) then (if x206003.length < 4398046511104 then ((some (x206003 ++ [(⟨rdOf ByteArray.empty y211 (((((Int.tdiv (rd x0 x10) 10) % 256) + x2) % 256) % 3), rdOf ByteArray.empty y206 (Int.tmod (rd x0 x10) 10)⟩ : S31)] : List (S31))).bind fun y217 => (if (rdOf ByteArray.empty y211 (((((Int.tdiv (rd x0 x10) 10) % 256) + x2) % 256) % 3)).toList = ([80, 114, 111, 120, 121, 45, 67, 111, 110, 110, 101, 99, 116, 105, 111, 110] : List UInt8) then (parallaxlaw12_RecordCloses.j3 k x0 x1 x2 x8 x9 x10 x206000 x206001 x206002 y217 x206004) else (if x8 = true then (parallaxlaw12_RecordCloses.j2 k x0 x1 x2 true x9 x10 (Int.tmod (rd x0 x10) 10) x206000 x206001 x206002 y217 x206004) else (if (Int.tmod (rd x0 x10) 10) = 0 then (parallaxlaw12_RecordCloses.j2 k x0 x1 x2 true x9 x10 (Int.tmod (rd x0 x10) 10) x206000 x206001 x206002 y217 x206004) else (if (Int.tmod (rd x0 x10) 10) = 1 then (parallaxlaw12_RecordCloses.j2 k x0 x1 x2 true x9 x10 (Int.tmod (rd x0 x10) 10) x206000 x206001 x206002 y217 x206004) else (if (Int.tmod (rd x0 x10) 10) = 6 then (parallaxlaw12_RecordCloses.j2 k x0 x1 x2 true x9 x10 (Int.tmod (rd x0 x10) 10) x206000 x206001 x206002 y217 x206004) else (parallaxlaw12_RecordCloses.j2 k x0 x1 x2 ((Int.tmod (rd x0 x10) 10) == 7) x9 x10 (Int.tmod (rd x0 x10) 10) x206000 x206001 x206002 y217 x206004))))))) else (none)) else (none)) else (none))) else (none)) else (none)) else (none))) else ((record_Closes.f k x206000 x206001 x206002 x206003 x206004 ([] : List Int) ([] : List (S31))).bind fun t221 => (if x8 = true then (parallaxlaw12_RecordCloses.j4 k (t221 == true)) else (if x1 = true then (parallaxlaw12_RecordCloses.j4 k (t221 == (!x9))) else (parallaxlaw12_RecordCloses.j4 k (t221 == false)))))
def parallaxlaw12_RecordCloses.j3 : Nat → List Int → Bool → Int → Bool → Bool → Int → ByteArray → ByteArray → Int → List (S31) → Bool → Option (Bool)
  | 0, _, _, _, _, _, _, _, _, _, _, _ => none
  | k + 1, x0, x1, x2, x8, x9, x10, x206000, x206001, x206002, x206003, x206004 => parallaxlaw12_RecordCloses.l0 k x0 x1 x2 x8 x9 (wrap64 (x10 + 1)) x206000 x206001 x206002 x206003 x206004
def parallaxlaw12_RecordCloses.j2 : Nat → List Int → Bool → Int → Bool → Bool → Int → Int → ByteArray → ByteArray → Int → List (S31) → Bool → Option (Bool)
  | 0, _, _, _, _, _, _, _, _, _, _, _, _ => none
  | k + 1, x0, x1, x2, x8, x9, x10, x13, x206000, x206001, x206002, x206003, x206004 => if x9 = true then (parallaxlaw12_RecordCloses.j3 k x0 x1 x2 x8 true x10 x206000 x206001 x206002 x206003 x206004) else (if x13 = 2 then (parallaxlaw12_RecordCloses.j3 k x0 x1 x2 x8 true x10 x206000 x206001 x206002 x206003 x206004) else (if x13 = 3 then (parallaxlaw12_RecordCloses.j3 k x0 x1 x2 x8 true x10 x206000 x206001 x206002 x206003 x206004) else (parallaxlaw12_RecordCloses.j3 k x0 x1 x2 x8 (x13 == 8) x10 x206000 x206001 x206002 x206003 x206004)))
def parallaxlaw12_RecordCloses.j4 : Nat → Bool → Option (Bool)
  | 0, _ => none
  | k + 1, x6 => some x6
end
def parallaxlaw12_RecordCloses.f (k : Nat) (l0 : List Int) (a1 : Bool) (a2 : Int) : Option (Bool) := (parallaxlaw12_known.f k).bind fun t204 => (if t204 = true then (if (l0.length : Int) > 8 then (some true) else (if a1 = true then (parallaxlaw12_RecordCloses.j0 k l0 a1 a2 (⟨#[71, 69, 84]⟩ : ByteArray) (⟨#[47]⟩ : ByteArray) 0 false) else (parallaxlaw12_RecordCloses.j0 k l0 a1 a2 (⟨#[71, 69, 84]⟩ : ByteArray) (⟨#[47]⟩ : ByteArray) 1 false))) else (some false))
theorem parallaxlaw12_RecordCloses.mono_l : ∀ k, (∀ y0 y1 y2 y3 y4 y5 y6, LeO (parallaxlaw12_RecordCloses.j0 k y0 y1 y2 y3 y4 y5 y6) (parallaxlaw12_RecordCloses.j0 (k + 1) y0 y1 y2 y3 y4 y5 y6)) ∧ (∀ y0 y1 y2 y3 y4 y5 y6 y7 y8 y9 y10, LeO (parallaxlaw12_RecordCloses.l0 k y0 y1 y2 y3 y4 y5 y6 y7 y8 y9 y10) (parallaxlaw12_RecordCloses.l0 (k + 1) y0 y1 y2 y3 y4 y5 y6 y7 y8 y9 y10)) ∧ (∀ y0 y1 y2 y3 y4 y5 y6 y7 y8 y9 y10, LeO (parallaxlaw12_RecordCloses.j3 k y0 y1 y2 y3 y4 y5 y6 y7 y8 y9 y10) (parallaxlaw12_RecordCloses.j3 (k + 1) y0 y1 y2 y3 y4 y5 y6 y7 y8 y9 y10)) ∧ (∀ y0 y1 y2 y3 y4 y5 y6 y7 y8 y9 y10 y11, LeO (parallaxlaw12_RecordCloses.j2 k y0 y1 y2 y3 y4 y5 y6 y7 y8 y9 y10 y11) (parallaxlaw12_RecordCloses.j2 (k + 1) y0 y1 y2 y3 y4 y5 y6 y7 y8 y9 y10 y11)) ∧ (∀ y0, LeO (parallaxlaw12_RecordCloses.j4 k y0) (parallaxlaw12_RecordCloses.j4 (k + 1) y0))
  | 0 => ⟨fun _ _ _ _ _ _ _ r h => by simp [parallaxlaw12_RecordCloses.j0] at h, fun _ _ _ _ _ _ _ _ _ _ _ r h => by simp [parallaxlaw12_RecordCloses.l0] at h, fun _ _ _ _ _ _ _ _ _ _ _ r h => by simp [parallaxlaw12_RecordCloses.j3] at h, fun _ _ _ _ _ _ _ _ _ _ _ _ r h => by simp [parallaxlaw12_RecordCloses.j2] at h, fun _ r h => by simp [parallaxlaw12_RecordCloses.j4] at h⟩
  | k + 1 => by
    obtain ⟨ih0, ih1, ih2, ih3, ih4⟩ := parallaxlaw12_RecordCloses.mono_l k
    refine ⟨?_, ?_, ?_, ?_, ?_⟩
    · intro y0 y1 y2 y3 y4 y5 y6
      unfold parallaxlaw12_RecordCloses.j0
      repeat' first
      | (with_reducible exact ih0 _ _ _ _ _ _ _)
      | (with_reducible exact ih1 _ _ _ _ _ _ _ _ _ _ _)
      | (with_reducible exact ih2 _ _ _ _ _ _ _ _ _ _ _)
      | (with_reducible exact ih3 _ _ _ _ _ _ _ _ _ _ _ _)
      | (with_reducible exact ih4 _)
      | (with_reducible exact parallaxlaw12_known.mono _)
      | (with_reducible exact record_Closes.mono _ _ _ _ _ _ _ _)
      | (with_reducible exact LeO.refl _)
      | (with_reducible exact LeO.none _)
      | (with_reducible refine LeO.ite ?_ ?_)
      | (with_reducible refine LeO.bind ?_ (fun _ => ?_))
      | exact ih0 _ _ _ _ _ _ _
      | exact ih1 _ _ _ _ _ _ _ _ _ _ _
      | exact ih2 _ _ _ _ _ _ _ _ _ _ _
      | exact ih3 _ _ _ _ _ _ _ _ _ _ _ _
      | exact ih4 _
      | exact parallaxlaw12_known.mono _
      | exact record_Closes.mono _ _ _ _ _ _ _ _
      | exact LeO.none _
      | refine LeO.ite ?_ ?_
      | refine LeO.bind ?_ (fun _ => ?_)
    · intro y0 y1 y2 y3 y4 y5 y6 y7 y8 y9 y10
      unfold parallaxlaw12_RecordCloses.l0
      repeat' first
      | (with_reducible exact ih0 _ _ _ _ _ _ _)
      | (with_reducible exact ih1 _ _ _ _ _ _ _ _ _ _ _)
      | (with_reducible exact ih2 _ _ _ _ _ _ _ _ _ _ _)
      | (with_reducible exact ih3 _ _ _ _ _ _ _ _ _ _ _ _)
      | (with_reducible exact ih4 _)
      | (with_reducible exact parallaxlaw12_known.mono _)
      | (with_reducible exact record_Closes.mono _ _ _ _ _ _ _ _)
      | (with_reducible exact LeO.refl _)
      | (with_reducible exact LeO.none _)
      | (with_reducible refine LeO.ite ?_ ?_)
      | (with_reducible refine LeO.bind ?_ (fun _ => ?_))
      | exact ih0 _ _ _ _ _ _ _
      | exact ih1 _ _ _ _ _ _ _ _ _ _ _
      | exact ih2 _ _ _ _ _ _ _ _ _ _ _
      | exact ih3 _ _ _ _ _ _ _ _ _ _ _ _
      | exact ih4 _
      | exact parallaxlaw12_known.mono _
      | exact record_Closes.mono _ _ _ _ _ _ _ _
      | exact LeO.none _
      | refine LeO.ite ?_ ?_
      | refine LeO.bind ?_ (fun _ => ?_)
    · intro y0 y1 y2 y3 y4 y5 y6 y7 y8 y9 y10
      unfold parallaxlaw12_RecordCloses.j3
      repeat' first
      | (with_reducible exact ih0 _ _ _ _ _ _ _)
      | (with_reducible exact ih1 _ _ _ _ _ _ _ _ _ _ _)
      | (with_reducible exact ih2 _ _ _ _ _ _ _ _ _ _ _)
      | (with_reducible exact ih3 _ _ _ _ _ _ _ _ _ _ _ _)
      | (with_reducible exact ih4 _)
      | (with_reducible exact parallaxlaw12_known.mono _)
      | (with_reducible exact record_Closes.mono _ _ _ _ _ _ _ _)
      | (with_reducible exact LeO.refl _)
      | (with_reducible exact LeO.none _)
      | (with_reducible refine LeO.ite ?_ ?_)
      | (with_reducible refine LeO.bind ?_ (fun _ => ?_))
      | exact ih0 _ _ _ _ _ _ _
      | exact ih1 _ _ _ _ _ _ _ _ _ _ _
      | exact ih2 _ _ _ _ _ _ _ _ _ _ _
      | exact ih3 _ _ _ _ _ _ _ _ _ _ _ _
      | exact ih4 _
      | exact parallaxlaw12_known.mono _
      | exact record_Closes.mono _ _ _ _ _ _ _ _
      | exact LeO.none _
      | refine LeO.ite ?_ ?_
      | refine LeO.bind ?_ (fun _ => ?_)
    · intro y0 y1 y2 y3 y4 y5 y6 y7 y8 y9 y10 y11
      unfold parallaxlaw12_RecordCloses.j2
      repeat' first
      | (with_reducible exact ih0 _ _ _ _ _ _ _)
      | (with_reducible exact ih1 _ _ _ _ _ _ _ _ _ _ _)
      | (with_reducible exact ih2 _ _ _ _ _ _ _ _ _ _ _)
      | (with_reducible exact ih3 _ _ _ _ _ _ _ _ _ _ _ _)
      | (with_reducible exact ih4 _)
      | (with_reducible exact parallaxlaw12_known.mono _)
      | (with_reducible exact record_Closes.mono _ _ _ _ _ _ _ _)
      | (with_reducible exact LeO.refl _)
      | (with_reducible exact LeO.none _)
      | (with_reducible refine LeO.ite ?_ ?_)
      | (with_reducible refine LeO.bind ?_ (fun _ => ?_))
      | exact ih0 _ _ _ _ _ _ _
      | exact ih1 _ _ _ _ _ _ _ _ _ _ _
      | exact ih2 _ _ _ _ _ _ _ _ _ _ _
      | exact ih3 _ _ _ _ _ _ _ _ _ _ _ _
      | exact ih4 _
      | exact parallaxlaw12_known.mono _
      | exact record_Closes.mono _ _ _ _ _ _ _ _
      | exact LeO.none _
      | refine LeO.ite ?_ ?_
      | refine LeO.bind ?_ (fun _ => ?_)
    · intro y0
      unfold parallaxlaw12_RecordCloses.j4
      repeat' first
      | (with_reducible exact ih0 _ _ _ _ _ _ _)
      | (with_reducible exact ih1 _ _ _ _ _ _ _ _ _ _ _)
      | (with_reducible exact ih2 _ _ _ _ _ _ _ _ _ _ _)
      | (with_reducible exact ih3 _ _ _ _ _ _ _ _ _ _ _ _)
      | (with_reducible exact ih4 _)
      | (with_reducible exact parallaxlaw12_known.mono _)
      | (with_reducible exact record_Closes.mono _ _ _ _ _ _ _ _)
      | (with_reducible exact LeO.refl _)
      | (with_reducible exact LeO.none _)
      | (with_reducible refine LeO.ite ?_ ?_)
      | (with_reducible refine LeO.bind ?_ (fun _ => ?_))
      | exact ih0 _ _ _ _ _ _ _
      | exact ih1 _ _ _ _ _ _ _ _ _ _ _
      | exact ih2 _ _ _ _ _ _ _ _ _ _ _
      | exact ih3 _ _ _ _ _ _ _ _ _ _ _ _
      | exact ih4 _
      | exact parallaxlaw12_known.mono _
      | exact record_Closes.mono _ _ _ _ _ _ _ _
      | exact LeO.none _
      | refine LeO.ite ?_ ?_
      | refine LeO.bind ?_ (fun _ => ?_)
theorem parallaxlaw12_RecordCloses.mono : ∀ a0 a1 a2 k, LeO (parallaxlaw12_RecordCloses.f k a0 a1 a2) (parallaxlaw12_RecordCloses.f (k + 1) a0 a1 a2) := by
  intro a0 a1 a2 k
  obtain ⟨ih0, ih1, ih2, ih3, ih4⟩ := parallaxlaw12_RecordCloses.mono_l k
  unfold parallaxlaw12_RecordCloses.f
  repeat' first
      | (with_reducible exact ih0 _ _ _ _ _ _ _)
      | (with_reducible exact ih1 _ _ _ _ _ _ _ _ _ _ _)
      | (with_reducible exact ih2 _ _ _ _ _ _ _ _ _ _ _)
      | (with_reducible exact ih3 _ _ _ _ _ _ _ _ _ _ _ _)
      | (with_reducible exact ih4 _)
      | (with_reducible exact parallaxlaw12_known.mono _)
      | (with_reducible exact record_Closes.mono _ _ _ _ _ _ _ _)
      | (with_reducible exact LeO.refl _)
      | (with_reducible exact LeO.none _)
      | (with_reducible refine LeO.ite ?_ ?_)
      | (with_reducible refine LeO.bind ?_ (fun _ => ?_))
      | exact ih0 _ _ _ _ _ _ _
      | exact ih1 _ _ _ _ _ _ _ _ _ _ _
      | exact ih2 _ _ _ _ _ _ _ _ _ _ _
      | exact ih3 _ _ _ _ _ _ _ _ _ _ _ _
      | exact ih4 _
      | exact parallaxlaw12_known.mono _
      | exact record_Closes.mono _ _ _ _ _ _ _ _
      | exact LeO.none _
      | refine LeO.ite ?_ ?_
      | refine LeO.bind ?_ (fun _ => ?_)
set_option maxHeartbeats 8000000 in
set_option maxRecDepth 100000 in
theorem parallaxlaw12_RecordCloses.calls (k : Nat) (A0 : Option Addr) (c0 : Nat) (l0 : List Int) (a1 : Bool) (a2 : Int) (r : Bool) (w : World) (hr0 : Kd.C (Kd.int .u8) w A0 l0.length l0) (hc0 : l0.length ≤ c0) (hq2 : (Lit.int .u8 a2).wf = true) (hT : r = true) (h : parallaxlaw12_RecordCloses.f k l0 a1 a2 = some r) :
    Calls Tryd.prog 4 #[.slice A0 l0.length c0, .bool a1, .int .u8 a2] w fun e w' => e = .returned (.bool r) ∧ Below w.heap.size w w' := by
  have hu25 := Tryd.underlying25
  have hu31 := Tryd.underlying31
  have HQ2 := Aside0.mk hq2
  clear hq2
  have HT := Aside0.mk hT
  clear hT
  have HR0 := Aside0.mk hr0
  have HC0 := Aside0.mk hc0
  clear hr0 hc0
  have HB := Aside0.mk (Below.refl w.heap.size w)
  have H : ((parallaxlaw12_known.f k).bind fun t204 => (if t204 = true then (if (l0.length : Int) > 8 then (some true) else (if a1 = true then (parallaxlaw12_RecordCloses.j0 k l0 a1 a2 (⟨#[71, 69, 84]⟩ : ByteArray) (⟨#[47]⟩ : ByteArray) 0 false) else (parallaxlaw12_RecordCloses.j0 k l0 a1 a2 (⟨#[71, 69, 84]⟩ : ByteArray) (⟨#[47]⟩ : ByteArray) 1 false))) else (some false))) = some r := h
  clear h
  replace H := Option.bind_eq_some_iff.mp H
  obtain ⟨t204, A40, H⟩ := H
  (try dsimp only at H)
  have A4 := Aside0.mk A40
  clear A40
  by_cases c5 : t204 = true
  · subst c5
    rw [if_pos rfl] at H
    by_cases c6 : (l0.length : Int) > 8
    · rw [if_pos c6] at H
      have c6b0 : decide (8 < (l0.length : Int)) = true := decide_eq_true c6
      have c6b1 : decide (8 < l0.length) = true := decide_eq_true (by omega)
      clear c6
      obtain rfl := Option.some.inj H
      go_enter Tryd.func4, Tryd.ntmps4
      go_wp2_with (first | ((with_reducible refine gate_callee (f := 6) rfl ?_); refine goesL_ (some 14) rfl rfl Tryd.func6 (by kernel_rfl) rfl #[] rfl (by (try simp only [List.map_toArray, List.map_cons, List.map_nil]); first | done | rfl | (simp only [List.length_drop, List.length_take]; rfl)) ?_; (with_reducible refine (parallaxlaw12_known.calls k  true _ rfl A4.out).mono ?_); rintro e w7 ⟨rfl, hb⟩; refine ⟨_, rfl, ?_⟩; have n0_ := Aside0.mk (below_step (by repeat (first | (with_reducible first | exact HB.out | apply below_alloc | apply pw_below_drewN | apply below_drew1) | exact HB.out)) hb); clear HB; have HB := n0_; clear n0_; (try clear hb); (try clear hb2); (try clear hk); (try clear hi)) | (go_at_call 6; (with_reducible refine (parallaxlaw12_known.calls k  true _ rfl A4.out).mono ?_); rintro e w7 ⟨rfl, hb⟩; have n0_ := Aside0.mk (below_step (by repeat (first | (with_reducible first | exact HB.out | apply below_alloc | apply pw_below_drewN | apply below_drew1) | exact HB.out)) hb); clear HB; have HB := n0_; clear n0_; (try clear hb); (try clear hb2); (try clear hk); (try clear hi)))
      (try any_goals (exfalso; have h_ := ‹some undef = some (Value.bool _)›; revert h_; simp [undef]; done))
      go_ret
      exact ⟨by first | rfl | (simp [errW_none, errW_some] <;> rfl) | (simp [*, errW_none, errW_some] <;> rfl), by repeat (first | (with_reducible first | exact HB.out | apply below_alloc | apply pw_below_drewN | apply below_drew1) | exact HB.out)⟩
    · rw [if_neg c6] at H
      have c6b0 : decide (8 < (l0.length : Int)) = false := decide_eq_false c6
      have c6b1 : decide (8 < l0.length) = false := decide_eq_false (by omega)
      clear c6
      have HC8 := Aside0.mk H
      clear H
      go_enter Tryd.func4, Tryd.ntmps4
      go_upto_if 20 with (first | ((with_reducible refine gate_callee (f := 6) rfl ?_); refine goesL_ (some 14) rfl rfl Tryd.func6 (by kernel_rfl) rfl #[] rfl (by (try simp only [List.map_toArray, List.map_cons, List.map_nil]); first | done | rfl | (simp only [List.length_drop, List.length_take]; rfl)) ?_; (with_reducible refine (parallaxlaw12_known.calls k  true _ rfl A4.out).mono ?_); rintro e w9 ⟨rfl, hb⟩; refine ⟨_, rfl, ?_⟩; have n0_ := Aside0.mk (below_step (by repeat (first | (with_reducible first | exact HB.out | apply below_alloc | apply pw_below_drewN | apply below_drew1) | exact HB.out)) hb); clear HB; have HB := n0_; clear n0_; (try clear hb); (try clear hb2); (try clear hk); (try clear hi)) | ((with_reducible refine gate_dst (N := 7) rfl ?_); refine box_event ?hg (N := 7) ?hd (cs := #[.string (⟨#[]⟩ : ByteArray), .string (⟨#[]⟩ : ByteArray), .int .i64 0, .slice none 0 0, .bool false, .slice none 0 0, .slice none 0 0]) (t := 25) ?hr ?_; (case hd => rfl); (case hg => rfl); (case hr => first | (go_simp; done) | (go_simp; rfl)); intro gb205 hg w10 hbox hb; have n0_ := Aside0.mk (below_step (by repeat (first | (with_reducible first | exact HB.out | apply below_alloc | apply pw_below_drewN | apply below_drew1) | exact HB.out)) hb); have n1_ := Aside0.mk (hbox); have n2_ := Aside0.mk ((by rw [hg]; exact (below_size (by repeat (first | (with_reducible first | exact HB.out | apply below_alloc | apply pw_below_drewN | apply below_drew1) | exact HB.out))) : w.heap.size ≤ gb205)); have n3_ := Aside0.mk ((by rw [hg]; exact (below_size (by repeat (first | (with_reducible first | exact HB.out | apply below_alloc | apply pw_below_drewN | apply below_drew1) | exact HB.out))) : w.heap.size ≤ gb205)); clear HB; have HB := n0_; have BK205 := n1_; have GW205 := n2_; have GE205 := n3_; clear n0_ n1_ n2_ n3_; clear hb hbox hg; have hcz11_0 : w10.cell? ⟨gb205, 0, none⟩ = some (.string (⟨#[]⟩ : ByteArray)) := (blk_cell BK205.out 0).trans rfl; have hcz11_1 : w10.cell? ⟨gb205, 1, none⟩ = some (.string (⟨#[]⟩ : ByteArray)) := (blk_cell BK205.out 1).trans rfl; have hcz11_2 : w10.cell? ⟨gb205, 2, none⟩ = some (.int .i64 0) := (blk_cell BK205.out 2).trans rfl; have hcz11_3 : w10.cell? ⟨gb205, 3, none⟩ = some (.slice none 0 0) := (blk_cell BK205.out 3).trans rfl; have hcz11_4 : w10.cell? ⟨gb205, 4, none⟩ = some (.bool false) := (blk_cell BK205.out 4).trans rfl; have hcz11_5 : w10.cell? ⟨gb205, 5, none⟩ = some (.slice none 0 0) := (blk_cell BK205.out 5).trans rfl; have hcz11_6 : w10.cell? ⟨gb205, 6, none⟩ = some (.slice none 0 0) := (blk_cell BK205.out 6).trans rfl; have hfz11_0 := blk_frozen BK205.out 0; have hfz11_1 := blk_frozen BK205.out 1; have hfz11_2 := blk_frozen BK205.out 2; have hfz11_3 := blk_frozen BK205.out 3; have hfz11_4 := blk_frozen BK205.out 4; have hfz11_5 := blk_frozen BK205.out 5; have hfz11_6 := blk_frozen BK205.out 6))
      (try simp only [Act.put, List.setIfInBounds_toArray, List.set_cons_zero, List.set_cons_succ])
      go_cut [] (fun wc => ∃ (kq : Nat) (x206002_7 : Int), Aside0 (parallaxlaw12_RecordCloses.j0 kq l0 a1 a2 (⟨#[71, 69, 84]⟩ : ByteArray) (⟨#[47]⟩ : ByteArray) x206002_7 false = some r) ∧ Aside0 (kq ≤ k) ∧ Aside0 (wc.heap[gb205]? = some (.cells #[.string (⟨#[71, 69, 84]⟩ : ByteArray), .string (⟨#[47]⟩ : ByteArray), .int .i64 x206002_7, (.slice none 0 0), .bool false, (.slice none 0 0), (.slice none 0 0)] 25 (0, 0))) ∧ Aside0 (Below w.heap.size w wc))
      case first =>
        have H := HC8.out
        clear HC8
        by_cases c12 : a1 = true
        · subst c12
          rw [if_pos rfl] at H
          have H' := Aside0.mk H
          clear H
          have hcz13_0 : w10.cell? ⟨gb205, 0, none⟩ = some (.string (⟨#[]⟩ : ByteArray)) := (blk_cell BK205.out 0).trans rfl
          have hcz13_1 : w10.cell? ⟨gb205, 1, none⟩ = some (.string (⟨#[]⟩ : ByteArray)) := (blk_cell BK205.out 1).trans rfl
          have hcz13_2 : w10.cell? ⟨gb205, 2, none⟩ = some (.int .i64 0) := (blk_cell BK205.out 2).trans rfl
          have hcz13_3 : w10.cell? ⟨gb205, 3, none⟩ = some (.slice none 0 0) := (blk_cell BK205.out 3).trans rfl
          have hcz13_4 : w10.cell? ⟨gb205, 4, none⟩ = some (.bool false) := (blk_cell BK205.out 4).trans rfl
          have hcz13_5 : w10.cell? ⟨gb205, 5, none⟩ = some (.slice none 0 0) := (blk_cell BK205.out 5).trans rfl
          have hcz13_6 : w10.cell? ⟨gb205, 6, none⟩ = some (.slice none 0 0) := (blk_cell BK205.out 6).trans rfl
          have hfz13_0 := blk_frozen BK205.out 0
          have hfz13_1 := blk_frozen BK205.out 1
          have hfz13_2 := blk_frozen BK205.out 2
          have hfz13_3 := blk_frozen BK205.out 3
          have hfz13_4 := blk_frozen BK205.out 4
          have hfz13_5 := blk_frozen BK205.out 5
          have hfz13_6 := blk_frozen BK205.out 6
          go_wp2
          (try any_goals (exfalso; have h_ := ‹some undef = some (Value.bool _)›; revert h_; simp [undef]; done))
          go_meet
          case rel => exact ⟨_, (0), H', ⟨by first | omega | exact Nat.le_refl _⟩, ⟨by (with_reducible repeat (first | refine blk_drewN ?_ _ | refine blk_drew ?_ | refine blk_alloc ?_ _)); refine blk_put (cs := #[.string (⟨#[71, 69, 84]⟩ : ByteArray), .string (⟨#[47]⟩ : ByteArray), .int .i64 1, .slice none 0 0, .bool false, .slice none 0 0, .slice none 0 0]) ?_ 2 _ rfl; (with_reducible repeat (first | refine blk_drewN ?_ _ | refine blk_drew ?_ | refine blk_alloc ?_ _)); refine blk_put (cs := #[.string (⟨#[71, 69, 84]⟩ : ByteArray), .string (⟨#[47]⟩ : ByteArray), .int .i64 1, .slice none 0 0, .bool false, .slice none 0 0, .slice none 0 0]) ?_ 6 _ rfl; (with_reducible repeat (first | refine blk_drewN ?_ _ | refine blk_drew ?_ | refine blk_alloc ?_ _)); refine blk_put (cs := #[.string (⟨#[71, 69, 84]⟩ : ByteArray), .string (⟨#[47]⟩ : ByteArray), .int .i64 1, .slice none 0 0, .bool false, .slice none 0 0, .slice none 0 0]) ?_ 5 _ rfl; (with_reducible repeat (first | refine blk_drewN ?_ _ | refine blk_drew ?_ | refine blk_alloc ?_ _)); refine blk_put (cs := #[.string (⟨#[71, 69, 84]⟩ : ByteArray), .string (⟨#[47]⟩ : ByteArray), .int .i64 1, .slice none 0 0, .bool false, .slice none 0 0, .slice none 0 0]) ?_ 4 _ rfl; (with_reducible repeat (first | refine blk_drewN ?_ _ | refine blk_drew ?_ | refine blk_alloc ?_ _)); refine blk_put (cs := #[.string (⟨#[71, 69, 84]⟩ : ByteArray), .string (⟨#[47]⟩ : ByteArray), .int .i64 1, .slice none 0 0, .bool false, .slice none 0 0, .slice none 0 0]) ?_ 3 _ rfl; (with_reducible repeat (first | refine blk_drewN ?_ _ | refine blk_drew ?_ | refine blk_alloc ?_ _)); refine blk_put (cs := #[.string (⟨#[71, 69, 84]⟩ : ByteArray), .string (⟨#[47]⟩ : ByteArray), .int .i64 0, .slice none 0 0, .bool false, .slice none 0 0, .slice none 0 0]) ?_ 2 _ rfl; (with_reducible repeat (first | refine blk_drewN ?_ _ | refine blk_drew ?_ | refine blk_alloc ?_ _)); refine blk_put (cs := #[.string (⟨#[71, 69, 84]⟩ : ByteArray), .string (⟨#[]⟩ : ByteArray), .int .i64 0, .slice none 0 0, .bool false, .slice none 0 0, .slice none 0 0]) ?_ 1 _ rfl; (with_reducible repeat (first | refine blk_drewN ?_ _ | refine blk_drew ?_ | refine blk_alloc ?_ _)); refine blk_put (cs := #[.string (⟨#[]⟩ : ByteArray), .string (⟨#[]⟩ : ByteArray), .int .i64 0, .slice none 0 0, .bool false, .slice none 0 0, .slice none 0 0]) ?_ 0 _ rfl; (with_reducible repeat (first | refine blk_drewN ?_ _ | refine blk_drew ?_ | refine blk_alloc ?_ _)); exact BK205.out⟩, ⟨by repeat (first | (with_reducible first | exact HB.out | apply below_alloc | apply pw_below_drewN | apply below_drew1 | refine below_set ?_ GE205.out) | exact HB.out)⟩⟩
        · replace c12 := Bool.eq_false_iff.mpr c12
          subst c12
          rw [if_neg (show ¬ (false = true) by decide)] at H
          have H' := Aside0.mk H
          clear H
          go_wp2
          (try any_goals (exfalso; have h_ := ‹some undef = some (Value.bool _)›; revert h_; simp [undef]; done))
          go_meet
          case rel => exact ⟨_, (1), H', ⟨by first | omega | exact Nat.le_refl _⟩, ⟨by (with_reducible repeat (first | refine blk_drewN ?_ _ | refine blk_drew ?_ | refine blk_alloc ?_ _)); refine blk_put (cs := #[.string (⟨#[71, 69, 84]⟩ : ByteArray), .string (⟨#[47]⟩ : ByteArray), .int .i64 1, .slice none 0 0, .bool false, .slice none 0 0, .slice none 0 0]) ?_ 6 _ rfl; (with_reducible repeat (first | refine blk_drewN ?_ _ | refine blk_drew ?_ | refine blk_alloc ?_ _)); refine blk_put (cs := #[.string (⟨#[71, 69, 84]⟩ : ByteArray), .string (⟨#[47]⟩ : ByteArray), .int .i64 1, .slice none 0 0, .bool false, .slice none 0 0, .slice none 0 0]) ?_ 5 _ rfl; (with_reducible repeat (first | refine blk_drewN ?_ _ | refine blk_drew ?_ | refine blk_alloc ?_ _)); refine blk_put (cs := #[.string (⟨#[71, 69, 84]⟩ : ByteArray), .string (⟨#[47]⟩ : ByteArray), .int .i64 1, .slice none 0 0, .bool false, .slice none 0 0, .slice none 0 0]) ?_ 4 _ rfl; (with_reducible repeat (first | refine blk_drewN ?_ _ | refine blk_drew ?_ | refine blk_alloc ?_ _)); refine blk_put (cs := #[.string (⟨#[71, 69, 84]⟩ : ByteArray), .string (⟨#[47]⟩ : ByteArray), .int .i64 1, .slice none 0 0, .bool false, .slice none 0 0, .slice none 0 0]) ?_ 3 _ rfl; (with_reducible repeat (first | refine blk_drewN ?_ _ | refine blk_drew ?_ | refine blk_alloc ?_ _)); refine blk_put (cs := #[.string (⟨#[71, 69, 84]⟩ : ByteArray), .string (⟨#[47]⟩ : ByteArray), .int .i64 0, .slice none 0 0, .bool false, .slice none 0 0, .slice none 0 0]) ?_ 2 _ rfl; (with_reducible repeat (first | refine blk_drewN ?_ _ | refine blk_drew ?_ | refine blk_alloc ?_ _)); refine blk_put (cs := #[.string (⟨#[71, 69, 84]⟩ : ByteArray), .string (⟨#[]⟩ : ByteArray), .int .i64 0, .slice none 0 0, .bool false, .slice none 0 0, .slice none 0 0]) ?_ 1 _ rfl; (with_reducible repeat (first | refine blk_drewN ?_ _ | refine blk_drew ?_ | refine blk_alloc ?_ _)); refine blk_put (cs := #[.string (⟨#[]⟩ : ByteArray), .string (⟨#[]⟩ : ByteArray), .int .i64 0, .slice none 0 0, .bool false, .slice none 0 0, .slice none 0 0]) ?_ 0 _ rfl; (with_reducible repeat (first | refine blk_drewN ?_ _ | refine blk_drew ?_ | refine blk_alloc ?_ _)); exact BK205.out⟩, ⟨by repeat (first | (with_reducible first | exact HB.out | apply below_alloc | apply pw_below_drewN | apply below_drew1 | refine below_set ?_ GE205.out) | exact HB.out)⟩⟩
      case rest =>
        clear HC8
        try clear c1
        try clear p2
        try clear q2
        try clear c4
        try clear c5
        try clear c6
        try clear c6b0
        try clear c6b1
        try clear c12
        try clear hcz11_0
        try clear hcz11_1
        try clear hcz11_2
        try clear hcz11_3
        try clear hcz11_4
        try clear hcz11_5
        try clear hcz11_6
        try clear hcz13_0
        try clear hcz13_1
        try clear hcz13_2
        try clear hcz13_3
        try clear hcz13_4
        try clear hcz13_5
        try clear hcz13_6
        try clear hfz11_0
        try clear hfz11_1
        try clear hfz11_2
        try clear hfz11_3
        try clear hfz11_4
        try clear hfz11_5
        try clear hfz11_6
        try clear hfz13_0
        try clear hfz13_1
        try clear hfz13_2
        try clear hfz13_3
        try clear hfz13_4
        try clear hfz13_5
        try clear hfz13_6
        obtain ⟨kq, x206002_7, HA, HJ7, BK205, HB⟩ := hcut
        cases kq with
        | zero => exact absurd HA.out (by simp [parallaxlaw12_RecordCloses.j0])
        | succ kj7 =>
          have H := HA.out
          clear HA
          simp only [parallaxlaw12_RecordCloses.j0] at H
          have H' := Aside0.mk H
          clear H
          go_wp2
          (try any_goals (exfalso; have h_ := ‹some undef = some (Value.bool _)›; revert h_; simp [undef]; done))
          go_loopg [8, 9, 10] kj7 (fun kq v8 v9 v10 w' => ∃ (x8_2 : Bool) (x9_2 : Bool) (x10_2 : Int) (x206003_2 : List (S31)) (u206003 : Value), v8 = .bool x8_2 ∧ v9 = .bool x9_2 ∧ v10 = .int .i64 x10_2 ∧ Aside0 (parallaxlaw12_RecordCloses.l0 kq l0 a1 a2 x8_2 x9_2 x10_2 (⟨#[71, 69, 84]⟩ : ByteArray) (⟨#[47]⟩ : ByteArray) x206002_7 x206003_2 false = some r) ∧ Aside0 (kq ≤ kj7) ∧ Aside0 (Kd.R k31 31 w' w.heap.size (fun _ => True) u206003 x206003_2) ∧ Aside0 (w'.heap[gb205]? = some (.cells #[.string (⟨#[71, 69, 84]⟩ : ByteArray), .string (⟨#[47]⟩ : ByteArray), .int .i64 x206002_7, u206003, .bool false, (.slice none 0 0), (.slice none 0 0)] 25 (0, 0))) ∧ Aside0 (Below w.heap.size w w'))
          case atStart => exact ⟨(false), (false), (0), (([] : List (S31))), (.slice none 0 0), (by first | rfl | (simp; done) | (simp [*]; done)), (by first | rfl | (simp; done) | (simp [*]; done)), (by first | rfl | (simp; done) | (simp [*]; done)), H', ⟨Nat.le_refl _⟩, ⟨by first | exact Kd.R_nil _ _ _ _ _ | exact Kd.N_nil _ _ _ _ _ | exact Kd.V_nil _ _ _ _ _ | exact Kd.Q_nil _ _ _ _ _ | exact Kd.S_nil _ _ _ _ _⟩, ⟨by (with_reducible repeat (first | refine blk_drewN ?_ _ | refine blk_drew ?_ | refine blk_alloc ?_ _)); exact BK205.out⟩, ⟨by repeat (first | (with_reducible first | exact HB.out | apply below_alloc | apply pw_below_drewN | apply below_drew1 | refine below_set ?_ GE205.out) | exact HB.out)⟩⟩
          case round =>
            clear H'
            try clear c1
            try clear p2
            try clear q2
            try clear c4
            try clear c5
            try clear c6
            try clear c6b0
            try clear c6b1
            try clear c12
            try clear hcz11_0
            try clear hcz11_1
            try clear hcz11_2
            try clear hcz11_3
            try clear hcz11_4
            try clear hcz11_5
            try clear hcz11_6
            try clear hcz13_0
            try clear hcz13_1
            try clear hcz13_2
            try clear hcz13_3
            try clear hcz13_4
            try clear hcz13_5
            try clear hcz13_6
            try clear hfz11_0
            try clear hfz11_1
            try clear hfz11_2
            try clear hfz11_3
            try clear hfz11_4
            try clear hfz11_5
            try clear hfz11_6
            try clear hfz13_0
            try clear hfz13_1
            try clear hfz13_2
            try clear hfz13_3
            try clear hfz13_4
            try clear hfz13_5
            try clear hfz13_6
            try clear p2
            try clear q2
            obtain ⟨x8_2, x9_2, x10_2, x206003_2, u206003, rfl, rfl, rfl, HA, HK2, HO_206003, BK205, HB⟩ := hrel
            cases gk with
            | zero => exact absurd HA.out (by simp [parallaxlaw12_RecordCloses.l0])
            | succ k2 =>
              have H := HA.out
              clear HA
              simp only [parallaxlaw12_RecordCloses.l0] at H
              by_cases c14 : x10_2 < (l0.length : Int)
              · rw [if_pos c14] at H
                have c14b0 : decide (x10_2 < (l0.length : Int)) = true := decide_eq_true c14
                clear c14
                have HC15 := Aside0.mk H
                clear H
                go_upto_block 1 with (fail)
                go_cut [8, 9] (fun v8 v9 wc => ∃ (kq : Nat) (x8_14 : Bool) (x9_14 : Bool) (x206003_14 : List (S31)) (u206003 : Value), v8 = .bool x8_14 ∧ v9 = .bool x9_14 ∧ Aside0 (parallaxlaw12_RecordCloses.j3 kq l0 a1 a2 x8_14 x9_14 x10_2 (⟨#[71, 69, 84]⟩ : ByteArray) (⟨#[47]⟩ : ByteArray) x206002_7 x206003_14 false = some r) ∧ Aside0 (kq ≤ k2) ∧ Aside0 (Kd.R k31 31 wc w.heap.size (fun _ => True) u206003 x206003_14) ∧ Aside0 (wc.heap[gb205]? = some (.cells #[.string (⟨#[71, 69, 84]⟩ : ByteArray), .string (⟨#[47]⟩ : ByteArray), .int .i64 x206002_7, u206003, .bool false, (.slice none 0 0), (.slice none 0 0)] 25 (0, 0))) ∧ Aside0 (Below w.heap.size w wc))
                case first =>
                  have H := HC15.out
                  clear HC15
                  obtain ⟨y206, hy206⟩ : ∃ y_ : List ByteArray, y_ = (([(⟨#[99, 108, 111, 115, 101]⟩ : ByteArray), (⟨#[67, 76, 79, 83, 69]⟩ : ByteArray), (⟨#[107, 101, 101, 112, 45, 97, 108, 105, 118, 101]⟩ : ByteArray), (⟨#[75, 101, 101, 112, 45, 65, 108, 105, 118, 101]⟩ : ByteArray), (⟨#[120]⟩ : ByteArray), (⟨#[120, 99, 108, 111, 115, 101]⟩ : ByteArray), (⟨#[97, 44, 32, 99, 108, 111, 115, 101]⟩ : ByteArray), (⟨#[99, 108, 111, 115, 101, 44, 98]⟩ : ByteArray), (⟨#[107, 101, 101, 112, 45, 97, 108, 105, 118, 101, 32, 44, 120]⟩ : ByteArray), (⟨#[99, 108, 111, 115, 101, 32, 120]⟩ : ByteArray)] : List ByteArray)) := ⟨_, rfl⟩
                  replace H : (if 0 ≤ x10_2 then (if 0 ≤ (Int.tmod (rd l0 x10_2) 10) then (if (Int.tmod (rd l0 x10_2) 10) < (y206.length : Int) then ((some (([(⟨#[67, 111, 110, 110, 101, 99, 116, 105, 111, 110]⟩ : ByteArray), (⟨#[99, 111, 110, 110, 101, 99, 116, 105, 111, 110]⟩ : ByteArray), (⟨#[80, 114, 111, 120, 121, 45, 67, 111, 110, 110, 101, 99, 116, 105, 111, 110]⟩ : ByteArray)] : List ByteArray) : List ByteArray)).bind fun y211 => (if 0 ≤ (((((Int.tdiv (rd l0 x10_2) 10) % 256) + a2) % 256) % 3) then (if (((((Int.tdiv (rd l0 x10_2) 10) % 256) + a2) % 256) % 3) < (y211.length : Int) then (if x206003_2.length < 4398046511104 then ((some (x206003_2 ++ [(⟨rdOf ByteArray.empty y211 (((((Int.tdiv (rd l0 x10_2) 10) % 256) + a2) % 256) % 3), rdOf ByteArray.empty y206 (Int.tmod (rd l0 x10_2) 10)⟩ : S31)] : List (S31))).bind fun y217 => (if (rdOf ByteArray.empty y211 (((((Int.tdiv (rd l0 x10_2) 10) % 256) + a2) % 256) % 3)).toList = ([80, 114, 111, 120, 121, 45, 67, 111, 110, 110, 101, 99, 116, 105, 111, 110] : List UInt8) then (parallaxlaw12_RecordCloses.j3 k2 l0 a1 a2 x8_2 x9_2 x10_2 (⟨#[71, 69, 84]⟩ : ByteArray) (⟨#[47]⟩ : ByteArray) x206002_7 y217 false) else (if x8_2 = true then (parallaxlaw12_RecordCloses.j2 k2 l0 a1 a2 true x9_2 x10_2 (Int.tmod (rd l0 x10_2) 10) (⟨#[71, 69, 84]⟩ : ByteArray) (⟨#[47]⟩ : ByteArray) x206002_7 y217 false) else (if (Int.tmod (rd l0 x10_2) 10) = 0 then (parallaxlaw12_RecordCloses.j2 k2 l0 a1 a2 true x9_2 x10_2 (Int.tmod (rd l0 x10_2) 10) (⟨#[71, 69, 84]⟩ : ByteArray) (⟨#[47]⟩ : ByteArray) x206002_7 y217 false) else (if (Int.tmod (rd l0 x10_2) 10) = 1 then (parallaxlaw12_RecordCloses.j2 k2 l0 a1 a2 true x9_2 x10_2 (Int.tmod (rd l0 x10_2) 10) (⟨#[71, 69, 84]⟩ : ByteArray) (⟨#[47]⟩ : ByteArray) x206002_7 y217 false) else (if (Int.tmod (rd l0 x10_2) 10) = 6 then (parallaxlaw12_RecordCloses.j2 k2 l0 a1 a2 true x9_2 x10_2 (Int.tmod (rd l0 x10_2) 10) (⟨#[71, 69, 84]⟩ : ByteArray) (⟨#[47]⟩ : ByteArray) x206002_7 y217 false) else (parallaxlaw12_RecordCloses.j2 k2 l0 a1 a2 ((Int.tmod (rd l0 x10_2) 10) == 7) x9_2 x10_2 (Int.tmod (rd l0 x10_2) 10) (⟨#[71, 69, 84]⟩ : ByteArray) (⟨#[47]⟩ : ByteArray) x206002_7 y217 false))))))) else (none)) else (none)) else (none))) else (none)) else (none)) else (none)) = some r := by first | (rw [hy206]; with_reducible exact H) | (have H2_ := (Option.bind_some _ _).symm.trans H; rw [hy206]; with_reducible exact H2_) | (have H2_ := (Option.bind_some _ _).symm.trans H; with_reducible exact H2_) | with_reducible exact H | (rw [hy206]; exact H) | exact H
                  have Ny206 := Aside0.mk hy206
                  clear hy206
                  by_cases c16 : 0 ≤ x10_2
                  · rw [if_pos c16] at H
                    have c16b0 : decide (0 ≤ x10_2) = true := decide_eq_true c16
                    clear c16
                    (first | rw [c16b0] | (simp only [i64_w, i32_w]; rw [c16b0]) | skip)
                    obtain ⟨ji17, hji17⟩ : ∃ j_ : Int, (Int.tmod (rd l0 x10_2) 10) = j_ := ⟨_, rfl⟩
                    replace H : (if 0 ≤ (ji17) then (if (ji17) < (y206.length : Int) then ((some (([(⟨#[67, 111, 110, 110, 101, 99, 116, 105, 111, 110]⟩ : ByteArray), (⟨#[99, 111, 110, 110, 101, 99, 116, 105, 111, 110]⟩ : ByteArray), (⟨#[80, 114, 111, 120, 121, 45, 67, 111, 110, 110, 101, 99, 116, 105, 111, 110]⟩ : ByteArray)] : List ByteArray) : List ByteArray)).bind fun y211 => (if 0 ≤ (((((Int.tdiv (rd l0 x10_2) 10) % 256) + a2) % 256) % 3) then (if (((((Int.tdiv (rd l0 x10_2) 10) % 256) + a2) % 256) % 3) < (y211.length : Int) then (if x206003_2.length < 4398046511104 then ((some (x206003_2 ++ [(⟨rdOf ByteArray.empty y211 (((((Int.tdiv (rd l0 x10_2) 10) % 256) + a2) % 256) % 3), rdOf ByteArray.empty y206 (ji17)⟩ : S31)] : List (S31))).bind fun y217 => (if (rdOf ByteArray.empty y211 (((((Int.tdiv (rd l0 x10_2) 10) % 256) + a2) % 256) % 3)).toList = ([80, 114, 111, 120, 121, 45, 67, 111, 110, 110, 101, 99, 116, 105, 111, 110] : List UInt8) then (parallaxlaw12_RecordCloses.j3 k2 l0 a1 a2 x8_2 x9_2 x10_2 (⟨#[71, 69, 84]⟩ : ByteArray) (⟨#[47]⟩ : ByteArray) x206002_7 y217 false) else (if x8_2 = true then (parallaxlaw12_RecordCloses.j2 k2 l0 a1 a2 true x9_2 x10_2 ji17 (⟨#[71, 69, 84]⟩ : ByteArray) (⟨#[47]⟩ : ByteArray) x206002_7 y217 false) else (if (ji17) = 0 then (parallaxlaw12_RecordCloses.j2 k2 l0 a1 a2 true x9_2 x10_2 ji17 (⟨#[71, 69, 84]⟩ : ByteArray) (⟨#[47]⟩ : ByteArray) x206002_7 y217 false) else (if (ji17) = 1 then (parallaxlaw12_RecordCloses.j2 k2 l0 a1 a2 true x9_2 x10_2 ji17 (⟨#[71, 69, 84]⟩ : ByteArray) (⟨#[47]⟩ : ByteArray) x206002_7 y217 false) else (if (ji17) = 6 then (parallaxlaw12_RecordCloses.j2 k2 l0 a1 a2 true x9_2 x10_2 ji17 (⟨#[71, 69, 84]⟩ : ByteArray) (⟨#[47]⟩ : ByteArray) x206002_7 y217 false) else (parallaxlaw12_RecordCloses.j2 k2 l0 a1 a2 ((ji17) == 7) x9_2 x10_2 ji17 (⟨#[71, 69, 84]⟩ : ByteArray) (⟨#[47]⟩ : ByteArray) x206002_7 y217 false))))))) else (none)) else (none)) else (none))) else (none)) else (none)) = some r := by first | (rw [hji17] at H; exact H) | (simp only [hji17] at H ⊢; exact H)
                    by_cases c18 : 0 ≤ (ji17)
                    · rw [if_pos c18] at H
                      have c18b0 : decide (0 ≤ (ji17)) = true := decide_eq_true c18
                      clear c18
                      by_cases c19 : (ji17) < (y206.length : Int)
                      · rw [if_pos c19] at H
                        have c19b0 : decide ((ji17) < (y206.length : Int)) = true := decide_eq_true c19
                        clear c19
                        obtain ⟨y211, hy211⟩ : ∃ y_ : List ByteArray, y_ = (([(⟨#[67, 111, 110, 110, 101, 99, 116, 105, 111, 110]⟩ : ByteArray), (⟨#[99, 111, 110, 110, 101, 99, 116, 105, 111, 110]⟩ : ByteArray), (⟨#[80, 114, 111, 120, 121, 45, 67, 111, 110, 110, 101, 99, 116, 105, 111, 110]⟩ : ByteArray)] : List ByteArray)) := ⟨_, rfl⟩
                        replace H : (if 0 ≤ (((((Int.tdiv (rd l0 x10_2) 10) % 256) + a2) % 256) % 3) then (if (((((Int.tdiv (rd l0 x10_2) 10) % 256) + a2) % 256) % 3) < (y211.length : Int) then (if x206003_2.length < 4398046511104 then ((some (x206003_2 ++ [(⟨rdOf ByteArray.empty y211 (((((Int.tdiv (rd l0 x10_2) 10) % 256) + a2) % 256) % 3), rdOf ByteArray.empty y206 (ji17)⟩ : S31)] : List (S31))).bind fun y217 => (if (rdOf ByteArray.empty y211 (((((Int.tdiv (rd l0 x10_2) 10) % 256) + a2) % 256) % 3)).toList = ([80, 114, 111, 120, 121, 45, 67, 111, 110, 110, 101, 99, 116, 105, 111, 110] : List UInt8) then (parallaxlaw12_RecordCloses.j3 k2 l0 a1 a2 x8_2 x9_2 x10_2 (⟨#[71, 69, 84]⟩ : ByteArray) (⟨#[47]⟩ : ByteArray) x206002_7 y217 false) else (if x8_2 = true then (parallaxlaw12_RecordCloses.j2 k2 l0 a1 a2 true x9_2 x10_2 ji17 (⟨#[71, 69, 84]⟩ : ByteArray) (⟨#[47]⟩ : ByteArray) x206002_7 y217 false) else (if (ji17) = 0 then (parallaxlaw12_RecordCloses.j2 k2 l0 a1 a2 true x9_2 x10_2 ji17 (⟨#[71, 69, 84]⟩ : ByteArray) (⟨#[47]⟩ : ByteArray) x206002_7 y217 false) else (if (ji17) = 1 then (parallaxlaw12_RecordCloses.j2 k2 l0 a1 a2 true x9_2 x10_2 ji17 (⟨#[71, 69, 84]⟩ : ByteArray) (⟨#[47]⟩ : ByteArray) x206002_7 y217 false) else (if (ji17) = 6 then (parallaxlaw12_RecordCloses.j2 k2 l0 a1 a2 true x9_2 x10_2 ji17 (⟨#[71, 69, 84]⟩ : ByteArray) (⟨#[47]⟩ : ByteArray) x206002_7 y217 false) else (parallaxlaw12_RecordCloses.j2 k2 l0 a1 a2 ((ji17) == 7) x9_2 x10_2 ji17 (⟨#[71, 69, 84]⟩ : ByteArray) (⟨#[47]⟩ : ByteArray) x206002_7 y217 false))))))) else (none)) else (none)) else (none)) = some r := by first | (rw [hy211]; with_reducible exact H) | (have H2_ := (Option.bind_some _ _).symm.trans H; rw [hy211]; with_reducible exact H2_) | (have H2_ := (Option.bind_some _ _).symm.trans H; with_reducible exact H2_) | with_reducible exact H | (rw [hy211]; exact H) | exact H
                        have Ny211 := Aside0.mk hy211
                        clear hy211
                        obtain ⟨ji20, hji20⟩ : ∃ j_ : Int, (((((Int.tdiv (rd l0 x10_2) 10) % 256) + a2) % 256) % 3) = j_ := ⟨_, rfl⟩
                        have hji20w : ((Int.tdiv (rd l0 x10_2) 10) + a2) % 256 % 3 = ji20 := by rw [← hji20, Int.emod_add_emod]
                        replace H : (if 0 ≤ (ji20) then (if (ji20) < (y211.length : Int) then (if x206003_2.length < 4398046511104 then ((some (x206003_2 ++ [(⟨rdOf ByteArray.empty y211 (ji20), rdOf ByteArray.empty y206 (ji17)⟩ : S31)] : List (S31))).bind fun y217 => (if (rdOf ByteArray.empty y211 (ji20)).toList = ([80, 114, 111, 120, 121, 45, 67, 111, 110, 110, 101, 99, 116, 105, 111, 110] : List UInt8) then (parallaxlaw12_RecordCloses.j3 k2 l0 a1 a2 x8_2 x9_2 x10_2 (⟨#[71, 69, 84]⟩ : ByteArray) (⟨#[47]⟩ : ByteArray) x206002_7 y217 false) else (if x8_2 = true then (parallaxlaw12_RecordCloses.j2 k2 l0 a1 a2 true x9_2 x10_2 ji17 (⟨#[71, 69, 84]⟩ : ByteArray) (⟨#[47]⟩ : ByteArray) x206002_7 y217 false) else (if (ji17) = 0 then (parallaxlaw12_RecordCloses.j2 k2 l0 a1 a2 true x9_2 x10_2 ji17 (⟨#[71, 69, 84]⟩ : ByteArray) (⟨#[47]⟩ : ByteArray) x206002_7 y217 false) else (if (ji17) = 1 then (parallaxlaw12_RecordCloses.j2 k2 l0 a1 a2 true x9_2 x10_2 ji17 (⟨#[71, 69, 84]⟩ : ByteArray) (⟨#[47]⟩ : ByteArray) x206002_7 y217 false) else (if (ji17) = 6 then (parallaxlaw12_RecordCloses.j2 k2 l0 a1 a2 true x9_2 x10_2 ji17 (⟨#[71, 69, 84]⟩ : ByteArray) (⟨#[47]⟩ : ByteArray) x206002_7 y217 false) else (parallaxlaw12_RecordCloses.j2 k2 l0 a1 a2 ((ji17) == 7) x9_2 x10_2 ji17 (⟨#[71, 69, 84]⟩ : ByteArray) (⟨#[47]⟩ : ByteArray) x206002_7 y217 false))))))) else (none)) else (none)) else (none)) = some r := by first | (rw [hji20] at H; exact H) | (simp only [hji20] at H ⊢; exact H)
                        by_cases c21 : 0 ≤ (ji20)
                        · rw [if_pos c21] at H
                          have c21b0 : decide (0 ≤ (ji20)) = true := decide_eq_true c21
                          clear c21
                          by_cases c22 : (ji20) < (y211.length : Int)
                          · rw [if_pos c22] at H
                            have c22b0 : decide ((ji20) < (y211.length : Int)) = true := decide_eq_true c22
                            clear c22
                            by_cases c23 : x206003_2.length < 4398046511104
                            · rw [if_pos c23] at H
                              have LMc23 := Aside0.mk c23
                              clear c23
                              obtain ⟨y217, hy217⟩ : ∃ y_ : List (S31), y_ = (x206003_2 ++ [(⟨rdOf ByteArray.empty y211 (ji20), rdOf ByteArray.empty y206 (ji17)⟩ : S31)]) := ⟨_, rfl⟩
                              replace H : (if (rdOf ByteArray.empty y211 (ji20)).toList = ([80, 114, 111, 120, 121, 45, 67, 111, 110, 110, 101, 99, 116, 105, 111, 110] : List UInt8) then (parallaxlaw12_RecordCloses.j3 k2 l0 a1 a2 x8_2 x9_2 x10_2 (⟨#[71, 69, 84]⟩ : ByteArray) (⟨#[47]⟩ : ByteArray) x206002_7 y217 false) else (if x8_2 = true then (parallaxlaw12_RecordCloses.j2 k2 l0 a1 a2 true x9_2 x10_2 ji17 (⟨#[71, 69, 84]⟩ : ByteArray) (⟨#[47]⟩ : ByteArray) x206002_7 y217 false) else (if (ji17) = 0 then (parallaxlaw12_RecordCloses.j2 k2 l0 a1 a2 true x9_2 x10_2 ji17 (⟨#[71, 69, 84]⟩ : ByteArray) (⟨#[47]⟩ : ByteArray) x206002_7 y217 false) else (if (ji17) = 1 then (parallaxlaw12_RecordCloses.j2 k2 l0 a1 a2 true x9_2 x10_2 ji17 (⟨#[71, 69, 84]⟩ : ByteArray) (⟨#[47]⟩ : ByteArray) x206002_7 y217 false) else (if (ji17) = 6 then (parallaxlaw12_RecordCloses.j2 k2 l0 a1 a2 true x9_2 x10_2 ji17 (⟨#[71, 69, 84]⟩ : ByteArray) (⟨#[47]⟩ : ByteArray) x206002_7 y217 false) else (parallaxlaw12_RecordCloses.j2 k2 l0 a1 a2 ((ji17) == 7) x9_2 x10_2 ji17 (⟨#[71, 69, 84]⟩ : ByteArray) (⟨#[47]⟩ : ByteArray) x206002_7 y217 false)))))) = some r := by first | (rw [hy217]; with_reducible exact H) | (have H2_ := (Option.bind_some _ _).symm.trans H; rw [hy217]; with_reducible exact H2_) | (have H2_ := (Option.bind_some _ _).symm.trans H; with_reducible exact H2_) | with_reducible exact H | (rw [hy217]; exact H) | exact H
                              have Ny217 := Aside0.mk hy217
                              clear hy217
                              by_cases c24 : (rdOf ByteArray.empty y211 (ji20)).toList = ([80, 114, 111, 120, 121, 45, 67, 111, 110, 110, 101, 99, 116, 105, 111, 110] : List UInt8)
                              · rw [if_pos c24] at H
                                have c24b0 : ((rdOf ByteArray.empty y211 (ji20)).toList == ([80, 114, 111, 120, 121, 45, 67, 111, 110, 110, 101, 99, 116, 105, 111, 110] : List UInt8)) = true := beq_iff_eq.mpr c24
                                have c24b1 : ((rdOf ByteArray.empty y211 (ji20)).toList != ([80, 114, 111, 120, 121, 45, 67, 111, 110, 110, 101, 99, 116, 105, 111, 110] : List UInt8)) = false := bne_eq_false_iff_eq.mpr c24
                                clear c24
                                have H' := Aside0.mk H
                                clear H
                                go_wp2_with (first | ((with_reducible refine gate_dst (N := 28) rfl ?_); refine Kd.R_lit Kd.string _ 9 ?hg (N := 28) ?hd (xs := ([(⟨#[99, 108, 111, 115, 101]⟩ : ByteArray), (⟨#[67, 76, 79, 83, 69]⟩ : ByteArray), (⟨#[107, 101, 101, 112, 45, 97, 108, 105, 118, 101]⟩ : ByteArray), (⟨#[75, 101, 101, 112, 45, 65, 108, 105, 118, 101]⟩ : ByteArray), (⟨#[120]⟩ : ByteArray), (⟨#[120, 99, 108, 111, 115, 101]⟩ : ByteArray), (⟨#[97, 44, 32, 99, 108, 111, 115, 101]⟩ : ByteArray), (⟨#[99, 108, 111, 115, 101, 44, 98]⟩ : ByteArray), (⟨#[107, 101, 101, 112, 45, 97, 108, 105, 118, 101, 32, 44, 120]⟩ : ByteArray), (⟨#[99, 108, 111, 115, 101, 32, 120]⟩ : ByteArray)] : List ByteArray)) (inner := [.string (⟨#[99, 108, 111, 115, 101]⟩ : ByteArray), .string (⟨#[67, 76, 79, 83, 69]⟩ : ByteArray), .string (⟨#[107, 101, 101, 112, 45, 97, 108, 105, 118, 101]⟩ : ByteArray), .string (⟨#[75, 101, 101, 112, 45, 65, 108, 105, 118, 101]⟩ : ByteArray), .string (⟨#[120]⟩ : ByteArray), .string (⟨#[120, 99, 108, 111, 115, 101]⟩ : ByteArray), .string (⟨#[97, 44, 32, 99, 108, 111, 115, 101]⟩ : ByteArray), .string (⟨#[99, 108, 111, 115, 101, 44, 98]⟩ : ByteArray), .string (⟨#[107, 101, 101, 112, 45, 97, 108, 105, 118, 101, 32, 44, 120]⟩ : ByteArray), .string (⟨#[99, 108, 111, 115, 101, 32, 120]⟩ : ByteArray)]) (ok := fun _ => True) (okp := fun _ => True) ?hr ?hp (fun _ hk => hk) trivial (Below.refl _ _) (Nat.le_refl _) (by simp) ?_; (case hd => rfl); (case hg => rfl); (case hr => first | (go_simp; done) | (go_simp; rfl)); (case hp => exact (Reps.one (show Kd.M Kd.string _ _ _ (⟨#[99, 108, 111, 115, 101]⟩ : ByteArray) [.string (⟨#[99, 108, 111, 115, 101]⟩ : ByteArray)] from rfl) (Reps.one (show Kd.M Kd.string _ _ _ (⟨#[67, 76, 79, 83, 69]⟩ : ByteArray) [.string (⟨#[67, 76, 79, 83, 69]⟩ : ByteArray)] from rfl) (Reps.one (show Kd.M Kd.string _ _ _ (⟨#[107, 101, 101, 112, 45, 97, 108, 105, 118, 101]⟩ : ByteArray) [.string (⟨#[107, 101, 101, 112, 45, 97, 108, 105, 118, 101]⟩ : ByteArray)] from rfl) (Reps.one (show Kd.M Kd.string _ _ _ (⟨#[75, 101, 101, 112, 45, 65, 108, 105, 118, 101]⟩ : ByteArray) [.string (⟨#[75, 101, 101, 112, 45, 65, 108, 105, 118, 101]⟩ : ByteArray)] from rfl) (Reps.one (show Kd.M Kd.string _ _ _ (⟨#[120]⟩ : ByteArray) [.string (⟨#[120]⟩ : ByteArray)] from rfl) (Reps.one (show Kd.M Kd.string _ _ _ (⟨#[120, 99, 108, 111, 115, 101]⟩ : ByteArray) [.string (⟨#[120, 99, 108, 111, 115, 101]⟩ : ByteArray)] from rfl) (Reps.one (show Kd.M Kd.string _ _ _ (⟨#[97, 44, 32, 99, 108, 111, 115, 101]⟩ : ByteArray) [.string (⟨#[97, 44, 32, 99, 108, 111, 115, 101]⟩ : ByteArray)] from rfl) (Reps.one (show Kd.M Kd.string _ _ _ (⟨#[99, 108, 111, 115, 101, 44, 98]⟩ : ByteArray) [.string (⟨#[99, 108, 111, 115, 101, 44, 98]⟩ : ByteArray)] from rfl) (Reps.one (show Kd.M Kd.string _ _ _ (⟨#[107, 101, 101, 112, 45, 97, 108, 105, 118, 101, 32, 44, 120]⟩ : ByteArray) [.string (⟨#[107, 101, 101, 112, 45, 97, 108, 105, 118, 101, 32, 44, 120]⟩ : ByteArray)] from rfl) (Reps.one (show Kd.M Kd.string _ _ _ (⟨#[99, 108, 111, 115, 101, 32, 120]⟩ : ByteArray) [.string (⟨#[99, 108, 111, 115, 101, 32, 120]⟩ : ByteArray)] from rfl) (Reps.none _ _)))))))))))); intro v207 w25 ho26 hb hg_ hnew_; clear hg_ hnew_; (first | rw [← Ny206.out] at ho26 | (simp only [Int.reduceToNat] at ho26; rw [← Ny206.out] at ho26)); have n0_ := Aside0.mk (Kd.R_below (by (with_reducible repeat (first | apply Kd.R_alloc | apply Kd.R_drewN | apply Kd.R_drew)); exact HO_206003.out) hb); have n1_ := Aside0.mk (Kd.R_lower ho26 (below_size (by repeat (first | (with_reducible first | exact HB.out | apply below_alloc | apply pw_below_drewN | apply below_drew1 | refine below_set ?_ GE205.out) | exact HB.out)))); have n2_ := Aside0.mk (blk_below (g := gb205) (o := .cells #[.string (⟨#[71, 69, 84]⟩ : ByteArray), .string (⟨#[47]⟩ : ByteArray), .int .i64 x206002_7, u206003, .bool false, .slice none 0 0, .slice none 0 0] 25 (0, 0)) (by (with_reducible repeat (first | refine blk_drewN ?_ _ | refine blk_drew ?_ | refine blk_alloc ?_ _)); exact BK205.out) hb); have n3_ := Aside0.mk (below_step (by repeat (first | (with_reducible first | exact HB.out | apply below_alloc | apply pw_below_drewN | apply below_drew1 | refine below_set ?_ GE205.out) | exact HB.out)) hb); clear HO_206003; clear BK205; clear HB; have HO_206003 := n0_; have HO208 := n1_; have BK205 := n2_; have HB := n3_; clear n0_ n1_ n2_ n3_; clear hb ho26; have p209 : 0 ≤ (x10_2 : Int) := of_decide_eq_true (by first | (with_reducible assumption) | assumption); have q209 : x10_2 < (l0.length : Int) := of_decide_eq_true (by first | (with_reducible assumption) | assumption); obtain ⟨ad209, e209, hx209_0⟩ := Kd.at_int HR0.out x10_2 p209 q209; cases e209; replace hx209_0 := (HB.out.cell (World.block_lt_of_cell? w _ hx209_0)).trans hx209_0; replace p209 := eq_true p209; replace q209 := eq_true q209; obtain ⟨Ao27, co27, eo27⟩ := Kd.R_slice HO208.out; subst eo27; have p210 : 0 ≤ ((ji17) : Int) := of_decide_eq_true (by first | (with_reducible assumption) | assumption); have q210 : (ji17) < (y206.length : Int) := of_decide_eq_true (by first | (with_reducible assumption) | assumption); obtain ⟨ad210, e210, hx210_0⟩ := Kd.at_string (Kd.R_reads' HO208.out).2.2 (ji17) p210 q210; cases e210; replace p210 := eq_true p210; replace q210 := eq_true q210) | ((with_reducible refine gate_dst (N := 36) rfl ?_); refine Kd.R_lit Kd.string _ 9 ?hg (N := 36) ?hd (xs := ([(⟨#[67, 111, 110, 110, 101, 99, 116, 105, 111, 110]⟩ : ByteArray), (⟨#[99, 111, 110, 110, 101, 99, 116, 105, 111, 110]⟩ : ByteArray), (⟨#[80, 114, 111, 120, 121, 45, 67, 111, 110, 110, 101, 99, 116, 105, 111, 110]⟩ : ByteArray)] : List ByteArray)) (inner := [.string (⟨#[67, 111, 110, 110, 101, 99, 116, 105, 111, 110]⟩ : ByteArray), .string (⟨#[99, 111, 110, 110, 101, 99, 116, 105, 111, 110]⟩ : ByteArray), .string (⟨#[80, 114, 111, 120, 121, 45, 67, 111, 110, 110, 101, 99, 116, 105, 111, 110]⟩ : ByteArray)]) (ok := fun _ => True) (okp := fun _ => True) ?hr ?hp (fun _ hk => hk) trivial (Below.refl _ _) (Nat.le_refl _) (by simp) ?_; (case hd => rfl); (case hg => rfl); (case hr => first | (go_simp; done) | (go_simp; rfl)); (case hp => exact (Reps.one (show Kd.M Kd.string _ _ _ (⟨#[67, 111, 110, 110, 101, 99, 116, 105, 111, 110]⟩ : ByteArray) [.string (⟨#[67, 111, 110, 110, 101, 99, 116, 105, 111, 110]⟩ : ByteArray)] from rfl) (Reps.one (show Kd.M Kd.string _ _ _ (⟨#[99, 111, 110, 110, 101, 99, 116, 105, 111, 110]⟩ : ByteArray) [.string (⟨#[99, 111, 110, 110, 101, 99, 116, 105, 111, 110]⟩ : ByteArray)] from rfl) (Reps.one (show Kd.M Kd.string _ _ _ (⟨#[80, 114, 111, 120, 121, 45, 67, 111, 110, 110, 101, 99, 116, 105, 111, 110]⟩ : ByteArray) [.string (⟨#[80, 114, 111, 120, 121, 45, 67, 111, 110, 110, 101, 99, 116, 105, 111, 110]⟩ : ByteArray)] from rfl) (Reps.none _ _))))); intro v212 w28 ho29 hb hg_ hnew_; clear hg_ hnew_; (first | rw [← Ny211.out] at ho29 | (simp only [Int.reduceToNat] at ho29; rw [← Ny211.out] at ho29)); have n0_ := Aside0.mk (Kd.R_below (by (with_reducible repeat (first | apply Kd.R_alloc | apply Kd.R_drewN | apply Kd.R_drew)); exact HO_206003.out) hb); have n1_ := Aside0.mk (Kd.R_elder' (by (with_reducible repeat (first | apply Kd.R_alloc | apply Kd.R_drewN | apply Kd.R_drew)); exact HO208.out) (Kd.R_base ho29) hb); have n2_ := Aside0.mk (Kd.R_lower (Kd.R_new' ho29 (Kd.R_lt (by (with_reducible repeat (first | apply Kd.R_alloc | apply Kd.R_drewN | apply Kd.R_drew)); exact HO208.out))) (below_size (by repeat (first | (with_reducible first | exact HB.out | apply below_alloc | apply pw_below_drewN | apply below_drew1 | refine below_set ?_ GE205.out) | exact HB.out)))); have n3_ := Aside0.mk (blk_below (g := gb205) (o := .cells #[.string (⟨#[71, 69, 84]⟩ : ByteArray), .string (⟨#[47]⟩ : ByteArray), .int .i64 x206002_7, u206003, .bool false, .slice none 0 0, .slice none 0 0] 25 (0, 0)) (by (with_reducible repeat (first | refine blk_drewN ?_ _ | refine blk_drew ?_ | refine blk_alloc ?_ _)); exact BK205.out) hb); have n4_ := Aside0.mk (below_step (by repeat (first | (with_reducible first | exact HB.out | apply below_alloc | apply pw_below_drewN | apply below_drew1 | refine below_set ?_ GE205.out) | exact HB.out)) hb); clear HO_206003; clear HO208; clear BK205; clear HB; have HO_206003 := n0_; have HO208 := n1_; have HO213 := n2_; have BK205 := n3_; have HB := n4_; clear n0_ n1_ n2_ n3_ n4_; clear hb ho29; have p214 : 0 ≤ (x10_2 : Int) := of_decide_eq_true (by first | (with_reducible assumption) | assumption); have q214 : x10_2 < (l0.length : Int) := of_decide_eq_true (by first | (with_reducible assumption) | assumption); obtain ⟨ad214, e214, hx214_0⟩ := Kd.at_int HR0.out x10_2 p214 q214; obtain rfl : ad209 = ad214 := (by injection e214); replace hx214_0 := (HB.out.cell (World.block_lt_of_cell? w _ hx214_0)).trans hx214_0; replace p214 := eq_true p214; replace q214 := eq_true q214; obtain ⟨Ao30, co30, eo30⟩ := Kd.R_slice HO213.out; subst eo30; have p215 : 0 ≤ ((ji20) : Int) := of_decide_eq_true (by first | (with_reducible assumption) | assumption); have q215 : (ji20) < (y211.length : Int) := of_decide_eq_true (by first | (with_reducible assumption) | assumption); obtain ⟨ad215, e215, hx215_0⟩ := Kd.at_string (Kd.R_reads' HO213.out).2.2 (ji20) p215 q215; cases e215; replace p215 := eq_true p215; replace q215 := eq_true q215) | ((with_reducible refine gate_dst (N := 12) rfl ?_); refine box_event ?hg (N := 12) ?hd (cs := #[.string (⟨#[]⟩ : ByteArray), .string (⟨#[]⟩ : ByteArray)]) (t := 31) ?hr ?_; (case hd => rfl); (case hg => rfl); (case hr => first | (go_simp; done) | (go_simp; rfl)); intro gb216 hg w31 hbox hb; have n0_ := Aside0.mk (Kd.R_below (Kd.R_elderB (by (with_reducible repeat (first | apply Kd.R_alloc | apply Kd.R_drewN | apply Kd.R_drew)); exact HO_206003.out) gb216 (Nat.le_of_eq hg.symm)) hb); have n1_ := Aside0.mk (Kd.R_below (by (with_reducible repeat (first | apply Kd.R_alloc | apply Kd.R_drewN | apply Kd.R_drew)); exact HO208.out) hb); have n2_ := Aside0.mk (Kd.R_below (by (with_reducible repeat (first | apply Kd.R_alloc | apply Kd.R_drewN | apply Kd.R_drew)); exact HO213.out) hb); have n3_ := Aside0.mk (blk_below (g := gb205) (o := .cells #[.string (⟨#[71, 69, 84]⟩ : ByteArray), .string (⟨#[47]⟩ : ByteArray), .int .i64 x206002_7, u206003, .bool false, .slice none 0 0, .slice none 0 0] 25 (0, 0)) (by (with_reducible repeat (first | refine blk_drewN ?_ _ | refine blk_drew ?_ | refine blk_alloc ?_ _)); exact BK205.out) hb); have n4_ := Aside0.mk (below_step (by repeat (first | (with_reducible first | exact HB.out | apply below_alloc | apply pw_below_drewN | apply below_drew1 | refine below_set ?_ GE205.out) | exact HB.out)) hb); have n5_ := Aside0.mk (hbox); have n6_ := Aside0.mk ((by rw [hg]; exact (below_size (by repeat (first | (with_reducible first | exact HB.out | apply below_alloc | apply pw_below_drewN | apply below_drew1 | refine below_set ?_ GE205.out) | exact HB.out))) : w.heap.size ≤ gb216)); have n7_ := Aside0.mk ((by rw [hg]; exact (below_size (by repeat (first | (with_reducible first | exact HB.out | apply below_alloc | apply pw_below_drewN | apply below_drew1 | refine below_set ?_ GE205.out) | exact HB.out))) : w.heap.size ≤ gb216)); have n8_ := Aside0.mk ((by rw [hg]; exact Nat.ne_of_lt (blk_lt (g := gb205) (o := .cells #[.string (⟨#[71, 69, 84]⟩ : ByteArray), .string (⟨#[47]⟩ : ByteArray), .int .i64 x206002_7, u206003, .bool false, .slice none 0 0, .slice none 0 0] 25 (0, 0)) (by (with_reducible repeat (first | refine blk_drewN ?_ _ | refine blk_drew ?_ | refine blk_alloc ?_ _)); exact BK205.out)) : gb205 ≠ gb216)); have n9_ := Aside0.mk ((by rw [hg]; exact Nat.ne_of_gt (blk_lt (g := gb205) (o := .cells #[.string (⟨#[71, 69, 84]⟩ : ByteArray), .string (⟨#[47]⟩ : ByteArray), .int .i64 x206002_7, u206003, .bool false, .slice none 0 0, .slice none 0 0] 25 (0, 0)) (by (with_reducible repeat (first | refine blk_drewN ?_ _ | refine blk_drew ?_ | refine blk_alloc ?_ _)); exact BK205.out)) : gb216 ≠ gb205)); clear HO_206003; clear HO208; clear HO213; clear BK205; clear HB; have HO_206003 := n0_; have HO208 := n1_; have HO213 := n2_; have BK205 := n3_; have HB := n4_; have BK216 := n5_; have GW216 := n6_; have GE216 := n7_; have NB205_216 := n8_; have NB216_205 := n9_; clear n0_ n1_ n2_ n3_ n4_ n5_ n6_ n7_ n8_ n9_; clear hb hbox hg; have hnb32 := NB216_205.out; have hnc32 := NB205_216.out; have hcz33_0 : w31.cell? ⟨gb216, 0, none⟩ = some (.string (⟨#[]⟩ : ByteArray)) := (blk_cell BK216.out 0).trans rfl; have hcz33_1 : w31.cell? ⟨gb216, 1, none⟩ = some (.string (⟨#[]⟩ : ByteArray)) := (blk_cell BK216.out 1).trans rfl; have hfz33_0 := blk_frozen BK216.out 0; have hfz33_1 := blk_frozen BK216.out 1; have hcz34_0 : w31.cell? ⟨gb205, 0, none⟩ = some (.string (⟨#[71, 69, 84]⟩ : ByteArray)) := (blk_cell BK205.out 0).trans rfl; have hcz34_1 : w31.cell? ⟨gb205, 1, none⟩ = some (.string (⟨#[47]⟩ : ByteArray)) := (blk_cell BK205.out 1).trans rfl; have hcz34_2 : w31.cell? ⟨gb205, 2, none⟩ = some (.int .i64 x206002_7) := (blk_cell BK205.out 2).trans rfl; have hcz34_3 : w31.cell? ⟨gb205, 3, none⟩ = some (u206003) := (blk_cell BK205.out 3).trans rfl; have hcz34_4 : w31.cell? ⟨gb205, 4, none⟩ = some (.bool false) := (blk_cell BK205.out 4).trans rfl; have hcz34_5 : w31.cell? ⟨gb205, 5, none⟩ = some (.slice none 0 0) := (blk_cell BK205.out 5).trans rfl; have hcz34_6 : w31.cell? ⟨gb205, 6, none⟩ = some (.slice none 0 0) := (blk_cell BK205.out 6).trans rfl; have hfz34_0 := blk_frozen BK205.out 0; have hfz34_1 := blk_frozen BK205.out 1; have hfz34_2 := blk_frozen BK205.out 2; have hfz34_3 := blk_frozen BK205.out 3; have hfz34_4 := blk_frozen BK205.out 4; have hfz34_5 := blk_frozen BK205.out 5; have hfz34_6 := blk_frozen BK205.out 6) | ((with_reducible refine gate_builtin (b := .append) (xs := #[.tmp 50, .tmp 52]) rfl ?_); at_builtin; refine Kd.R_append k31 (w0 := w) w.heap.size rfl (.tmp 50) (.tmp 52) 22 31 (.agg #[(.string ⟨#[]⟩), (.string ⟨#[]⟩)]) 32 rfl Tryd.underlying22 info31 rfl (by decide) (by omega) u206003 x206003_2 (⟨rdOf ByteArray.empty y211 (ji20), rdOf ByteArray.empty y206 (ji17)⟩ : S31) [.string (rdOf ByteArray.empty y211 (ji20)), .string (rdOf ByteArray.empty y206 (ji17))] (fun k_ => k_ ≠ gb216) (fun _ => False) rfl (by first | (go_simp; done) | (go_simp; rfl)) ?aP (fun _ hk => hk.elim) ?aF ?aO ?aB ?aS ?aL ?_; (case aP => exact k31_mkM _ _ _ (⟨rdOf ByteArray.empty y211 (ji20), rdOf ByteArray.empty y206 (ji17)⟩ : S31)); (case aB => exact (by repeat (first | (with_reducible first | exact HB.out | apply below_alloc | apply pw_below_drewN | apply below_drew1 | refine below_set ?_ GE205.out | refine below_set ?_ GE216.out) | exact HB.out))); (case aF => exact (fun k_ hk => Kd.freshB (g := gb216) (o := .cells #[.string (rdOf ByteArray.empty y211 (ji20)), .string (rdOf ByteArray.empty y206 (ji17))] 31 (0, 0)) (by (with_reducible repeat (first | refine blk_drewN ?_ _ | refine blk_drew ?_ | refine blk_alloc ?_ _)); refine blk_put (cs := #[.string (rdOf ByteArray.empty y211 (ji20)), .string (⟨#[]⟩ : ByteArray)]) ?_ 1 _ rfl; (with_reducible repeat (first | refine blk_drewN ?_ _ | refine blk_drew ?_ | refine blk_alloc ?_ _)); refine blk_put (cs := #[.string (⟨#[]⟩ : ByteArray), .string (⟨#[]⟩ : ByteArray)]) ?_ 0 _ rfl; (with_reducible repeat (first | refine blk_drewN ?_ _ | refine blk_drew ?_ | refine blk_alloc ?_ _)); exact BK216.out) k_ hk)); (case aO => exact (by (with_reducible repeat (first | apply Kd.R_alloc | apply Kd.R_drewN | apply Kd.R_drew)); exact Kd.R_mono (Kd.R_far (p := ⟨gb216, 1, none⟩) (Kd.R_far (p := ⟨gb216, 0, none⟩) (Kd.R_mono HO_206003.out (fun k_ hk => (⟨hk, hk.2⟩ : _ ∧ k_ ≠ gb216))) (fun _ hk => (by first | exact hk.2 | exact True.intro)) (.string (rdOf ByteArray.empty y211 (ji20)))) (fun _ hk => (by first | exact hk.2 | exact True.intro)) (.string (rdOf ByteArray.empty y206 (ji17)))) (fun _ hk => hk.1.2))); (case aS => exact (below_size (by repeat (first | (with_reducible first | exact HB.out | apply below_alloc | apply pw_below_drewN | apply below_drew1 | refine below_set ?_ GE205.out | refine below_set ?_ GE216.out) | exact HB.out)))); (case aL => have := LMc23.out; omega); intro v218 w35 ho hb hg hat; rw [← Ny217.out] at ho; have n0_ := Aside0.mk (blk_grown (g := gb205) (o := .cells #[.string (⟨#[71, 69, 84]⟩ : ByteArray), .string (⟨#[47]⟩ : ByteArray), .int .i64 x206002_7, u206003, .bool false, .slice none 0 0, .slice none 0 0] 25 (0, 0)) (by (with_reducible repeat (first | refine blk_drewN ?_ _ | refine blk_drew ?_ | refine blk_alloc ?_ _)); refine blk_far ?_ NB205_216.out _; (with_reducible repeat (first | refine blk_drewN ?_ _ | refine blk_drew ?_ | refine blk_alloc ?_ _)); refine blk_far ?_ NB205_216.out _; (with_reducible repeat (first | refine blk_drewN ?_ _ | refine blk_drew ?_ | refine blk_alloc ?_ _)); exact BK205.out) hg (Kd.R_ne HO_206003.out BK205.out (by decide))); have n1_ := Aside0.mk (Kd.R_over' (by (with_reducible repeat (first | apply Kd.R_alloc | apply Kd.R_drewN | apply Kd.R_drew)); exact (Kd.R_mono (Kd.R_far (p := ⟨gb216, 1, none⟩) (Kd.R_far (p := ⟨gb216, 0, none⟩) (Kd.R_types HO208.out BK216.out (by decide)) (fun _ hk => (by first | exact hk.2 | exact True.intro)) (.string (rdOf ByteArray.empty y211 (ji20)))) (fun _ hk => (by first | exact hk.2 | exact True.intro)) (.string (rdOf ByteArray.empty y206 (ji17)))) (fun _ h_ => h_.1))) (Kd.R_typed (by (with_reducible repeat (first | apply Kd.R_alloc | apply Kd.R_drewN | apply Kd.R_drew)); exact (Kd.R_mono (Kd.R_far (p := ⟨gb216, 1, none⟩) (Kd.R_far (p := ⟨gb216, 0, none⟩) (Kd.R_mono HO_206003.out (fun k_ hk => (⟨hk, hk.2⟩ : _ ∧ k_ ≠ gb216))) (fun _ hk => (by first | exact hk.2 | exact True.intro)) (.string (rdOf ByteArray.empty y211 (ji20)))) (fun _ hk => (by first | exact hk.2 | exact True.intro)) (.string (rdOf ByteArray.empty y206 (ji17)))) (fun _ h_ => h_.1)))) (by decide) hg); have n2_ := Aside0.mk (Kd.R_over' (by (with_reducible repeat (first | apply Kd.R_alloc | apply Kd.R_drewN | apply Kd.R_drew)); exact (Kd.R_mono (Kd.R_far (p := ⟨gb216, 1, none⟩) (Kd.R_far (p := ⟨gb216, 0, none⟩) (Kd.R_types HO213.out BK216.out (by decide)) (fun _ hk => (by first | exact hk.2 | exact True.intro)) (.string (rdOf ByteArray.empty y211 (ji20)))) (fun _ hk => (by first | exact hk.2 | exact True.intro)) (.string (rdOf ByteArray.empty y206 (ji17)))) (fun _ h_ => h_.1))) (Kd.R_typed (by (with_reducible repeat (first | apply Kd.R_alloc | apply Kd.R_drewN | apply Kd.R_drew)); exact (Kd.R_mono (Kd.R_far (p := ⟨gb216, 1, none⟩) (Kd.R_far (p := ⟨gb216, 0, none⟩) (Kd.R_mono HO_206003.out (fun k_ hk => (⟨hk, hk.2⟩ : _ ∧ k_ ≠ gb216))) (fun _ hk => (by first | exact hk.2 | exact True.intro)) (.string (rdOf ByteArray.empty y211 (ji20)))) (fun _ hk => (by first | exact hk.2 | exact True.intro)) (.string (rdOf ByteArray.empty y206 (ji17)))) (fun _ h_ => h_.1)))) (by decide) hg); have n3_ := Aside0.mk (blk_grown (g := gb216) (o := .cells #[.string (rdOf ByteArray.empty y211 (ji20)), .string (rdOf ByteArray.empty y206 (ji17))] 31 (0, 0)) (by (with_reducible repeat (first | refine blk_drewN ?_ _ | refine blk_drew ?_ | refine blk_alloc ?_ _)); refine blk_put (cs := #[.string (rdOf ByteArray.empty y211 (ji20)), .string (⟨#[]⟩ : ByteArray)]) ?_ 1 _ rfl; (with_reducible repeat (first | refine blk_drewN ?_ _ | refine blk_drew ?_ | refine blk_alloc ?_ _)); refine blk_put (cs := #[.string (⟨#[]⟩ : ByteArray), .string (⟨#[]⟩ : ByteArray)]) ?_ 0 _ rfl; (with_reducible repeat (first | refine blk_drewN ?_ _ | refine blk_drew ?_ | refine blk_alloc ?_ _)); exact BK216.out) hg (Kd.R_away HO_206003.out (fun _ hk => (by first | exact hk.2 | exact True.intro)))); have n4_ := Aside0.mk (hb); have n5_ := Aside0.mk (ho); clear BK205; clear HO208; clear HO213; clear BK216; clear HB; clear HO_206003; have BK205 := n0_; have HO208 := n1_; have HO213 := n2_; have BK216 := n3_; have HB := n4_; have HO219 := n5_; clear n0_ n1_ n2_ n3_ n4_ n5_; clear ho hb hg hat; obtain ⟨Ao36, co36, eo36⟩ := Kd.R_slice HO219.out; subst eo36; have hcz37_0 : w35.cell? ⟨gb205, 0, none⟩ = some (.string (⟨#[71, 69, 84]⟩ : ByteArray)) := (blk_cell BK205.out 0).trans rfl; have hcz37_1 : w35.cell? ⟨gb205, 1, none⟩ = some (.string (⟨#[47]⟩ : ByteArray)) := (blk_cell BK205.out 1).trans rfl; have hcz37_2 : w35.cell? ⟨gb205, 2, none⟩ = some (.int .i64 x206002_7) := (blk_cell BK205.out 2).trans rfl; have hcz37_3 : w35.cell? ⟨gb205, 3, none⟩ = some (u206003) := (blk_cell BK205.out 3).trans rfl; have hcz37_4 : w35.cell? ⟨gb205, 4, none⟩ = some (.bool false) := (blk_cell BK205.out 4).trans rfl; have hcz37_5 : w35.cell? ⟨gb205, 5, none⟩ = some (.slice none 0 0) := (blk_cell BK205.out 5).trans rfl; have hcz37_6 : w35.cell? ⟨gb205, 6, none⟩ = some (.slice none 0 0) := (blk_cell BK205.out 6).trans rfl; have hfz37_0 := blk_frozen BK205.out 0; have hfz37_1 := blk_frozen BK205.out 1; have hfz37_2 := blk_frozen BK205.out 2; have hfz37_3 := blk_frozen BK205.out 3; have hfz37_4 := blk_frozen BK205.out 4; have hfz37_5 := blk_frozen BK205.out 5; have hfz37_6 := blk_frozen BK205.out 6; have hcz38_0 : w35.cell? ⟨gb216, 0, none⟩ = some (.string (rdOf ByteArray.empty y211 (ji20))) := (blk_cell BK216.out 0).trans rfl; have hcz38_1 : w35.cell? ⟨gb216, 1, none⟩ = some (.string (rdOf ByteArray.empty y206 (ji17))) := (blk_cell BK216.out 1).trans rfl; have hfz38_0 := blk_frozen BK216.out 0; have hfz38_1 := blk_frozen BK216.out 1))
                                (try any_goals (exfalso; have h_ := ‹some undef = some (Value.bool _)›; revert h_; simp [undef]; done))
                                go_meet
                                case rel => exact ⟨_, (x8_2), (x9_2), (y217), (.slice Ao36 y217.length co36), (by first | rfl | (simp; done) | (simp [*]; done)), (by first | rfl | (simp; done) | (simp [*]; done)), H', ⟨by have := HJ7.out; have := HK2.out; first | omega | exact Nat.le_refl _⟩, ⟨by (with_reducible repeat (first | apply Kd.R_alloc | apply Kd.R_drewN | apply Kd.R_drew)); exact Kd.R_mono (Kd.R_far (p := ⟨gb205, 3, none⟩) (Kd.R_types HO219.out BK205.out (by decide)) (fun _ hk => (by first | exact hk.2 | exact True.intro)) (.slice Ao36 y217.length co36)) (fun _ hk => trivial)⟩, ⟨by (with_reducible repeat (first | refine blk_drewN ?_ _ | refine blk_drew ?_ | refine blk_alloc ?_ _)); refine blk_put (cs := #[.string (⟨#[71, 69, 84]⟩ : ByteArray), .string (⟨#[47]⟩ : ByteArray), .int .i64 x206002_7, u206003, .bool false, .slice none 0 0, .slice none 0 0]) ?_ 3 _ rfl; (with_reducible repeat (first | refine blk_drewN ?_ _ | refine blk_drew ?_ | refine blk_alloc ?_ _)); exact BK205.out⟩, ⟨by repeat (first | (with_reducible first | exact HB.out | apply below_alloc | apply pw_below_drewN | apply below_drew1 | refine below_set ?_ GE205.out | refine below_set ?_ GE216.out) | exact HB.out)⟩⟩
                              · rw [if_neg c24] at H
                                have c24b0 : ((rdOf ByteArray.empty y211 (ji20)).toList == ([80, 114, 111, 120, 121, 45, 67, 111, 110, 110, 101, 99, 116, 105, 111, 110] : List UInt8)) = false := beq_eq_false_iff_ne.mpr c24
                                have c24b1 : ((rdOf ByteArray.empty y211 (ji20)).toList != ([80, 114, 111, 120, 121, 45, 67, 111, 110, 110, 101, 99, 116, 105, 111, 110] : List UInt8)) = true := bne_iff_ne.mpr c24
                                have HC39 := Aside0.mk H
                                clear H
                                go_upto_region 17 with (first | ((with_reducible refine gate_dst (N := 28) rfl ?_); refine Kd.R_lit Kd.string _ 9 ?hg (N := 28) ?hd (xs := ([(⟨#[99, 108, 111, 115, 101]⟩ : ByteArray), (⟨#[67, 76, 79, 83, 69]⟩ : ByteArray), (⟨#[107, 101, 101, 112, 45, 97, 108, 105, 118, 101]⟩ : ByteArray), (⟨#[75, 101, 101, 112, 45, 65, 108, 105, 118, 101]⟩ : ByteArray), (⟨#[120]⟩ : ByteArray), (⟨#[120, 99, 108, 111, 115, 101]⟩ : ByteArray), (⟨#[97, 44, 32, 99, 108, 111, 115, 101]⟩ : ByteArray), (⟨#[99, 108, 111, 115, 101, 44, 98]⟩ : ByteArray), (⟨#[107, 101, 101, 112, 45, 97, 108, 105, 118, 101, 32, 44, 120]⟩ : ByteArray), (⟨#[99, 108, 111, 115, 101, 32, 120]⟩ : ByteArray)] : List ByteArray)) (inner := [.string (⟨#[99, 108, 111, 115, 101]⟩ : ByteArray), .string (⟨#[67, 76, 79, 83, 69]⟩ : ByteArray), .string (⟨#[107, 101, 101, 112, 45, 97, 108, 105, 118, 101]⟩ : ByteArray), .string (⟨#[75, 101, 101, 112, 45, 65, 108, 105, 118, 101]⟩ : ByteArray), .string (⟨#[120]⟩ : ByteArray), .string (⟨#[120, 99, 108, 111, 115, 101]⟩ : ByteArray), .string (⟨#[97, 44, 32, 99, 108, 111, 115, 101]⟩ : ByteArray), .string (⟨#[99, 108, 111, 115, 101, 44, 98]⟩ : ByteArray), .string (⟨#[107, 101, 101, 112, 45, 97, 108, 105, 118, 101, 32, 44, 120]⟩ : ByteArray), .string (⟨#[99, 108, 111, 115, 101, 32, 120]⟩ : ByteArray)]) (ok := fun _ => True) (okp := fun _ => True) ?hr ?hp (fun _ hk => hk) trivial (Below.refl _ _) (Nat.le_refl _) (by simp) ?_; (case hd => rfl); (case hg => rfl); (case hr => first | (go_simp; done) | (go_simp; rfl)); (case hp => exact (Reps.one (show Kd.M Kd.string _ _ _ (⟨#[99, 108, 111, 115, 101]⟩ : ByteArray) [.string (⟨#[99, 108, 111, 115, 101]⟩ : ByteArray)] from rfl) (Reps.one (show Kd.M Kd.string _ _ _ (⟨#[67, 76, 79, 83, 69]⟩ : ByteArray) [.string (⟨#[67, 76, 79, 83, 69]⟩ : ByteArray)] from rfl) (Reps.one (show Kd.M Kd.string _ _ _ (⟨#[107, 101, 101, 112, 45, 97, 108, 105, 118, 101]⟩ : ByteArray) [.string (⟨#[107, 101, 101, 112, 45, 97, 108, 105, 118, 101]⟩ : ByteArray)] from rfl) (Reps.one (show Kd.M Kd.string _ _ _ (⟨#[75, 101, 101, 112, 45, 65, 108, 105, 118, 101]⟩ : ByteArray) [.string (⟨#[75, 101, 101, 112, 45, 65, 108, 105, 118, 101]⟩ : ByteArray)] from rfl) (Reps.one (show Kd.M Kd.string _ _ _ (⟨#[120]⟩ : ByteArray) [.string (⟨#[120]⟩ : ByteArray)] from rfl) (Reps.one (show Kd.M Kd.string _ _ _ (⟨#[120, 99, 108, 111, 115, 101]⟩ : ByteArray) [.string (⟨#[120, 99, 108, 111, 115, 101]⟩ : ByteArray)] from rfl) (Reps.one (show Kd.M Kd.string _ _ _ (⟨#[97, 44, 32, 99, 108, 111, 115, 101]⟩ : ByteArray) [.string (⟨#[97, 44, 32, 99, 108, 111, 115, 101]⟩ : ByteArray)] from rfl) (Reps.one (show Kd.M Kd.string _ _ _ (⟨#[99, 108, 111, 115, 101, 44, 98]⟩ : ByteArray) [.string (⟨#[99, 108, 111, 115, 101, 44, 98]⟩ : ByteArray)] from rfl) (Reps.one (show Kd.M Kd.string _ _ _ (⟨#[107, 101, 101, 112, 45, 97, 108, 105, 118, 101, 32, 44, 120]⟩ : ByteArray) [.string (⟨#[107, 101, 101, 112, 45, 97, 108, 105, 118, 101, 32, 44, 120]⟩ : ByteArray)] from rfl) (Reps.one (show Kd.M Kd.string _ _ _ (⟨#[99, 108, 111, 115, 101, 32, 120]⟩ : ByteArray) [.string (⟨#[99, 108, 111, 115, 101, 32, 120]⟩ : ByteArray)] from rfl) (Reps.none _ _)))))))))))); intro v207 w40 ho41 hb hg_ hnew_; clear hg_ hnew_; (first | rw [← Ny206.out] at ho41 | (simp only [Int.reduceToNat] at ho41; rw [← Ny206.out] at ho41)); have n0_ := Aside0.mk (Kd.R_below (by (with_reducible repeat (first | apply Kd.R_alloc | apply Kd.R_drewN | apply Kd.R_drew)); exact HO_206003.out) hb); have n1_ := Aside0.mk (Kd.R_lower ho41 (below_size (by repeat (first | (with_reducible first | exact HB.out | apply below_alloc | apply pw_below_drewN | apply below_drew1 | refine below_set ?_ GE205.out) | exact HB.out)))); have n2_ := Aside0.mk (blk_below (g := gb205) (o := .cells #[.string (⟨#[71, 69, 84]⟩ : ByteArray), .string (⟨#[47]⟩ : ByteArray), .int .i64 x206002_7, u206003, .bool false, .slice none 0 0, .slice none 0 0] 25 (0, 0)) (by (with_reducible repeat (first | refine blk_drewN ?_ _ | refine blk_drew ?_ | refine blk_alloc ?_ _)); exact BK205.out) hb); have n3_ := Aside0.mk (below_step (by repeat (first | (with_reducible first | exact HB.out | apply below_alloc | apply pw_below_drewN | apply below_drew1 | refine below_set ?_ GE205.out) | exact HB.out)) hb); clear HO_206003; clear BK205; clear HB; have HO_206003 := n0_; have HO208 := n1_; have BK205 := n2_; have HB := n3_; clear n0_ n1_ n2_ n3_; clear hb ho41; have p209 : 0 ≤ (x10_2 : Int) := of_decide_eq_true (by first | (with_reducible assumption) | assumption); have q209 : x10_2 < (l0.length : Int) := of_decide_eq_true (by first | (with_reducible assumption) | assumption); obtain ⟨ad209, e209, hx209_0⟩ := Kd.at_int HR0.out x10_2 p209 q209; cases e209; replace hx209_0 := (HB.out.cell (World.block_lt_of_cell? w _ hx209_0)).trans hx209_0; replace p209 := eq_true p209; replace q209 := eq_true q209; obtain ⟨Ao42, co42, eo42⟩ := Kd.R_slice HO208.out; subst eo42; have p210 : 0 ≤ ((ji17) : Int) := of_decide_eq_true (by first | (with_reducible assumption) | assumption); have q210 : (ji17) < (y206.length : Int) := of_decide_eq_true (by first | (with_reducible assumption) | assumption); obtain ⟨ad210, e210, hx210_0⟩ := Kd.at_string (Kd.R_reads' HO208.out).2.2 (ji17) p210 q210; cases e210; replace p210 := eq_true p210; replace q210 := eq_true q210) | ((with_reducible refine gate_dst (N := 36) rfl ?_); refine Kd.R_lit Kd.string _ 9 ?hg (N := 36) ?hd (xs := ([(⟨#[67, 111, 110, 110, 101, 99, 116, 105, 111, 110]⟩ : ByteArray), (⟨#[99, 111, 110, 110, 101, 99, 116, 105, 111, 110]⟩ : ByteArray), (⟨#[80, 114, 111, 120, 121, 45, 67, 111, 110, 110, 101, 99, 116, 105, 111, 110]⟩ : ByteArray)] : List ByteArray)) (inner := [.string (⟨#[67, 111, 110, 110, 101, 99, 116, 105, 111, 110]⟩ : ByteArray), .string (⟨#[99, 111, 110, 110, 101, 99, 116, 105, 111, 110]⟩ : ByteArray), .string (⟨#[80, 114, 111, 120, 121, 45, 67, 111, 110, 110, 101, 99, 116, 105, 111, 110]⟩ : ByteArray)]) (ok := fun _ => True) (okp := fun _ => True) ?hr ?hp (fun _ hk => hk) trivial (Below.refl _ _) (Nat.le_refl _) (by simp) ?_; (case hd => rfl); (case hg => rfl); (case hr => first | (go_simp; done) | (go_simp; rfl)); (case hp => exact (Reps.one (show Kd.M Kd.string _ _ _ (⟨#[67, 111, 110, 110, 101, 99, 116, 105, 111, 110]⟩ : ByteArray) [.string (⟨#[67, 111, 110, 110, 101, 99, 116, 105, 111, 110]⟩ : ByteArray)] from rfl) (Reps.one (show Kd.M Kd.string _ _ _ (⟨#[99, 111, 110, 110, 101, 99, 116, 105, 111, 110]⟩ : ByteArray) [.string (⟨#[99, 111, 110, 110, 101, 99, 116, 105, 111, 110]⟩ : ByteArray)] from rfl) (Reps.one (show Kd.M Kd.string _ _ _ (⟨#[80, 114, 111, 120, 121, 45, 67, 111, 110, 110, 101, 99, 116, 105, 111, 110]⟩ : ByteArray) [.string (⟨#[80, 114, 111, 120, 121, 45, 67, 111, 110, 110, 101, 99, 116, 105, 111, 110]⟩ : ByteArray)] from rfl) (Reps.none _ _))))); intro v212 w43 ho44 hb hg_ hnew_; clear hg_ hnew_; (first | rw [← Ny211.out] at ho44 | (simp only [Int.reduceToNat] at ho44; rw [← Ny211.out] at ho44)); have n0_ := Aside0.mk (Kd.R_below (by (with_reducible repeat (first | apply Kd.R_alloc | apply Kd.R_drewN | apply Kd.R_drew)); exact HO_206003.out) hb); have n1_ := Aside0.mk (Kd.R_elder' (by (with_reducible repeat (first | apply Kd.R_alloc | apply Kd.R_drewN | apply Kd.R_drew)); exact HO208.out) (Kd.R_base ho44) hb); have n2_ := Aside0.mk (Kd.R_lower (Kd.R_new' ho44 (Kd.R_lt (by (with_reducible repeat (first | apply Kd.R_alloc | apply Kd.R_drewN | apply Kd.R_drew)); exact HO208.out))) (below_size (by repeat (first | (with_reducible first | exact HB.out | apply below_alloc | apply pw_below_drewN | apply below_drew1 | refine below_set ?_ GE205.out) | exact HB.out)))); have n3_ := Aside0.mk (blk_below (g := gb205) (o := .cells #[.string (⟨#[71, 69, 84]⟩ : ByteArray), .string (⟨#[47]⟩ : ByteArray), .int .i64 x206002_7, u206003, .bool false, .slice none 0 0, .slice none 0 0] 25 (0, 0)) (by (with_reducible repeat (first | refine blk_drewN ?_ _ | refine blk_drew ?_ | refine blk_alloc ?_ _)); exact BK205.out) hb); have n4_ := Aside0.mk (below_step (by repeat (first | (with_reducible first | exact HB.out | apply below_alloc | apply pw_below_drewN | apply below_drew1 | refine below_set ?_ GE205.out) | exact HB.out)) hb); clear HO_206003; clear HO208; clear BK205; clear HB; have HO_206003 := n0_; have HO208 := n1_; have HO213 := n2_; have BK205 := n3_; have HB := n4_; clear n0_ n1_ n2_ n3_ n4_; clear hb ho44; have p214 : 0 ≤ (x10_2 : Int) := of_decide_eq_true (by first | (with_reducible assumption) | assumption); have q214 : x10_2 < (l0.length : Int) := of_decide_eq_true (by first | (with_reducible assumption) | assumption); obtain ⟨ad214, e214, hx214_0⟩ := Kd.at_int HR0.out x10_2 p214 q214; obtain rfl : ad209 = ad214 := (by injection e214); replace hx214_0 := (HB.out.cell (World.block_lt_of_cell? w _ hx214_0)).trans hx214_0; replace p214 := eq_true p214; replace q214 := eq_true q214; obtain ⟨Ao45, co45, eo45⟩ := Kd.R_slice HO213.out; subst eo45; have p215 : 0 ≤ ((ji20) : Int) := of_decide_eq_true (by first | (with_reducible assumption) | assumption); have q215 : (ji20) < (y211.length : Int) := of_decide_eq_true (by first | (with_reducible assumption) | assumption); obtain ⟨ad215, e215, hx215_0⟩ := Kd.at_string (Kd.R_reads' HO213.out).2.2 (ji20) p215 q215; cases e215; replace p215 := eq_true p215; replace q215 := eq_true q215) | ((with_reducible refine gate_dst (N := 12) rfl ?_); refine box_event ?hg (N := 12) ?hd (cs := #[.string (⟨#[]⟩ : ByteArray), .string (⟨#[]⟩ : ByteArray)]) (t := 31) ?hr ?_; (case hd => rfl); (case hg => rfl); (case hr => first | (go_simp; done) | (go_simp; rfl)); intro gb216 hg w46 hbox hb; have n0_ := Aside0.mk (Kd.R_below (Kd.R_elderB (by (with_reducible repeat (first | apply Kd.R_alloc | apply Kd.R_drewN | apply Kd.R_drew)); exact HO_206003.out) gb216 (Nat.le_of_eq hg.symm)) hb); have n1_ := Aside0.mk (Kd.R_below (by (with_reducible repeat (first | apply Kd.R_alloc | apply Kd.R_drewN | apply Kd.R_drew)); exact HO208.out) hb); have n2_ := Aside0.mk (Kd.R_below (by (with_reducible repeat (first | apply Kd.R_alloc | apply Kd.R_drewN | apply Kd.R_drew)); exact HO213.out) hb); have n3_ := Aside0.mk (blk_below (g := gb205) (o := .cells #[.string (⟨#[71, 69, 84]⟩ : ByteArray), .string (⟨#[47]⟩ : ByteArray), .int .i64 x206002_7, u206003, .bool false, .slice none 0 0, .slice none 0 0] 25 (0, 0)) (by (with_reducible repeat (first | refine blk_drewN ?_ _ | refine blk_drew ?_ | refine blk_alloc ?_ _)); exact BK205.out) hb); have n4_ := Aside0.mk (below_step (by repeat (first | (with_reducible first | exact HB.out | apply below_alloc | apply pw_below_drewN | apply below_drew1 | refine below_set ?_ GE205.out) | exact HB.out)) hb); have n5_ := Aside0.mk (hbox); have n6_ := Aside0.mk ((by rw [hg]; exact (below_size (by repeat (first | (with_reducible first | exact HB.out | apply below_alloc | apply pw_below_drewN | apply below_drew1 | refine below_set ?_ GE205.out) | exact HB.out))) : w.heap.size ≤ gb216)); have n7_ := Aside0.mk ((by rw [hg]; exact (below_size (by repeat (first | (with_reducible first | exact HB.out | apply below_alloc | apply pw_below_drewN | apply below_drew1 | refine below_set ?_ GE205.out) | exact HB.out))) : w.heap.size ≤ gb216)); have n8_ := Aside0.mk ((by rw [hg]; exact Nat.ne_of_lt (blk_lt (g := gb205) (o := .cells #[.string (⟨#[71, 69, 84]⟩ : ByteArray), .string (⟨#[47]⟩ : ByteArray), .int .i64 x206002_7, u206003, .bool false, .slice none 0 0, .slice none 0 0] 25 (0, 0)) (by (with_reducible repeat (first | refine blk_drewN ?_ _ | refine blk_drew ?_ | refine blk_alloc ?_ _)); exact BK205.out)) : gb205 ≠ gb216)); have n9_ := Aside0.mk ((by rw [hg]; exact Nat.ne_of_gt (blk_lt (g := gb205) (o := .cells #[.string (⟨#[71, 69, 84]⟩ : ByteArray), .string (⟨#[47]⟩ : ByteArray), .int .i64 x206002_7, u206003, .bool false, .slice none 0 0, .slice none 0 0] 25 (0, 0)) (by (with_reducible repeat (first | refine blk_drewN ?_ _ | refine blk_drew ?_ | refine blk_alloc ?_ _)); exact BK205.out)) : gb216 ≠ gb205)); clear HO_206003; clear HO208; clear HO213; clear BK205; clear HB; have HO_206003 := n0_; have HO208 := n1_; have HO213 := n2_; have BK205 := n3_; have HB := n4_; have BK216 := n5_; have GW216 := n6_; have GE216 := n7_; have NB205_216 := n8_; have NB216_205 := n9_; clear n0_ n1_ n2_ n3_ n4_ n5_ n6_ n7_ n8_ n9_; clear hb hbox hg; have hnb47 := NB216_205.out; have hnc47 := NB205_216.out; have hcz48_0 : w46.cell? ⟨gb216, 0, none⟩ = some (.string (⟨#[]⟩ : ByteArray)) := (blk_cell BK216.out 0).trans rfl; have hcz48_1 : w46.cell? ⟨gb216, 1, none⟩ = some (.string (⟨#[]⟩ : ByteArray)) := (blk_cell BK216.out 1).trans rfl; have hfz48_0 := blk_frozen BK216.out 0; have hfz48_1 := blk_frozen BK216.out 1; have hcz49_0 : w46.cell? ⟨gb205, 0, none⟩ = some (.string (⟨#[71, 69, 84]⟩ : ByteArray)) := (blk_cell BK205.out 0).trans rfl; have hcz49_1 : w46.cell? ⟨gb205, 1, none⟩ = some (.string (⟨#[47]⟩ : ByteArray)) := (blk_cell BK205.out 1).trans rfl; have hcz49_2 : w46.cell? ⟨gb205, 2, none⟩ = some (.int .i64 x206002_7) := (blk_cell BK205.out 2).trans rfl; have hcz49_3 : w46.cell? ⟨gb205, 3, none⟩ = some (u206003) := (blk_cell BK205.out 3).trans rfl; have hcz49_4 : w46.cell? ⟨gb205, 4, none⟩ = some (.bool false) := (blk_cell BK205.out 4).trans rfl; have hcz49_5 : w46.cell? ⟨gb205, 5, none⟩ = some (.slice none 0 0) := (blk_cell BK205.out 5).trans rfl; have hcz49_6 : w46.cell? ⟨gb205, 6, none⟩ = some (.slice none 0 0) := (blk_cell BK205.out 6).trans rfl; have hfz49_0 := blk_frozen BK205.out 0; have hfz49_1 := blk_frozen BK205.out 1; have hfz49_2 := blk_frozen BK205.out 2; have hfz49_3 := blk_frozen BK205.out 3; have hfz49_4 := blk_frozen BK205.out 4; have hfz49_5 := blk_frozen BK205.out 5; have hfz49_6 := blk_frozen BK205.out 6) | ((with_reducible refine gate_builtin (b := .append) (xs := #[.tmp 50, .tmp 52]) rfl ?_); at_builtin; refine Kd.R_append k31 (w0 := w) w.heap.size rfl (.tmp 50) (.tmp 52) 22 31 (.agg #[(.string ⟨#[]⟩), (.string ⟨#[]⟩)]) 32 rfl Tryd.underlying22 info31 rfl (by decide) (by omega) u206003 x206003_2 (⟨rdOf ByteArray.empty y211 (ji20), rdOf ByteArray.empty y206 (ji17)⟩ : S31) [.string (rdOf ByteArray.empty y211 (ji20)), .string (rdOf ByteArray.empty y206 (ji17))] (fun k_ => k_ ≠ gb216) (fun _ => False) rfl (by first | (go_simp; done) | (go_simp; rfl)) ?aP (fun _ hk => hk.elim) ?aF ?aO ?aB ?aS ?aL ?_; (case aP => exact k31_mkM _ _ _ (⟨rdOf ByteArray.empty y211 (ji20), rdOf ByteArray.empty y206 (ji17)⟩ : S31)); (case aB => exact (by repeat (first | (with_reducible first | exact HB.out | apply below_alloc | apply pw_below_drewN | apply below_drew1 | refine below_set ?_ GE205.out | refine below_set ?_ GE216.out) | exact HB.out))); (case aF => exact (fun k_ hk => Kd.freshB (g := gb216) (o := .cells #[.string (rdOf ByteArray.empty y211 (ji20)), .string (rdOf ByteArray.empty y206 (ji17))] 31 (0, 0)) (by (with_reducible repeat (first | refine blk_drewN ?_ _ | refine blk_drew ?_ | refine blk_alloc ?_ _)); refine blk_put (cs := #[.string (rdOf ByteArray.empty y211 (ji20)), .string (⟨#[]⟩ : ByteArray)]) ?_ 1 _ rfl; (with_reducible repeat (first | refine blk_drewN ?_ _ | refine blk_drew ?_ | refine blk_alloc ?_ _)); refine blk_put (cs := #[.string (⟨#[]⟩ : ByteArray), .string (⟨#[]⟩ : ByteArray)]) ?_ 0 _ rfl; (with_reducible repeat (first | refine blk_drewN ?_ _ | refine blk_drew ?_ | refine blk_alloc ?_ _)); exact BK216.out) k_ hk)); (case aO => exact (by (with_reducible repeat (first | apply Kd.R_alloc | apply Kd.R_drewN | apply Kd.R_drew)); exact Kd.R_mono (Kd.R_far (p := ⟨gb216, 1, none⟩) (Kd.R_far (p := ⟨gb216, 0, none⟩) (Kd.R_mono HO_206003.out (fun k_ hk => (⟨hk, hk.2⟩ : _ ∧ k_ ≠ gb216))) (fun _ hk => (by first | exact hk.2 | exact True.intro)) (.string (rdOf ByteArray.empty y211 (ji20)))) (fun _ hk => (by first | exact hk.2 | exact True.intro)) (.string (rdOf ByteArray.empty y206 (ji17)))) (fun _ hk => hk.1.2))); (case aS => exact (below_size (by repeat (first | (with_reducible first | exact HB.out | apply below_alloc | apply pw_below_drewN | apply below_drew1 | refine below_set ?_ GE205.out | refine below_set ?_ GE216.out) | exact HB.out)))); (case aL => have := LMc23.out; omega); intro v218 w50 ho hb hg hat; rw [← Ny217.out] at ho; have n0_ := Aside0.mk (blk_grown (g := gb205) (o := .cells #[.string (⟨#[71, 69, 84]⟩ : ByteArray), .string (⟨#[47]⟩ : ByteArray), .int .i64 x206002_7, u206003, .bool false, .slice none 0 0, .slice none 0 0] 25 (0, 0)) (by (with_reducible repeat (first | refine blk_drewN ?_ _ | refine blk_drew ?_ | refine blk_alloc ?_ _)); refine blk_far ?_ NB205_216.out _; (with_reducible repeat (first | refine blk_drewN ?_ _ | refine blk_drew ?_ | refine blk_alloc ?_ _)); refine blk_far ?_ NB205_216.out _; (with_reducible repeat (first | refine blk_drewN ?_ _ | refine blk_drew ?_ | refine blk_alloc ?_ _)); exact BK205.out) hg (Kd.R_ne HO_206003.out BK205.out (by decide))); have n1_ := Aside0.mk (Kd.R_over' (by (with_reducible repeat (first | apply Kd.R_alloc | apply Kd.R_drewN | apply Kd.R_drew)); exact (Kd.R_mono (Kd.R_far (p := ⟨gb216, 1, none⟩) (Kd.R_far (p := ⟨gb216, 0, none⟩) (Kd.R_types HO208.out BK216.out (by decide)) (fun _ hk => (by first | exact hk.2 | exact True.intro)) (.string (rdOf ByteArray.empty y211 (ji20)))) (fun _ hk => (by first | exact hk.2 | exact True.intro)) (.string (rdOf ByteArray.empty y206 (ji17)))) (fun _ h_ => h_.1))) (Kd.R_typed (by (with_reducible repeat (first | apply Kd.R_alloc | apply Kd.R_drewN | apply Kd.R_drew)); exact (Kd.R_mono (Kd.R_far (p := ⟨gb216, 1, none⟩) (Kd.R_far (p := ⟨gb216, 0, none⟩) (Kd.R_mono HO_206003.out (fun k_ hk => (⟨hk, hk.2⟩ : _ ∧ k_ ≠ gb216))) (fun _ hk => (by first | exact hk.2 | exact True.intro)) (.string (rdOf ByteArray.empty y211 (ji20)))) (fun _ hk => (by first | exact hk.2 | exact True.intro)) (.string (rdOf ByteArray.empty y206 (ji17)))) (fun _ h_ => h_.1)))) (by decide) hg); have n2_ := Aside0.mk (Kd.R_over' (by (with_reducible repeat (first | apply Kd.R_alloc | apply Kd.R_drewN | apply Kd.R_drew)); exact (Kd.R_mono (Kd.R_far (p := ⟨gb216, 1, none⟩) (Kd.R_far (p := ⟨gb216, 0, none⟩) (Kd.R_types HO213.out BK216.out (by decide)) (fun _ hk => (by first | exact hk.2 | exact True.intro)) (.string (rdOf ByteArray.empty y211 (ji20)))) (fun _ hk => (by first | exact hk.2 | exact True.intro)) (.string (rdOf ByteArray.empty y206 (ji17)))) (fun _ h_ => h_.1))) (Kd.R_typed (by (with_reducible repeat (first | apply Kd.R_alloc | apply Kd.R_drewN | apply Kd.R_drew)); exact (Kd.R_mono (Kd.R_far (p := ⟨gb216, 1, none⟩) (Kd.R_far (p := ⟨gb216, 0, none⟩) (Kd.R_mono HO_206003.out (fun k_ hk => (⟨hk, hk.2⟩ : _ ∧ k_ ≠ gb216))) (fun _ hk => (by first | exact hk.2 | exact True.intro)) (.string (rdOf ByteArray.empty y211 (ji20)))) (fun _ hk => (by first | exact hk.2 | exact True.intro)) (.string (rdOf ByteArray.empty y206 (ji17)))) (fun _ h_ => h_.1)))) (by decide) hg); have n3_ := Aside0.mk (blk_grown (g := gb216) (o := .cells #[.string (rdOf ByteArray.empty y211 (ji20)), .string (rdOf ByteArray.empty y206 (ji17))] 31 (0, 0)) (by (with_reducible repeat (first | refine blk_drewN ?_ _ | refine blk_drew ?_ | refine blk_alloc ?_ _)); refine blk_put (cs := #[.string (rdOf ByteArray.empty y211 (ji20)), .string (⟨#[]⟩ : ByteArray)]) ?_ 1 _ rfl; (with_reducible repeat (first | refine blk_drewN ?_ _ | refine blk_drew ?_ | refine blk_alloc ?_ _)); refine blk_put (cs := #[.string (⟨#[]⟩ : ByteArray), .string (⟨#[]⟩ : ByteArray)]) ?_ 0 _ rfl; (with_reducible repeat (first | refine blk_drewN ?_ _ | refine blk_drew ?_ | refine blk_alloc ?_ _)); exact BK216.out) hg (Kd.R_away HO_206003.out (fun _ hk => (by first | exact hk.2 | exact True.intro)))); have n4_ := Aside0.mk (hb); have n5_ := Aside0.mk (ho); clear BK205; clear HO208; clear HO213; clear BK216; clear HB; clear HO_206003; have BK205 := n0_; have HO208 := n1_; have HO213 := n2_; have BK216 := n3_; have HB := n4_; have HO219 := n5_; clear n0_ n1_ n2_ n3_ n4_ n5_; clear ho hb hg hat; obtain ⟨Ao51, co51, eo51⟩ := Kd.R_slice HO219.out; subst eo51; have hcz52_0 : w50.cell? ⟨gb205, 0, none⟩ = some (.string (⟨#[71, 69, 84]⟩ : ByteArray)) := (blk_cell BK205.out 0).trans rfl; have hcz52_1 : w50.cell? ⟨gb205, 1, none⟩ = some (.string (⟨#[47]⟩ : ByteArray)) := (blk_cell BK205.out 1).trans rfl; have hcz52_2 : w50.cell? ⟨gb205, 2, none⟩ = some (.int .i64 x206002_7) := (blk_cell BK205.out 2).trans rfl; have hcz52_3 : w50.cell? ⟨gb205, 3, none⟩ = some (u206003) := (blk_cell BK205.out 3).trans rfl; have hcz52_4 : w50.cell? ⟨gb205, 4, none⟩ = some (.bool false) := (blk_cell BK205.out 4).trans rfl; have hcz52_5 : w50.cell? ⟨gb205, 5, none⟩ = some (.slice none 0 0) := (blk_cell BK205.out 5).trans rfl; have hcz52_6 : w50.cell? ⟨gb205, 6, none⟩ = some (.slice none 0 0) := (blk_cell BK205.out 6).trans rfl; have hfz52_0 := blk_frozen BK205.out 0; have hfz52_1 := blk_frozen BK205.out 1; have hfz52_2 := blk_frozen BK205.out 2; have hfz52_3 := blk_frozen BK205.out 3; have hfz52_4 := blk_frozen BK205.out 4; have hfz52_5 := blk_frozen BK205.out 5; have hfz52_6 := blk_frozen BK205.out 6; have hcz53_0 : w50.cell? ⟨gb216, 0, none⟩ = some (.string (rdOf ByteArray.empty y211 (ji20))) := (blk_cell BK216.out 0).trans rfl; have hcz53_1 : w50.cell? ⟨gb216, 1, none⟩ = some (.string (rdOf ByteArray.empty y206 (ji17))) := (blk_cell BK216.out 1).trans rfl; have hfz53_0 := blk_frozen BK216.out 0; have hfz53_1 := blk_frozen BK216.out 1; have p220 : 0 ≤ (x10_2 : Int) := of_decide_eq_true (by first | (with_reducible assumption) | assumption); have q220 : x10_2 < (l0.length : Int) := of_decide_eq_true (by first | (with_reducible assumption) | assumption); obtain ⟨ad220, e220, hx220_0⟩ := Kd.at_int HR0.out x10_2 p220 q220; obtain rfl : ad209 = ad220 := (by injection e220); have hn220_0 : ad209.block ≠ gb205 := Nat.ne_of_lt (Nat.lt_of_lt_of_le (by have := World.block_lt_of_cell? _ _ hx220_0; first | rwa [add_block] at this | exact this) GW205.out); replace hx220_0 := (HB.out.cell (World.block_lt_of_cell? w _ hx220_0)).trans hx220_0; replace hx220_0 := (cell_far (p := ⟨gb205, 3, none⟩) (by first | (rw [add_block]; exact hn220_0) | (show (Addr.add _ _).block ≠ _; rw [add_block]; exact hn220_0) | exact hn220_0) (.slice Ao51 y217.length co51)).trans hx220_0; clear hn220_0; replace p220 := eq_true p220; replace q220 := eq_true q220))
                                (try simp only [Act.put, List.setIfInBounds_toArray, List.set_cons_zero, List.set_cons_succ])
                                go_cut [8] (fun v8 wc => ∃ (kq : Nat) (x8_38 : Bool), v8 = .bool x8_38 ∧ Aside0 (parallaxlaw12_RecordCloses.j2 kq l0 a1 a2 x8_38 x9_2 x10_2 ji17 (⟨#[71, 69, 84]⟩ : ByteArray) (⟨#[47]⟩ : ByteArray) x206002_7 y217 false = some r) ∧ Aside0 (kq ≤ k2) ∧ Aside0 (Kd.R k31 31 wc w.heap.size (fun k_ => k_ ≠ gb216) (.slice Ao51 y217.length co51) y217) ∧ Aside0 (wc.heap[gb205]? = some (.cells #[.string (⟨#[71, 69, 84]⟩ : ByteArray), .string (⟨#[47]⟩ : ByteArray), .int .i64 x206002_7, (.slice Ao51 y217.length co51), .bool false, (.slice none 0 0), (.slice none 0 0)] 25 (0, 0))) ∧ Aside0 (wc.heap[gb216]? = some (.cells #[.string (rdOf ByteArray.empty y211 (ji20)), .string (rdOf ByteArray.empty y206 (ji17))] 31 (0, 0))) ∧ Aside0 (Below w.heap.size w wc))
                                case first =>
                                  have H := HC39.out
                                  clear HC39
                                  by_cases c54 : x8_2 = true
                                  · subst c54
                                    rw [if_pos rfl] at H
                                    have H' := Aside0.mk H
                                    clear H
                                    go_wp2
                                    (try any_goals (exfalso; have h_ := ‹some undef = some (Value.bool _)›; revert h_; simp [undef]; done))
                                    go_meet
                                    case rel => exact ⟨_, (true), (by first | rfl | (simp; done) | (simp [*]; done)), H', ⟨by have := HJ7.out; have := HK2.out; first | omega | exact Nat.le_refl _⟩, ⟨by (with_reducible repeat (first | apply Kd.R_alloc | apply Kd.R_drewN | apply Kd.R_drew)); exact Kd.R_mono (Kd.R_far (p := ⟨gb205, 3, none⟩) (Kd.R_types HO219.out BK205.out (by decide)) (fun _ hk => (by first | exact hk.2 | exact True.intro)) (.slice Ao51 y217.length co51)) (fun _ hk => hk.1)⟩, ⟨by (with_reducible repeat (first | refine blk_drewN ?_ _ | refine blk_drew ?_ | refine blk_alloc ?_ _)); refine blk_put (cs := #[.string (⟨#[71, 69, 84]⟩ : ByteArray), .string (⟨#[47]⟩ : ByteArray), .int .i64 x206002_7, u206003, .bool false, .slice none 0 0, .slice none 0 0]) ?_ 3 _ rfl; (with_reducible repeat (first | refine blk_drewN ?_ _ | refine blk_drew ?_ | refine blk_alloc ?_ _)); exact BK205.out⟩, ⟨by (with_reducible repeat (first | refine blk_drewN ?_ _ | refine blk_drew ?_ | refine blk_alloc ?_ _)); refine blk_far ?_ NB216_205.out _; (with_reducible repeat (first | refine blk_drewN ?_ _ | refine blk_drew ?_ | refine blk_alloc ?_ _)); exact BK216.out⟩, ⟨by repeat (first | (with_reducible first | exact HB.out | apply below_alloc | apply pw_below_drewN | apply below_drew1 | refine below_set ?_ GE205.out | refine below_set ?_ GE216.out) | exact HB.out)⟩⟩
                                  · replace c54 := Bool.eq_false_iff.mpr c54
                                    subst c54
                                    rw [if_neg (show ¬ (false = true) by decide)] at H
                                    by_cases c55 : (ji17) = 0
                                    · rw [if_pos c55] at H
                                      have c55b0 : ((ji17) == 0) = true := beq_iff_eq.mpr c55
                                      have c55b1 : ((ji17) != 0) = false := bne_eq_false_iff_eq.mpr c55
                                      clear c55
                                      (first | rw [c55b0] | (simp only [i64_w, i32_w]; rw [c55b0]) | skip)
                                      have H' := Aside0.mk H
                                      clear H
                                      go_wp2
                                      (try any_goals (exfalso; have h_ := ‹some undef = some (Value.bool _)›; revert h_; simp [undef]; done))
                                      go_meet
                                      case rel => exact ⟨_, (true), (by first | rfl | (simp; done) | (simp [*]; done)), H', ⟨by have := HJ7.out; have := HK2.out; first | omega | exact Nat.le_refl _⟩, ⟨by (with_reducible repeat (first | apply Kd.R_alloc | apply Kd.R_drewN | apply Kd.R_drew)); exact Kd.R_mono (Kd.R_far (p := ⟨gb205, 3, none⟩) (Kd.R_types HO219.out BK205.out (by decide)) (fun _ hk => (by first | exact hk.2 | exact True.intro)) (.slice Ao51 y217.length co51)) (fun _ hk => hk.1)⟩, ⟨by (with_reducible repeat (first | refine blk_drewN ?_ _ | refine blk_drew ?_ | refine blk_alloc ?_ _)); refine blk_put (cs := #[.string (⟨#[71, 69, 84]⟩ : ByteArray), .string (⟨#[47]⟩ : ByteArray), .int .i64 x206002_7, u206003, .bool false, .slice none 0 0, .slice none 0 0]) ?_ 3 _ rfl; (with_reducible repeat (first | refine blk_drewN ?_ _ | refine blk_drew ?_ | refine blk_alloc ?_ _)); exact BK205.out⟩, ⟨by (with_reducible repeat (first | refine blk_drewN ?_ _ | refine blk_drew ?_ | refine blk_alloc ?_ _)); refine blk_far ?_ NB216_205.out _; (with_reducible repeat (first | refine blk_drewN ?_ _ | refine blk_drew ?_ | refine blk_alloc ?_ _)); exact BK216.out⟩, ⟨by repeat (first | (with_reducible first | exact HB.out | apply below_alloc | apply pw_below_drewN | apply below_drew1 | refine below_set ?_ GE205.out | refine below_set ?_ GE216.out) | exact HB.out)⟩⟩
                                    · rw [if_neg c55] at H
                                      have c55b0 : ((ji17) == 0) = false := beq_eq_false_iff_ne.mpr c55
                                      have c55b1 : ((ji17) != 0) = true := bne_iff_ne.mpr c55
                                      clear c55
                                      (first | rw [c55b0] | (simp only [i64_w, i32_w]; rw [c55b0]) | skip)
                                      by_cases c56 : (ji17) = 1
                                      · rw [if_pos c56] at H
                                        have c56b0 : ((ji17) == 1) = true := beq_iff_eq.mpr c56
                                        have c56b1 : ((ji17) != 1) = false := bne_eq_false_iff_eq.mpr c56
                                        clear c56
                                        have H' := Aside0.mk H
                                        clear H
                                        go_wp2
                                        (try any_goals (exfalso; have h_ := ‹some undef = some (Value.bool _)›; revert h_; simp [undef]; done))
                                        go_meet
                                        case rel => exact ⟨_, (true), (by first | rfl | (simp; done) | (simp [*]; done)), H', ⟨by have := HJ7.out; have := HK2.out; first | omega | exact Nat.le_refl _⟩, ⟨by (with_reducible repeat (first | apply Kd.R_alloc | apply Kd.R_drewN | apply Kd.R_drew)); exact Kd.R_mono (Kd.R_far (p := ⟨gb205, 3, none⟩) (Kd.R_types HO219.out BK205.out (by decide)) (fun _ hk => (by first | exact hk.2 | exact True.intro)) (.slice Ao51 y217.length co51)) (fun _ hk => hk.1)⟩, ⟨by (with_reducible repeat (first | refine blk_drewN ?_ _ | refine blk_drew ?_ | refine blk_alloc ?_ _)); refine blk_put (cs := #[.string (⟨#[71, 69, 84]⟩ : ByteArray), .string (⟨#[47]⟩ : ByteArray), .int .i64 x206002_7, u206003, .bool false, .slice none 0 0, .slice none 0 0]) ?_ 3 _ rfl; (with_reducible repeat (first | refine blk_drewN ?_ _ | refine blk_drew ?_ | refine blk_alloc ?_ _)); exact BK205.out⟩, ⟨by (with_reducible repeat (first | refine blk_drewN ?_ _ | refine blk_drew ?_ | refine blk_alloc ?_ _)); refine blk_far ?_ NB216_205.out _; (with_reducible repeat (first | refine blk_drewN ?_ _ | refine blk_drew ?_ | refine blk_alloc ?_ _)); exact BK216.out⟩, ⟨by repeat (first | (with_reducible first | exact HB.out | apply below_alloc | apply pw_below_drewN | apply below_drew1 | refine below_set ?_ GE205.out | refine below_set ?_ GE216.out) | exact HB.out)⟩⟩
                                      · rw [if_neg c56] at H
                                        have c56b0 : ((ji17) == 1) = false := beq_eq_false_iff_ne.mpr c56
                                        have c56b1 : ((ji17) != 1) = true := bne_iff_ne.mpr c56
                                        by_cases c57 : (ji17) = 6
                                        · rw [if_pos c57] at H
                                          have c57b0 : ((ji17) == 6) = true := beq_iff_eq.mpr c57
                                          have c57b1 : ((ji17) != 6) = false := bne_eq_false_iff_eq.mpr c57
                                          clear c57
                                          have H' := Aside0.mk H
                                          clear H
                                          go_wp2
                                          (try any_goals (exfalso; have h_ := ‹some undef = some (Value.bool _)›; revert h_; simp [undef]; done))
                                          go_meet
                                          case rel => exact ⟨_, (true), (by first | rfl | (simp; done) | (simp [*]; done)), H', ⟨by have := HJ7.out; have := HK2.out; first | omega | exact Nat.le_refl _⟩, ⟨by (with_reducible repeat (first | apply Kd.R_alloc | apply Kd.R_drewN | apply Kd.R_drew)); exact Kd.R_mono (Kd.R_far (p := ⟨gb205, 3, none⟩) (Kd.R_types HO219.out BK205.out (by decide)) (fun _ hk => (by first | exact hk.2 | exact True.intro)) (.slice Ao51 y217.length co51)) (fun _ hk => hk.1)⟩, ⟨by (with_reducible repeat (first | refine blk_drewN ?_ _ | refine blk_drew ?_ | refine blk_alloc ?_ _)); refine blk_put (cs := #[.string (⟨#[71, 69, 84]⟩ : ByteArray), .string (⟨#[47]⟩ : ByteArray), .int .i64 x206002_7, u206003, .bool false, .slice none 0 0, .slice none 0 0]) ?_ 3 _ rfl; (with_reducible repeat (first | refine blk_drewN ?_ _ | refine blk_drew ?_ | refine blk_alloc ?_ _)); exact BK205.out⟩, ⟨by (with_reducible repeat (first | refine blk_drewN ?_ _ | refine blk_drew ?_ | refine blk_alloc ?_ _)); refine blk_far ?_ NB216_205.out _; (with_reducible repeat (first | refine blk_drewN ?_ _ | refine blk_drew ?_ | refine blk_alloc ?_ _)); exact BK216.out⟩, ⟨by repeat (first | (with_reducible first | exact HB.out | apply below_alloc | apply pw_below_drewN | apply below_drew1 | refine below_set ?_ GE205.out | refine below_set ?_ GE216.out) | exact HB.out)⟩⟩
                                        · rw [if_neg c57] at H
                                          have c57b0 : ((ji17) == 6) = false := beq_eq_false_iff_ne.mpr c57
                                          have c57b1 : ((ji17) != 6) = true := bne_iff_ne.mpr c57
                                          have H' := Aside0.mk H
                                          clear H
                                          go_wp2
                                          (try any_goals (exfalso; have h_ := ‹some undef = some (Value.bool _)›; revert h_; simp [undef]; done))
                                          go_meet
                                          case rel => exact ⟨_, (((ji17) == 7)), (by first | rfl | (simp; done) | (simp only [← hji17] <;> (first | rfl | simp)) | (simp [*]; done)), H', ⟨by have := HJ7.out; have := HK2.out; first | omega | exact Nat.le_refl _⟩, ⟨by (with_reducible repeat (first | apply Kd.R_alloc | apply Kd.R_drewN | apply Kd.R_drew)); exact Kd.R_mono (Kd.R_far (p := ⟨gb205, 3, none⟩) (Kd.R_types HO219.out BK205.out (by decide)) (fun _ hk => (by first | exact hk.2 | exact True.intro)) (.slice Ao51 y217.length co51)) (fun _ hk => hk.1)⟩, ⟨by (with_reducible repeat (first | refine blk_drewN ?_ _ | refine blk_drew ?_ | refine blk_alloc ?_ _)); refine blk_put (cs := #[.string (⟨#[71, 69, 84]⟩ : ByteArray), .string (⟨#[47]⟩ : ByteArray), .int .i64 x206002_7, u206003, .bool false, .slice none 0 0, .slice none 0 0]) ?_ 3 _ rfl; (with_reducible repeat (first | refine blk_drewN ?_ _ | refine blk_drew ?_ | refine blk_alloc ?_ _)); exact BK205.out⟩, ⟨by (with_reducible repeat (first | refine blk_drewN ?_ _ | refine blk_drew ?_ | refine blk_alloc ?_ _)); refine blk_far ?_ NB216_205.out _; (with_reducible repeat (first | refine blk_drewN ?_ _ | refine blk_drew ?_ | refine blk_alloc ?_ _)); exact BK216.out⟩, ⟨by repeat (first | (with_reducible first | exact HB.out | apply below_alloc | apply pw_below_drewN | apply below_drew1 | refine below_set ?_ GE205.out | refine below_set ?_ GE216.out) | exact HB.out)⟩⟩
                                case rest =>
                                  clear HC39
                                  try clear c1
                                  try clear c2
                                  try clear p2
                                  try clear q2
                                  try clear hx2
                                  try clear c3
                                  try clear c4
                                  try clear c5
                                  try clear c6
                                  try clear c6b0
                                  try clear c6b1
                                  try clear c12
                                  try clear c14
                                  try clear c14b0
                                  try clear c16
                                  try clear c16b0
                                  try clear c18
                                  try clear c18b0
                                  try clear c19
                                  try clear c19b0
                                  try clear p20
                                  try clear q20
                                  try clear hx20
                                  try clear c21
                                  try clear c21b0
                                  try clear p21
                                  try clear q21
                                  try clear hx21
                                  try clear c22
                                  try clear c22b0
                                  try clear p22
                                  try clear q22
                                  try clear hx22
                                  try clear c23
                                  try clear c24
                                  try clear c24b0
                                  try clear c24b1
                                  try clear c32
                                  try clear c47
                                  try clear c54
                                  try clear c55
                                  try clear c55b0
                                  try clear c55b1
                                  try clear c56
                                  try clear c56b0
                                  try clear c56b1
                                  try clear c57
                                  try clear c57b0
                                  try clear c57b1
                                  try clear hcz11_0
                                  try clear hcz11_1
                                  try clear hcz11_2
                                  try clear hcz11_3
                                  try clear hcz11_4
                                  try clear hcz11_5
                                  try clear hcz11_6
                                  try clear hcz13_0
                                  try clear hcz13_1
                                  try clear hcz13_2
                                  try clear hcz13_3
                                  try clear hcz13_4
                                  try clear hcz13_5
                                  try clear hcz13_6
                                  try clear hcz33_0
                                  try clear hcz33_1
                                  try clear hcz34_0
                                  try clear hcz34_1
                                  try clear hcz34_2
                                  try clear hcz34_3
                                  try clear hcz34_4
                                  try clear hcz34_5
                                  try clear hcz34_6
                                  try clear hcz37_0
                                  try clear hcz37_1
                                  try clear hcz37_2
                                  try clear hcz37_3
                                  try clear hcz37_4
                                  try clear hcz37_5
                                  try clear hcz37_6
                                  try clear hcz38_0
                                  try clear hcz38_1
                                  try clear hcz48_0
                                  try clear hcz48_1
                                  try clear hcz49_0
                                  try clear hcz49_1
                                  try clear hcz49_2
                                  try clear hcz49_3
                                  try clear hcz49_4
                                  try clear hcz49_5
                                  try clear hcz49_6
                                  try clear hcz52_0
                                  try clear hcz52_1
                                  try clear hcz52_2
                                  try clear hcz52_3
                                  try clear hcz52_4
                                  try clear hcz52_5
                                  try clear hcz52_6
                                  try clear hcz53_0
                                  try clear hcz53_1
                                  try clear hfz11_0
                                  try clear hfz11_1
                                  try clear hfz11_2
                                  try clear hfz11_3
                                  try clear hfz11_4
                                  try clear hfz11_5
                                  try clear hfz11_6
                                  try clear hfz13_0
                                  try clear hfz13_1
                                  try clear hfz13_2
                                  try clear hfz13_3
                                  try clear hfz13_4
                                  try clear hfz13_5
                                  try clear hfz13_6
                                  try clear hfz33_0
                                  try clear hfz33_1
                                  try clear hfz34_0
                                  try clear hfz34_1
                                  try clear hfz34_2
                                  try clear hfz34_3
                                  try clear hfz34_4
                                  try clear hfz34_5
                                  try clear hfz34_6
                                  try clear hfz37_0
                                  try clear hfz37_1
                                  try clear hfz37_2
                                  try clear hfz37_3
                                  try clear hfz37_4
                                  try clear hfz37_5
                                  try clear hfz37_6
                                  try clear hfz38_0
                                  try clear hfz38_1
                                  try clear hfz48_0
                                  try clear hfz48_1
                                  try clear hfz49_0
                                  try clear hfz49_1
                                  try clear hfz49_2
                                  try clear hfz49_3
                                  try clear hfz49_4
                                  try clear hfz49_5
                                  try clear hfz49_6
                                  try clear hfz52_0
                                  try clear hfz52_1
                                  try clear hfz52_2
                                  try clear hfz52_3
                                  try clear hfz52_4
                                  try clear hfz52_5
                                  try clear hfz52_6
                                  try clear hfz53_0
                                  try clear hfz53_1
                                  try clear hx209_0
                                  try clear hx210_0
                                  try clear hx214_0
                                  try clear hx215_0
                                  try clear hx220_0
                                  try clear p2
                                  try clear p209
                                  try clear p210
                                  try clear p214
                                  try clear p215
                                  try clear p220
                                  try clear q2
                                  try clear q209
                                  try clear q210
                                  try clear q214
                                  try clear q215
                                  try clear q220
                                  obtain ⟨kq, x8_38, rfl, HA, HJ38, HO_206003, BK205, BK216, HB⟩ := hcut
                                  cases kq with
                                  | zero => exact absurd HA.out (by simp [parallaxlaw12_RecordCloses.j2])
                                  | succ kj38 =>
                                    have H := HA.out
                                    clear HA
                                    simp only [parallaxlaw12_RecordCloses.j2] at H
                                    by_cases c58 : x9_2 = true
                                    · subst c58
                                      rw [if_pos rfl] at H
                                      have H' := Aside0.mk H
                                      clear H
                                      go_wp2
                                      (try any_goals (exfalso; have h_ := ‹some undef = some (Value.bool _)›; revert h_; simp [undef]; done))
                                      go_meet
                                      case rel => exact ⟨_, (x8_38), (true), (y217), (.slice Ao51 y217.length co51), (by first | rfl | (simp; done) | (simp [*]; done)), (by first | rfl | (simp; done) | (simp [*]; done)), H', ⟨by have := HJ7.out; have := HK2.out; have := HJ38.out; first | omega | exact Nat.le_refl _⟩, ⟨by (with_reducible repeat (first | apply Kd.R_alloc | apply Kd.R_drewN | apply Kd.R_drew)); exact Kd.R_mono HO_206003.out (fun _ hk => trivial)⟩, ⟨by (with_reducible repeat (first | refine blk_drewN ?_ _ | refine blk_drew ?_ | refine blk_alloc ?_ _)); exact BK205.out⟩, ⟨by repeat (first | (with_reducible first | exact HB.out | apply below_alloc | apply pw_below_drewN | apply below_drew1 | refine below_set ?_ GE205.out | refine below_set ?_ GE216.out) | exact HB.out)⟩⟩
                                    · replace c58 := Bool.eq_false_iff.mpr c58
                                      subst c58
                                      rw [if_neg (show ¬ (false = true) by decide)] at H
                                      by_cases c59 : ji17 = 2
                                      · rw [if_pos c59] at H
                                        have c59b0 : (ji17 == 2) = true := beq_iff_eq.mpr c59
                                        have c59b1 : (ji17 != 2) = false := bne_eq_false_iff_eq.mpr c59
                                        clear c59
                                        have H' := Aside0.mk H
                                        clear H
                                        go_wp2
                                        (try any_goals (exfalso; have h_ := ‹some undef = some (Value.bool _)›; revert h_; simp [undef]; done))
                                        go_meet
                                        case rel => exact ⟨_, (x8_38), (true), (y217), (.slice Ao51 y217.length co51), (by first | rfl | (simp; done) | (simp [*]; done)), (by first | rfl | (simp; done) | (simp [*]; done)), H', ⟨by have := HJ7.out; have := HK2.out; have := HJ38.out; first | omega | exact Nat.le_refl _⟩, ⟨by (with_reducible repeat (first | apply Kd.R_alloc | apply Kd.R_drewN | apply Kd.R_drew)); exact Kd.R_mono HO_206003.out (fun _ hk => trivial)⟩, ⟨by (with_reducible repeat (first | refine blk_drewN ?_ _ | refine blk_drew ?_ | refine blk_alloc ?_ _)); exact BK205.out⟩, ⟨by repeat (first | (with_reducible first | exact HB.out | apply below_alloc | apply pw_below_drewN | apply below_drew1 | refine below_set ?_ GE205.out | refine below_set ?_ GE216.out) | exact HB.out)⟩⟩
                                      · rw [if_neg c59] at H
                                        have c59b0 : (ji17 == 2) = false := beq_eq_false_iff_ne.mpr c59
                                        have c59b1 : (ji17 != 2) = true := bne_iff_ne.mpr c59
                                        by_cases c60 : ji17 = 3
                                        · rw [if_pos c60] at H
                                          have c60b0 : (ji17 == 3) = true := beq_iff_eq.mpr c60
                                          have c60b1 : (ji17 != 3) = false := bne_eq_false_iff_eq.mpr c60
                                          clear c60
                                          have H' := Aside0.mk H
                                          clear H
                                          go_wp2
                                          (try any_goals (exfalso; have h_ := ‹some undef = some (Value.bool _)›; revert h_; simp [undef]; done))
                                          go_meet
                                          case rel => exact ⟨_, (x8_38), (true), (y217), (.slice Ao51 y217.length co51), (by first | rfl | (simp; done) | (simp [*]; done)), (by first | rfl | (simp; done) | (simp [*]; done)), H', ⟨by have := HJ7.out; have := HK2.out; have := HJ38.out; first | omega | exact Nat.le_refl _⟩, ⟨by (with_reducible repeat (first | apply Kd.R_alloc | apply Kd.R_drewN | apply Kd.R_drew)); exact Kd.R_mono HO_206003.out (fun _ hk => trivial)⟩, ⟨by (with_reducible repeat (first | refine blk_drewN ?_ _ | refine blk_drew ?_ | refine blk_alloc ?_ _)); exact BK205.out⟩, ⟨by repeat (first | (with_reducible first | exact HB.out | apply below_alloc | apply pw_below_drewN | apply below_drew1 | refine below_set ?_ GE205.out | refine below_set ?_ GE216.out) | exact HB.out)⟩⟩
                                        · rw [if_neg c60] at H
                                          have c60b0 : (ji17 == 3) = false := beq_eq_false_iff_ne.mpr c60
                                          have c60b1 : (ji17 != 3) = true := bne_iff_ne.mpr c60
                                          have H' := Aside0.mk H
                                          clear H
                                          go_wp2
                                          (try any_goals (exfalso; have h_ := ‹some undef = some (Value.bool _)›; revert h_; simp [undef]; done))
                                          go_meet
                                          case rel => exact ⟨_, (x8_38), ((ji17 == 8)), (y217), (.slice Ao51 y217.length co51), (by first | rfl | (simp; done) | (simp [*]; done)), (by first | rfl | (simp; done) | (simp only [← hji17] <;> (first | rfl | simp)) | (simp [*]; done)), H', ⟨by have := HJ7.out; have := HK2.out; have := HJ38.out; first | omega | exact Nat.le_refl _⟩, ⟨by (with_reducible repeat (first | apply Kd.R_alloc | apply Kd.R_drewN | apply Kd.R_drew)); exact Kd.R_mono HO_206003.out (fun _ hk => trivial)⟩, ⟨by (with_reducible repeat (first | refine blk_drewN ?_ _ | refine blk_drew ?_ | refine blk_alloc ?_ _)); exact BK205.out⟩, ⟨by repeat (first | (with_reducible first | exact HB.out | apply below_alloc | apply pw_below_drewN | apply below_drew1 | refine below_set ?_ GE205.out | refine below_set ?_ GE216.out) | exact HB.out)⟩⟩
                            · rw [if_neg c23] at H
                              exact absurd H (by simp)
                          · rw [if_neg c22] at H
                            exact absurd H (by simp)
                        · rw [if_neg c21] at H
                          exact absurd H (by simp)
                      · rw [if_neg c19] at H
                        exact absurd H (by simp)
                    · rw [if_neg c18] at H
                      exact absurd H (by simp)
                  · rw [if_neg c16] at H
                    exact absurd H (by simp)
                case rest =>
                  clear HC15
                  try clear c1
                  try clear c2
                  try clear p2
                  try clear q2
                  try clear hx2
                  try clear c3
                  try clear c4
                  try clear c5
                  try clear c6
                  try clear c6b0
                  try clear c6b1
                  try clear c12
                  try clear c14
                  try clear c14b0
                  try clear c16
                  try clear c16b0
                  try clear c18
                  try clear c18b0
                  try clear c19
                  try clear c19b0
                  try clear p20
                  try clear q20
                  try clear hx20
                  try clear c21
                  try clear c21b0
                  try clear p21
                  try clear q21
                  try clear hx21
                  try clear c22
                  try clear c22b0
                  try clear p22
                  try clear q22
                  try clear hx22
                  try clear c23
                  try clear c24
                  try clear c24b0
                  try clear c24b1
                  try clear c32
                  try clear c47
                  try clear c54
                  try clear c55
                  try clear c55b0
                  try clear c55b1
                  try clear c56
                  try clear c56b0
                  try clear c56b1
                  try clear c57
                  try clear c57b0
                  try clear c57b1
                  try clear c58
                  try clear c59
                  try clear c59b0
                  try clear c59b1
                  try clear c60
                  try clear c60b0
                  try clear c60b1
                  try clear hcz11_0
                  try clear hcz11_1
                  try clear hcz11_2
                  try clear hcz11_3
                  try clear hcz11_4
                  try clear hcz11_5
                  try clear hcz11_6
                  try clear hcz13_0
                  try clear hcz13_1
                  try clear hcz13_2
                  try clear hcz13_3
                  try clear hcz13_4
                  try clear hcz13_5
                  try clear hcz13_6
                  try clear hcz33_0
                  try clear hcz33_1
                  try clear hcz34_0
                  try clear hcz34_1
                  try clear hcz34_2
                  try clear hcz34_3
                  try clear hcz34_4
                  try clear hcz34_5
                  try clear hcz34_6
                  try clear hcz37_0
                  try clear hcz37_1
                  try clear hcz37_2
                  try clear hcz37_3
                  try clear hcz37_4
                  try clear hcz37_5
                  try clear hcz37_6
                  try clear hcz38_0
                  try clear hcz38_1
                  try clear hcz48_0
                  try clear hcz48_1
                  try clear hcz49_0
                  try clear hcz49_1
                  try clear hcz49_2
                  try clear hcz49_3
                  try clear hcz49_4
                  try clear hcz49_5
                  try clear hcz49_6
                  try clear hcz52_0
                  try clear hcz52_1
                  try clear hcz52_2
                  try clear hcz52_3
                  try clear hcz52_4
                  try clear hcz52_5
                  try clear hcz52_6
                  try clear hcz53_0
                  try clear hcz53_1
                  try clear hfz11_0
                  try clear hfz11_1
                  try clear hfz11_2
                  try clear hfz11_3
                  try clear hfz11_4
                  try clear hfz11_5
                  try clear hfz11_6
                  try clear hfz13_0
                  try clear hfz13_1
                  try clear hfz13_2
                  try clear hfz13_3
                  try clear hfz13_4
                  try clear hfz13_5
                  try clear hfz13_6
                  try clear hfz33_0
                  try clear hfz33_1
                  try clear hfz34_0
                  try clear hfz34_1
                  try clear hfz34_2
                  try clear hfz34_3
                  try clear hfz34_4
                  try clear hfz34_5
                  try clear hfz34_6
                  try clear hfz37_0
                  try clear hfz37_1
                  try clear hfz37_2
                  try clear hfz37_3
                  try clear hfz37_4
                  try clear hfz37_5
                  try clear hfz37_6
                  try clear hfz38_0
                  try clear hfz38_1
                  try clear hfz48_0
                  try clear hfz48_1
                  try clear hfz49_0
                  try clear hfz49_1
                  try clear hfz49_2
                  try clear hfz49_3
                  try clear hfz49_4
                  try clear hfz49_5
                  try clear hfz49_6
                  try clear hfz52_0
                  try clear hfz52_1
                  try clear hfz52_2
                  try clear hfz52_3
                  try clear hfz52_4
                  try clear hfz52_5
                  try clear hfz52_6
                  try clear hfz53_0
                  try clear hfz53_1
                  try clear hx209_0
                  try clear hx210_0
                  try clear hx214_0
                  try clear hx215_0
                  try clear hx220_0
                  try clear p2
                  try clear p20
                  try clear p209
                  try clear p21
                  try clear p210
                  try clear p214
                  try clear p215
                  try clear p22
                  try clear p220
                  try clear q2
                  try clear q20
                  try clear q209
                  try clear q21
                  try clear q210
                  try clear q214
                  try clear q215
                  try clear q22
                  try clear q220
                  obtain ⟨kq, x8_14, x9_14, x206003_14, u206003, rfl, rfl, HA, HJ14, HO_206003, BK205, HB⟩ := hcut
                  cases kq with
                  | zero => exact absurd HA.out (by simp [parallaxlaw12_RecordCloses.j3])
                  | succ kj14 =>
                    have H := HA.out
                    clear HA
                    simp only [parallaxlaw12_RecordCloses.j3] at H
                    have H' := Aside0.mk H
                    clear H
                    go_wp2
                    (try any_goals (exfalso; have h_ := ‹some undef = some (Value.bool _)›; revert h_; simp [undef]; done))
                    go_roundg kj14
                    case measure => have := HJ7.out; have := HK2.out; have := HJ14.out; omega
                    case rel => exact ⟨(x8_14), (x9_14), (wrap64 (x10_2 + 1)), (x206003_14), (u206003), (by first | rfl | (simp; done) | (simp [*]; done)), (by first | rfl | (simp; done) | (simp [*]; done)), (by first | rfl | (simp; done) | (simp [*]; done)), H', ⟨by have := HJ7.out; have := HK2.out; have := HJ14.out; omega⟩, ⟨by (with_reducible repeat (first | apply Kd.R_alloc | apply Kd.R_drewN | apply Kd.R_drew)); exact HO_206003.out⟩, ⟨by (with_reducible repeat (first | refine blk_drewN ?_ _ | refine blk_drew ?_ | refine blk_alloc ?_ _)); exact BK205.out⟩, ⟨by repeat (first | (with_reducible first | exact HB.out | apply below_alloc | apply pw_below_drewN | apply below_drew1 | refine below_set ?_ GE205.out) | exact HB.out)⟩⟩
              · rw [if_neg c14] at H
                have c14b0 : decide (x10_2 < (l0.length : Int)) = false := decide_eq_false c14
                clear c14
                have HC61 := Aside0.mk H
                clear H
                go_upto_region 19 with (fail)
                go_cut [6] (fun v6 wc => ∃ (kq : Nat) (x6_60 : Bool), v6 = .bool x6_60 ∧ Aside0 (parallaxlaw12_RecordCloses.j4 kq x6_60 = some r) ∧ Aside0 (kq ≤ k2) ∧ Aside0 (Kd.R k31 31 wc w.heap.size (fun _ => True) u206003 x206003_2) ∧ Aside0 (wc.heap[gb205]? = some (.cells #[.string (⟨#[71, 69, 84]⟩ : ByteArray), .string (⟨#[47]⟩ : ByteArray), .int .i64 x206002_7, u206003, .bool false, (.slice none 0 0), (.slice none 0 0)] 25 (0, 0))) ∧ Aside0 (Below w.heap.size w wc))
                case first =>
                  have H := HC61.out
                  clear HC61
                  replace H := Option.bind_eq_some_iff.mp H
                  obtain ⟨t221, A620, H⟩ := H
                  (try dsimp only at H)
                  have A62 := Aside0.mk A620
                  clear A620
                  by_cases c63 : x8_2 = true
                  · subst c63
                    rw [if_pos rfl] at H
                    have H' := Aside0.mk H
                    clear H
                    have hcz64_0 : wr.cell? ⟨gb205, 0, none⟩ = some (.string (⟨#[71, 69, 84]⟩ : ByteArray)) := (blk_cell BK205.out 0).trans rfl
                    have hcz64_1 : wr.cell? ⟨gb205, 1, none⟩ = some (.string (⟨#[47]⟩ : ByteArray)) := (blk_cell BK205.out 1).trans rfl
                    have hcz64_2 : wr.cell? ⟨gb205, 2, none⟩ = some (.int .i64 x206002_7) := (blk_cell BK205.out 2).trans rfl
                    have hcz64_3 : wr.cell? ⟨gb205, 3, none⟩ = some (u206003) := (blk_cell BK205.out 3).trans rfl
                    have hcz64_4 : wr.cell? ⟨gb205, 4, none⟩ = some (.bool false) := (blk_cell BK205.out 4).trans rfl
                    have hcz64_5 : wr.cell? ⟨gb205, 5, none⟩ = some (.slice none 0 0) := (blk_cell BK205.out 5).trans rfl
                    have hcz64_6 : wr.cell? ⟨gb205, 6, none⟩ = some (.slice none 0 0) := (blk_cell BK205.out 6).trans rfl
                    have hfz64_0 := blk_frozen BK205.out 0
                    have hfz64_1 := blk_frozen BK205.out 1
                    have hfz64_2 := blk_frozen BK205.out 2
                    have hfz64_3 := blk_frozen BK205.out 3
                    have hfz64_4 := blk_frozen BK205.out 4
                    have hfz64_5 := blk_frozen BK205.out 5
                    have hfz64_6 := blk_frozen BK205.out 6
                    obtain ⟨Ao65, co65, eo65⟩ := Kd.R_slice HO_206003.out
                    subst eo65
                    go_wp2_with (first | ((with_reducible refine gate_callee (f := 14) rfl ?_); refine goesL_ (some 94) rfl rfl Tryd.func14 (by kernel_rfl) rfl #[.agg #[.string (⟨#[71, 69, 84]⟩ : ByteArray), .string (⟨#[47]⟩ : ByteArray), .int .i64 x206002_7, .slice Ao65 x206003_2.length co65, .bool false, .slice none 0 0, .slice none 0 0]] rfl (by (try simp only [List.map_toArray, List.map_cons, List.map_nil]); first | done | rfl | (simp only [List.length_drop, List.length_take]; rfl)) ?_; (refine (record_Closes.calls k2 (⟨#[71, 69, 84]⟩ : ByteArray) (⟨#[47]⟩ : ByteArray) x206002_7 _ _ x206003_2 false _ _ ([] : List Int) _ _ ([] : List (S31)) t221 _ ?side1 ?side2 ?side3 ?side4 ?side5 ?side6 A62.out).mono ?_); (case side1 => repeat (first | exact (Kd.R_reads' HO_206003.out).2.2 | (with_reducible refine Kd.C_alloc ?_ _) | (with_reducible refine Kd.C_drewN ?_ _) | (with_reducible refine Kd.C_drew ?_))); (case side2 => exact (Kd.R_reads' HO_206003.out).2.1); (case side3 => exact Kd.C_nil _ _); (case side4 => exact Nat.le_refl _); (case side5 => exact Kd.C_nil _ _); (case side6 => exact Nat.le_refl _); rintro e w66 ⟨rfl, hb⟩; refine ⟨_, rfl, ?_⟩; have n0_ := Aside0.mk (Kd.R_below (by (with_reducible repeat (first | apply Kd.R_alloc | apply Kd.R_drewN | apply Kd.R_drew)); exact HO_206003.out) hb); have n1_ := Aside0.mk (blk_below (g := gb205) (o := .cells #[.string (⟨#[71, 69, 84]⟩ : ByteArray), .string (⟨#[47]⟩ : ByteArray), .int .i64 x206002_7, .slice Ao65 x206003_2.length co65, .bool false, .slice none 0 0, .slice none 0 0] 25 (0, 0)) (by (with_reducible repeat (first | refine blk_drewN ?_ _ | refine blk_drew ?_ | refine blk_alloc ?_ _)); exact BK205.out) hb); have n2_ := Aside0.mk (below_step (by repeat (first | (with_reducible first | exact HB.out | apply below_alloc | apply pw_below_drewN | apply below_drew1 | refine below_set ?_ GE205.out) | exact HB.out)) hb); clear HO_206003; clear BK205; clear HB; have HO_206003 := n0_; have BK205 := n1_; have HB := n2_; clear n0_ n1_ n2_; (try clear hb); (try clear hb2); (try clear hk); (try clear hi)) | (go_at_call 14; (refine (record_Closes.calls k2 (⟨#[71, 69, 84]⟩ : ByteArray) (⟨#[47]⟩ : ByteArray) x206002_7 _ _ x206003_2 false _ _ ([] : List Int) _ _ ([] : List (S31)) t221 _ ?side1 ?side2 ?side3 ?side4 ?side5 ?side6 A62.out).mono ?_); (case side1 => repeat (first | exact (Kd.R_reads' HO_206003.out).2.2 | (with_reducible refine Kd.C_alloc ?_ _) | (with_reducible refine Kd.C_drewN ?_ _) | (with_reducible refine Kd.C_drew ?_))); (case side2 => exact (Kd.R_reads' HO_206003.out).2.1); (case side3 => exact Kd.C_nil _ _); (case side4 => exact Nat.le_refl _); (case side5 => exact Kd.C_nil _ _); (case side6 => exact Nat.le_refl _); rintro e w66 ⟨rfl, hb⟩; have n0_ := Aside0.mk (Kd.R_below (by (with_reducible repeat (first | apply Kd.R_alloc | apply Kd.R_drewN | apply Kd.R_drew)); exact HO_206003.out) hb); have n1_ := Aside0.mk (blk_below (g := gb205) (o := .cells #[.string (⟨#[71, 69, 84]⟩ : ByteArray), .string (⟨#[47]⟩ : ByteArray), .int .i64 x206002_7, .slice Ao65 x206003_2.length co65, .bool false, .slice none 0 0, .slice none 0 0] 25 (0, 0)) (by (with_reducible repeat (first | refine blk_drewN ?_ _ | refine blk_drew ?_ | refine blk_alloc ?_ _)); exact BK205.out) hb); have n2_ := Aside0.mk (below_step (by repeat (first | (with_reducible first | exact HB.out | apply below_alloc | apply pw_below_drewN | apply below_drew1 | refine below_set ?_ GE205.out) | exact HB.out)) hb); clear HO_206003; clear BK205; clear HB; have HO_206003 := n0_; have BK205 := n1_; have HB := n2_; clear n0_ n1_ n2_; (try clear hb); (try clear hb2); (try clear hk); (try clear hi)))
                    (try any_goals (exfalso; have h_ := ‹some undef = some (Value.bool _)›; revert h_; simp [undef]; done))
                    go_meet
                    case rel => exact ⟨_, ((t221 == true)), (by first | rfl | (simp; done) | (simp [*]; done)), H', ⟨by have := HJ7.out; have := HK2.out; first | omega | exact Nat.le_refl _⟩, ⟨by (with_reducible repeat (first | apply Kd.R_alloc | apply Kd.R_drewN | apply Kd.R_drew)); exact HO_206003.out⟩, ⟨by (with_reducible repeat (first | refine blk_drewN ?_ _ | refine blk_drew ?_ | refine blk_alloc ?_ _)); exact BK205.out⟩, ⟨by repeat (first | (with_reducible first | exact HB.out | apply below_alloc | apply pw_below_drewN | apply below_drew1 | refine below_set ?_ GE205.out) | exact HB.out)⟩⟩
                  · replace c63 := Bool.eq_false_iff.mpr c63
                    subst c63
                    rw [if_neg (show ¬ (false = true) by decide)] at H
                    by_cases c67 : a1 = true
                    · subst c67
                      rw [if_pos rfl] at H
                      have H' := Aside0.mk H
                      clear H
                      have hcz68_0 : wr.cell? ⟨gb205, 0, none⟩ = some (.string (⟨#[71, 69, 84]⟩ : ByteArray)) := (blk_cell BK205.out 0).trans rfl
                      have hcz68_1 : wr.cell? ⟨gb205, 1, none⟩ = some (.string (⟨#[47]⟩ : ByteArray)) := (blk_cell BK205.out 1).trans rfl
                      have hcz68_2 : wr.cell? ⟨gb205, 2, none⟩ = some (.int .i64 x206002_7) := (blk_cell BK205.out 2).trans rfl
                      have hcz68_3 : wr.cell? ⟨gb205, 3, none⟩ = some (u206003) := (blk_cell BK205.out 3).trans rfl
                      have hcz68_4 : wr.cell? ⟨gb205, 4, none⟩ = some (.bool false) := (blk_cell BK205.out 4).trans rfl
                      have hcz68_5 : wr.cell? ⟨gb205, 5, none⟩ = some (.slice none 0 0) := (blk_cell BK205.out 5).trans rfl
                      have hcz68_6 : wr.cell? ⟨gb205, 6, none⟩ = some (.slice none 0 0) := (blk_cell BK205.out 6).trans rfl
                      have hfz68_0 := blk_frozen BK205.out 0
                      have hfz68_1 := blk_frozen BK205.out 1
                      have hfz68_2 := blk_frozen BK205.out 2
                      have hfz68_3 := blk_frozen BK205.out 3
                      have hfz68_4 := blk_frozen BK205.out 4
                      have hfz68_5 := blk_frozen BK205.out 5
                      have hfz68_6 := blk_frozen BK205.out 6
                      obtain ⟨Ao69, co69, eo69⟩ := Kd.R_slice HO_206003.out
                      subst eo69
                      go_wp2_with (first | ((with_reducible refine gate_callee (f := 14) rfl ?_); refine goesL_ (some 94) rfl rfl Tryd.func14 (by kernel_rfl) rfl #[.agg #[.string (⟨#[71, 69, 84]⟩ : ByteArray), .string (⟨#[47]⟩ : ByteArray), .int .i64 x206002_7, .slice Ao69 x206003_2.length co69, .bool false, .slice none 0 0, .slice none 0 0]] rfl (by (try simp only [List.map_toArray, List.map_cons, List.map_nil]); first | done | rfl | (simp only [List.length_drop, List.length_take]; rfl)) ?_; (refine (record_Closes.calls k2 (⟨#[71, 69, 84]⟩ : ByteArray) (⟨#[47]⟩ : ByteArray) x206002_7 _ _ x206003_2 false _ _ ([] : List Int) _ _ ([] : List (S31)) t221 _ ?side1 ?side2 ?side3 ?side4 ?side5 ?side6 A62.out).mono ?_); (case side1 => repeat (first | exact (Kd.R_reads' HO_206003.out).2.2 | (with_reducible refine Kd.C_alloc ?_ _) | (with_reducible refine Kd.C_drewN ?_ _) | (with_reducible refine Kd.C_drew ?_))); (case side2 => exact (Kd.R_reads' HO_206003.out).2.1); (case side3 => exact Kd.C_nil _ _); (case side4 => exact Nat.le_refl _); (case side5 => exact Kd.C_nil _ _); (case side6 => exact Nat.le_refl _); rintro e w70 ⟨rfl, hb⟩; refine ⟨_, rfl, ?_⟩; have n0_ := Aside0.mk (Kd.R_below (by (with_reducible repeat (first | apply Kd.R_alloc | apply Kd.R_drewN | apply Kd.R_drew)); exact HO_206003.out) hb); have n1_ := Aside0.mk (blk_below (g := gb205) (o := .cells #[.string (⟨#[71, 69, 84]⟩ : ByteArray), .string (⟨#[47]⟩ : ByteArray), .int .i64 x206002_7, .slice Ao69 x206003_2.length co69, .bool false, .slice none 0 0, .slice none 0 0] 25 (0, 0)) (by (with_reducible repeat (first | refine blk_drewN ?_ _ | refine blk_drew ?_ | refine blk_alloc ?_ _)); exact BK205.out) hb); have n2_ := Aside0.mk (below_step (by repeat (first | (with_reducible first | exact HB.out | apply below_alloc | apply pw_below_drewN | apply below_drew1 | refine below_set ?_ GE205.out) | exact HB.out)) hb); clear HO_206003; clear BK205; clear HB; have HO_206003 := n0_; have BK205 := n1_; have HB := n2_; clear n0_ n1_ n2_; (try clear hb); (try clear hb2); (try clear hk); (try clear hi)) | (go_at_call 14; (refine (record_Closes.calls k2 (⟨#[71, 69, 84]⟩ : ByteArray) (⟨#[47]⟩ : ByteArray) x206002_7 _ _ x206003_2 false _ _ ([] : List Int) _ _ ([] : List (S31)) t221 _ ?side1 ?side2 ?side3 ?side4 ?side5 ?side6 A62.out).mono ?_); (case side1 => repeat (first | exact (Kd.R_reads' HO_206003.out).2.2 | (with_reducible refine Kd.C_alloc ?_ _) | (with_reducible refine Kd.C_drewN ?_ _) | (with_reducible refine Kd.C_drew ?_))); (case side2 => exact (Kd.R_reads' HO_206003.out).2.1); (case side3 => exact Kd.C_nil _ _); (case side4 => exact Nat.le_refl _); (case side5 => exact Kd.C_nil _ _); (case side6 => exact Nat.le_refl _); rintro e w70 ⟨rfl, hb⟩; have n0_ := Aside0.mk (Kd.R_below (by (with_reducible repeat (first | apply Kd.R_alloc | apply Kd.R_drewN | apply Kd.R_drew)); exact HO_206003.out) hb); have n1_ := Aside0.mk (blk_below (g := gb205) (o := .cells #[.string (⟨#[71, 69, 84]⟩ : ByteArray), .string (⟨#[47]⟩ : ByteArray), .int .i64 x206002_7, .slice Ao69 x206003_2.length co69, .bool false, .slice none 0 0, .slice none 0 0] 25 (0, 0)) (by (with_reducible repeat (first | refine blk_drewN ?_ _ | refine blk_drew ?_ | refine blk_alloc ?_ _)); exact BK205.out) hb); have n2_ := Aside0.mk (below_step (by repeat (first | (with_reducible first | exact HB.out | apply below_alloc | apply pw_below_drewN | apply below_drew1 | refine below_set ?_ GE205.out) | exact HB.out)) hb); clear HO_206003; clear BK205; clear HB; have HO_206003 := n0_; have BK205 := n1_; have HB := n2_; clear n0_ n1_ n2_; (try clear hb); (try clear hb2); (try clear hk); (try clear hi)))
                      (try any_goals (exfalso; have h_ := ‹some undef = some (Value.bool _)›; revert h_; simp [undef]; done))
                      go_meet
                      case rel => exact ⟨_, ((t221 == (!x9_2))), (by first | rfl | (simp; done) | (simp [*]; done)), H', ⟨by have := HJ7.out; have := HK2.out; first | omega | exact Nat.le_refl _⟩, ⟨by (with_reducible repeat (first | apply Kd.R_alloc | apply Kd.R_drewN | apply Kd.R_drew)); exact HO_206003.out⟩, ⟨by (with_reducible repeat (first | refine blk_drewN ?_ _ | refine blk_drew ?_ | refine blk_alloc ?_ _)); exact BK205.out⟩, ⟨by repeat (first | (with_reducible first | exact HB.out | apply below_alloc | apply pw_below_drewN | apply below_drew1 | refine below_set ?_ GE205.out) | exact HB.out)⟩⟩
                    · replace c67 := Bool.eq_false_iff.mpr c67
                      subst c67
                      rw [if_neg (show ¬ (false = true) by decide)] at H
                      have H' := Aside0.mk H
                      clear H
                      have hcz71_0 : wr.cell? ⟨gb205, 0, none⟩ = some (.string (⟨#[71, 69, 84]⟩ : ByteArray)) := (blk_cell BK205.out 0).trans rfl
                      have hcz71_1 : wr.cell? ⟨gb205, 1, none⟩ = some (.string (⟨#[47]⟩ : ByteArray)) := (blk_cell BK205.out 1).trans rfl
                      have hcz71_2 : wr.cell? ⟨gb205, 2, none⟩ = some (.int .i64 x206002_7) := (blk_cell BK205.out 2).trans rfl
                      have hcz71_3 : wr.cell? ⟨gb205, 3, none⟩ = some (u206003) := (blk_cell BK205.out 3).trans rfl
                      have hcz71_4 : wr.cell? ⟨gb205, 4, none⟩ = some (.bool false) := (blk_cell BK205.out 4).trans rfl
                      have hcz71_5 : wr.cell? ⟨gb205, 5, none⟩ = some (.slice none 0 0) := (blk_cell BK205.out 5).trans rfl
                      have hcz71_6 : wr.cell? ⟨gb205, 6, none⟩ = some (.slice none 0 0) := (blk_cell BK205.out 6).trans rfl
                      have hfz71_0 := blk_frozen BK205.out 0
                      have hfz71_1 := blk_frozen BK205.out 1
                      have hfz71_2 := blk_frozen BK205.out 2
                      have hfz71_3 := blk_frozen BK205.out 3
                      have hfz71_4 := blk_frozen BK205.out 4
                      have hfz71_5 := blk_frozen BK205.out 5
                      have hfz71_6 := blk_frozen BK205.out 6
                      obtain ⟨Ao72, co72, eo72⟩ := Kd.R_slice HO_206003.out
                      subst eo72
                      go_wp2_with (first | ((with_reducible refine gate_callee (f := 14) rfl ?_); refine goesL_ (some 94) rfl rfl Tryd.func14 (by kernel_rfl) rfl #[.agg #[.string (⟨#[71, 69, 84]⟩ : ByteArray), .string (⟨#[47]⟩ : ByteArray), .int .i64 x206002_7, .slice Ao72 x206003_2.length co72, .bool false, .slice none 0 0, .slice none 0 0]] rfl (by (try simp only [List.map_toArray, List.map_cons, List.map_nil]); first | done | rfl | (simp only [List.length_drop, List.length_take]; rfl)) ?_; (refine (record_Closes.calls k2 (⟨#[71, 69, 84]⟩ : ByteArray) (⟨#[47]⟩ : ByteArray) x206002_7 _ _ x206003_2 false _ _ ([] : List Int) _ _ ([] : List (S31)) t221 _ ?side1 ?side2 ?side3 ?side4 ?side5 ?side6 A62.out).mono ?_); (case side1 => repeat (first | exact (Kd.R_reads' HO_206003.out).2.2 | (with_reducible refine Kd.C_alloc ?_ _) | (with_reducible refine Kd.C_drewN ?_ _) | (with_reducible refine Kd.C_drew ?_))); (case side2 => exact (Kd.R_reads' HO_206003.out).2.1); (case side3 => exact Kd.C_nil _ _); (case side4 => exact Nat.le_refl _); (case side5 => exact Kd.C_nil _ _); (case side6 => exact Nat.le_refl _); rintro e w73 ⟨rfl, hb⟩; refine ⟨_, rfl, ?_⟩; have n0_ := Aside0.mk (Kd.R_below (by (with_reducible repeat (first | apply Kd.R_alloc | apply Kd.R_drewN | apply Kd.R_drew)); exact HO_206003.out) hb); have n1_ := Aside0.mk (blk_below (g := gb205) (o := .cells #[.string (⟨#[71, 69, 84]⟩ : ByteArray), .string (⟨#[47]⟩ : ByteArray), .int .i64 x206002_7, .slice Ao72 x206003_2.length co72, .bool false, .slice none 0 0, .slice none 0 0] 25 (0, 0)) (by (with_reducible repeat (first | refine blk_drewN ?_ _ | refine blk_drew ?_ | refine blk_alloc ?_ _)); exact BK205.out) hb); have n2_ := Aside0.mk (below_step (by repeat (first | (with_reducible first | exact HB.out | apply below_alloc | apply pw_below_drewN | apply below_drew1 | refine below_set ?_ GE205.out) | exact HB.out)) hb); clear HO_206003; clear BK205; clear HB; have HO_206003 := n0_; have BK205 := n1_; have HB := n2_; clear n0_ n1_ n2_; (try clear hb); (try clear hb2); (try clear hk); (try clear hi)) | (go_at_call 14; (refine (record_Closes.calls k2 (⟨#[71, 69, 84]⟩ : ByteArray) (⟨#[47]⟩ : ByteArray) x206002_7 _ _ x206003_2 false _ _ ([] : List Int) _ _ ([] : List (S31)) t221 _ ?side1 ?side2 ?side3 ?side4 ?side5 ?side6 A62.out).mono ?_); (case side1 => repeat (first | exact (Kd.R_reads' HO_206003.out).2.2 | (with_reducible refine Kd.C_alloc ?_ _) | (with_reducible refine Kd.C_drewN ?_ _) | (with_reducible refine Kd.C_drew ?_))); (case side2 => exact (Kd.R_reads' HO_206003.out).2.1); (case side3 => exact Kd.C_nil _ _); (case side4 => exact Nat.le_refl _); (case side5 => exact Kd.C_nil _ _); (case side6 => exact Nat.le_refl _); rintro e w73 ⟨rfl, hb⟩; have n0_ := Aside0.mk (Kd.R_below (by (with_reducible repeat (first | apply Kd.R_alloc | apply Kd.R_drewN | apply Kd.R_drew)); exact HO_206003.out) hb); have n1_ := Aside0.mk (blk_below (g := gb205) (o := .cells #[.string (⟨#[71, 69, 84]⟩ : ByteArray), .string (⟨#[47]⟩ : ByteArray), .int .i64 x206002_7, .slice Ao72 x206003_2.length co72, .bool false, .slice none 0 0, .slice none 0 0] 25 (0, 0)) (by (with_reducible repeat (first | refine blk_drewN ?_ _ | refine blk_drew ?_ | refine blk_alloc ?_ _)); exact BK205.out) hb); have n2_ := Aside0.mk (below_step (by repeat (first | (with_reducible first | exact HB.out | apply below_alloc | apply pw_below_drewN | apply below_drew1 | refine below_set ?_ GE205.out) | exact HB.out)) hb); clear HO_206003; clear BK205; clear HB; have HO_206003 := n0_; have BK205 := n1_; have HB := n2_; clear n0_ n1_ n2_; (try clear hb); (try clear hb2); (try clear hk); (try clear hi)))
                      (try any_goals (exfalso; have h_ := ‹some undef = some (Value.bool _)›; revert h_; simp [undef]; done))
                      go_meet
                      case rel => exact ⟨_, ((t221 == false)), (by first | rfl | (simp; done) | (simp [*]; done)), H', ⟨by have := HJ7.out; have := HK2.out; first | omega | exact Nat.le_refl _⟩, ⟨by (with_reducible repeat (first | apply Kd.R_alloc | apply Kd.R_drewN | apply Kd.R_drew)); exact HO_206003.out⟩, ⟨by (with_reducible repeat (first | refine blk_drewN ?_ _ | refine blk_drew ?_ | refine blk_alloc ?_ _)); exact BK205.out⟩, ⟨by repeat (first | (with_reducible first | exact HB.out | apply below_alloc | apply pw_below_drewN | apply below_drew1 | refine below_set ?_ GE205.out) | exact HB.out)⟩⟩
                case rest =>
                  clear HC61
                  try clear c1
                  try clear c2
                  try clear p2
                  try clear q2
                  try clear hx2
                  try clear c3
                  try clear c4
                  try clear c5
                  try clear c6
                  try clear c6b0
                  try clear c6b1
                  try clear p6
                  try clear c12
                  try clear c14
                  try clear c14b0
                  try clear c16
                  try clear c16b0
                  try clear c18
                  try clear c18b0
                  try clear c19
                  try clear c19b0
                  try clear p20
                  try clear q20
                  try clear hx20
                  try clear c21
                  try clear c21b0
                  try clear p21
                  try clear q21
                  try clear hx21
                  try clear c22
                  try clear c22b0
                  try clear p22
                  try clear q22
                  try clear hx22
                  try clear c23
                  try clear c24
                  try clear c24b0
                  try clear c24b1
                  try clear c32
                  try clear c47
                  try clear c54
                  try clear c55
                  try clear c55b0
                  try clear c55b1
                  try clear c56
                  try clear c56b0
                  try clear c56b1
                  try clear c57
                  try clear c57b0
                  try clear c57b1
                  try clear c58
                  try clear c59
                  try clear c59b0
                  try clear c59b1
                  try clear c60
                  try clear c60b0
                  try clear c60b1
                  try clear c63
                  try clear p64
                  try clear c67
                  try clear hcz11_0
                  try clear hcz11_1
                  try clear hcz11_2
                  try clear hcz11_3
                  try clear hcz11_4
                  try clear hcz11_5
                  try clear hcz11_6
                  try clear hcz13_0
                  try clear hcz13_1
                  try clear hcz13_2
                  try clear hcz13_3
                  try clear hcz13_4
                  try clear hcz13_5
                  try clear hcz13_6
                  try clear hcz33_0
                  try clear hcz33_1
                  try clear hcz34_0
                  try clear hcz34_1
                  try clear hcz34_2
                  try clear hcz34_3
                  try clear hcz34_4
                  try clear hcz34_5
                  try clear hcz34_6
                  try clear hcz37_0
                  try clear hcz37_1
                  try clear hcz37_2
                  try clear hcz37_3
                  try clear hcz37_4
                  try clear hcz37_5
                  try clear hcz37_6
                  try clear hcz38_0
                  try clear hcz38_1
                  try clear hcz48_0
                  try clear hcz48_1
                  try clear hcz49_0
                  try clear hcz49_1
                  try clear hcz49_2
                  try clear hcz49_3
                  try clear hcz49_4
                  try clear hcz49_5
                  try clear hcz49_6
                  try clear hcz52_0
                  try clear hcz52_1
                  try clear hcz52_2
                  try clear hcz52_3
                  try clear hcz52_4
                  try clear hcz52_5
                  try clear hcz52_6
                  try clear hcz53_0
                  try clear hcz53_1
                  try clear hcz64_0
                  try clear hcz64_1
                  try clear hcz64_2
                  try clear hcz64_3
                  try clear hcz64_4
                  try clear hcz64_5
                  try clear hcz64_6
                  try clear hcz68_0
                  try clear hcz68_1
                  try clear hcz68_2
                  try clear hcz68_3
                  try clear hcz68_4
                  try clear hcz68_5
                  try clear hcz68_6
                  try clear hcz71_0
                  try clear hcz71_1
                  try clear hcz71_2
                  try clear hcz71_3
                  try clear hcz71_4
                  try clear hcz71_5
                  try clear hcz71_6
                  try clear hfz11_0
                  try clear hfz11_1
                  try clear hfz11_2
                  try clear hfz11_3
                  try clear hfz11_4
                  try clear hfz11_5
                  try clear hfz11_6
                  try clear hfz13_0
                  try clear hfz13_1
                  try clear hfz13_2
                  try clear hfz13_3
                  try clear hfz13_4
                  try clear hfz13_5
                  try clear hfz13_6
                  try clear hfz33_0
                  try clear hfz33_1
                  try clear hfz34_0
                  try clear hfz34_1
                  try clear hfz34_2
                  try clear hfz34_3
                  try clear hfz34_4
                  try clear hfz34_5
                  try clear hfz34_6
                  try clear hfz37_0
                  try clear hfz37_1
                  try clear hfz37_2
                  try clear hfz37_3
                  try clear hfz37_4
                  try clear hfz37_5
                  try clear hfz37_6
                  try clear hfz38_0
                  try clear hfz38_1
                  try clear hfz48_0
                  try clear hfz48_1
                  try clear hfz49_0
                  try clear hfz49_1
                  try clear hfz49_2
                  try clear hfz49_3
                  try clear hfz49_4
                  try clear hfz49_5
                  try clear hfz49_6
                  try clear hfz52_0
                  try clear hfz52_1
                  try clear hfz52_2
                  try clear hfz52_3
                  try clear hfz52_4
                  try clear hfz52_5
                  try clear hfz52_6
                  try clear hfz53_0
                  try clear hfz53_1
                  try clear hfz64_0
                  try clear hfz64_1
                  try clear hfz64_2
                  try clear hfz64_3
                  try clear hfz64_4
                  try clear hfz64_5
                  try clear hfz64_6
                  try clear hfz68_0
                  try clear hfz68_1
                  try clear hfz68_2
                  try clear hfz68_3
                  try clear hfz68_4
                  try clear hfz68_5
                  try clear hfz68_6
                  try clear hfz71_0
                  try clear hfz71_1
                  try clear hfz71_2
                  try clear hfz71_3
                  try clear hfz71_4
                  try clear hfz71_5
                  try clear hfz71_6
                  try clear hx209_0
                  try clear hx210_0
                  try clear hx214_0
                  try clear hx215_0
                  try clear hx220_0
                  try clear p2
                  try clear p20
                  try clear p209
                  try clear p21
                  try clear p210
                  try clear p214
                  try clear p215
                  try clear p22
                  try clear p220
                  try clear q2
                  try clear q20
                  try clear q209
                  try clear q21
                  try clear q210
                  try clear q214
                  try clear q215
                  try clear q22
                  try clear q220
                  obtain ⟨kq, x6_60, rfl, HA, HJ60, HO_206003, BK205, HB⟩ := hcut
                  cases kq with
                  | zero => exact absurd HA.out (by simp [parallaxlaw12_RecordCloses.j4])
                  | succ kj60 =>
                    have H := HA.out
                    clear HA
                    simp only [parallaxlaw12_RecordCloses.j4] at H
                    obtain rfl := Option.some.inj H
                    go_wp2
                    (try any_goals (exfalso; have h_ := ‹some undef = some (Value.bool _)›; revert h_; simp [undef]; done))
                    go_ret
                    exact ⟨by first | rfl | (simp [errW_none, errW_some] <;> rfl) | (simp [*, errW_none, errW_some] <;> rfl), by repeat (first | (with_reducible first | exact HB.out | apply below_alloc | apply pw_below_drewN | apply below_drew1 | refine below_set ?_ GE205.out) | exact HB.out)⟩
  · replace c5 := Bool.eq_false_iff.mpr c5
    subst c5
    rw [if_neg (show ¬ (false = true) by decide)] at H
    exact absurd ((Option.some.inj H).trans HT.out) (by decide)

/-- THE ONE PURE STATEMENT of parallaxlaw12_RecordCloses: yours. -/
def parallaxlaw12_RecordCloses.Pure : Prop := ∀ (l0 : List Int) (a1 : Bool) (a2 : Int), l0.length ≤ maxLen → l0.length * 1 ≤ 140737488351232 → (∀ x ∈ l0, (Lit.int .u8 x).wf = true) → (Lit.int .u8 a2).wf = true → ∃ k, parallaxlaw12_RecordCloses.f k l0 a1 a2 = some true
theorem parallaxlaw12_RecordCloses.walk (P : parallaxlaw12_RecordCloses.Pure) (a0 : Option Addr) (len0 cap0 : Nat) (z0 : List Int) (a1 : Bool) (a2 : Int) (w : World) (w0 : (a0 = none ∧ len0 = 0 ∧ cap0 = 0 ∧ z0 = []) ∨ ∃ x, a0 = some x ∧ len0 ≤ cap0 ∧ cap0 ≤ maxLen ∧ z0.length = cap0 ∧ (∀ i, i < z0.length → w.cell? (x.add i) = some (.int .u8 (z0.getD i 0))) ∧ ∀ n ∈ z0, (Lit.int .u8 n).wf = true) (y0 : len0 * 1 ≤ 140737488351232) (w2 : (Lit.int .u8 a2).wf = true) :
    Calls Tryd.prog 4 #[.slice a0 len0 cap0, .bool a1, .int .u8 a2] w fun e w' => e = .returned (.bool true) ∧ Below w.heap.size w w' := by
  obtain ⟨l0, rfl, hr0, hm0, hw0, hc0⟩ := ReadsInt.ofRowC w0
  obtain ⟨k, h⟩ := P l0 a1 a2 hm0 y0 hw0 w2
  refine (parallaxlaw12_RecordCloses.calls k _ _ l0 a1 a2 true w (Kd.C_of_reads (d := (0 : Int)) (h1 := fun _ => rfl) hr0) hc0 w2 rfl h).mono ?_
  rintro e w' ⟨rfl, hd⟩
  exact ⟨rfl, hd⟩

end Go.Proofs.YtomofacchnmepaaDoor.PRecordCloses
