/- It is proved that RecordCloses answers true at every input: a record's connection closes as the parts of its Connection fields say. -/
import Derived.Test.YtomofacchnmepaaDoorPRecordClosesx6
import Derived.Test.YtomofacchnmepaaDoorTxtRecordCloses
namespace Go.Proofs.YtomofacchnmepaaDoor.Pure
open Go.RowKit Go.Proofs.YtomofacchnmepaaDoor.PRecordCloses Go.Proofs.YtomofacchnmepaaDoorW.PrintWords Go.Proofs.YtomofacchnmepaaDoorW.PrintLast Go.Proofs.YtomofacchnmepaaDoorW.PrintMore Go.Proofs.YtomofacchnmepaaDoor.Aid Go.Proofs.YtomofacchnmepaaDoor.Parts

def valsB : List ByteArray := [(⟨#[99, 108, 111, 115, 101]⟩ : ByteArray), (⟨#[67, 76, 79, 83, 69]⟩ : ByteArray), (⟨#[107, 101, 101, 112, 45, 97, 108, 105, 118, 101]⟩ : ByteArray), (⟨#[75, 101, 101, 112, 45, 65, 108, 105, 118, 101]⟩ : ByteArray), (⟨#[120]⟩ : ByteArray), (⟨#[120, 99, 108, 111, 115, 101]⟩ : ByteArray), (⟨#[97, 44, 32, 99, 108, 111, 115, 101]⟩ : ByteArray), (⟨#[99, 108, 111, 115, 101, 44, 98]⟩ : ByteArray), (⟨#[107, 101, 101, 112, 45, 97, 108, 105, 118, 101, 32, 44, 120]⟩ : ByteArray), (⟨#[99, 108, 111, 115, 101, 32, 120]⟩ : ByteArray)]
def namsB : List ByteArray := [(⟨#[67, 111, 110, 110, 101, 99, 116, 105, 111, 110]⟩ : ByteArray), (⟨#[99, 111, 110, 110, 101, 99, 116, 105, 111, 110]⟩ : ByteArray), (⟨#[80, 114, 111, 120, 121, 45, 67, 111, 110, 110, 101, 99, 116, 105, 111, 110]⟩ : ByteArray)]
theorem nams_tab : ∀ m : Fin 3, (Hand.sameB (rdOf ByteArray.empty namsB (m.val : Int)) rconB = decide (m.val ≠ 2)) ∧ (decide ((rdOf ByteArray.empty namsB (m.val : Int)).toList = ([80, 114, 111, 120, 121, 45, 67, 111, 110, 110, 101, 99, 116, 105, 111, 110] : List UInt8)) = decide (m.val = 2)) ∧ (rdOf ByteArray.empty namsB (m.val : Int)).size ≤ 16 := by decide +kernel
theorem vals_tab : ∀ k : Fin 10, (((listB [rdOf ByteArray.empty valsB (k.val : Int)]).any fun s => Hand.sameB s closeB) = decide (k.val = 0 ∨ k.val = 1 ∨ k.val = 6 ∨ k.val = 7)) ∧ (((listB [rdOf ByteArray.empty valsB (k.val : Int)]).any fun s => Hand.sameB s keepB) = decide (k.val = 2 ∨ k.val = 3 ∨ k.val = 8)) ∧ (rdOf ByteArray.empty valsB (k.val : Int)).size ≤ 20 := by decide +kernel
theorem j3_ev {x0 : List Int} {x1 : Bool} {x2 : Int} {b8 b9 : Bool} {i : Nat} (hi : i < 9223372036854775807) {s t : ByteArray} {c : Int} {l : List S31} {d r : Bool} (h : Ev (fun k => parallaxlaw12_RecordCloses.l0 k x0 x1 x2 b8 b9 ((i + 1 : Nat) : Int) s t c l d) r) : Ev (fun k => parallaxlaw12_RecordCloses.j3 k x0 x1 x2 b8 b9 (i : Int) s t c l d) r := by
  refine Ev.step (fun _ => parallaxlaw12_RecordCloses.j3.eq_2 ..) ?_
  rw [wrap_nat hi]; exact h
theorem j2_ev {x0 : List Int} {x1 : Bool} {x2 : Int} {b8 b9 : Bool} {i : Nat} (hi : i < 9223372036854775807) (q : Nat) {s t : ByteArray} {c : Int} {l : List S31} {d r : Bool} (h : Ev (fun k => parallaxlaw12_RecordCloses.l0 k x0 x1 x2 b8 (b9 || decide (q = 2 ∨ q = 3 ∨ q = 8)) ((i + 1 : Nat) : Int) s t c l d) r) : Ev (fun k => parallaxlaw12_RecordCloses.j2 k x0 x1 x2 b8 b9 (i : Int) (q : Int) s t c l d) r := by
  refine Ev.step (fun _ => parallaxlaw12_RecordCloses.j2.eq_2 ..) ?_
  cases b9 with
  | true => exact Ev.pos rfl (j3_ev hi h)
  | false =>
    rw [Bool.false_or] at h
    refine Ev.neg (by simp) ?_
    by_cases h2 : q = 2
    · exact Ev.pos (by omega) (j3_ev hi (by rw [decide_eq_true (by omega)] at h; exact h))
    by_cases h3 : q = 3
    · exact Ev.neg (by omega) (Ev.pos (by omega) (j3_ev hi (by rw [decide_eq_true (by omega)] at h; exact h)))
    refine Ev.neg (by omega) (Ev.neg (by omega) (j3_ev hi ?_))
    by_cases h8 : q = 8
    · rw [decide_eq_true (by omega)] at h; rw [beq_iff_eq.mpr (show (q : Int) = 8 by omega)]; exact h
    · rw [decide_eq_false (by omega)] at h; rw [beq_eq_false_iff_ne.mpr (show (q : Int) ≠ 8 by omega)]; exact h
theorem closes_loop (x0 : List Int) (hx : ∀ x ∈ x0, (Lit.int .u8 x).wf = true) (hl : x0.length ≤ 8) (x1 : Bool) (a2 : Nat) (_ : a2 < 256) (s t : ByteArray) (c : Int) (hc : decide (c = 0) = x1) (d : Bool) (n : Nat) : ∀ (i : Nat) (l : List S31), i + n = x0.length → l.length = i → (∀ x ∈ l, x.f0.size ≤ 200 ∧ x.f1.size ≤ 200) → Ev (fun k => parallaxlaw12_RecordCloses.l0 k x0 x1 (a2 : Int) (saysB l rconB closeB) (saysB l rconB keepB) (i : Int) s t c l d) true := by
  induction n with
  | zero =>
    intro i l hi hll hz
    refine Ev.step (fun _ => parallaxlaw12_RecordCloses.l0.eq_2 ..) (Ev.neg (by omega) (Ev.bind (closes_ev l (by omega) hz s t c d [] []) ?_))
    rw [hc]
    cases saysB l rconB closeB <;> cases saysB l rconB keepB <;> cases x1 <;> first
      | exact Ev.pos rfl (Ev.step (fun _ => parallaxlaw12_RecordCloses.j4.eq_2 ..) (Ev.now _))
      | exact Ev.neg (by simp) (Ev.pos rfl (Ev.step (fun _ => parallaxlaw12_RecordCloses.j4.eq_2 ..) (Ev.now _)))
      | exact Ev.neg (by simp) (Ev.neg (by simp) (Ev.step (fun _ => parallaxlaw12_RecordCloses.j4.eq_2 ..) (Ev.now _)))
  | succ n ih =>
    intro i l hi hll hz
    have h9 : i < 9223372036854775807 := by omega
    obtain ⟨b, hb, hbx⟩ : ∃ b : Nat, b < 256 ∧ rd x0 (i : Int) = (b : Int) := by
      have := u8_wf (hx (rd x0 (i : Int)) (by rw [rd_nat, List.getD_eq_getElem?_getD, List.getElem?_eq_getElem (by omega : i < x0.length)]; exact List.getElem_mem _))
      exact ⟨(rd x0 (i : Int)).toNat, by omega, by omega⟩
    refine Ev.step (fun _ => parallaxlaw12_RecordCloses.l0.eq_2 ..) (Ev.pos (by omega) (Ev.val rfl ?_))
    rw [hbx]
    have e1 : Int.tmod (b : Int) 10 = ((b % 10 : Nat) : Int) := by rw [Int.tmod_eq_emod_of_nonneg (by omega)]; omega
    have e2 : ((Int.tdiv (b : Int) 10 % 256 + (a2 : Int)) % 256) % 3 = (((b / 10 % 256 + a2) % 256 % 3 : Nat) : Int) := by rw [Int.tdiv_eq_ediv_of_nonneg (by omega)]; omega
    rw [e1, e2]
    have hq : b % 10 < 10 := by omega
    have hm : (b / 10 % 256 + a2) % 256 % 3 < 3 := by omega
    generalize b % 10 = q at hq ⊢
    generalize (b / 10 % 256 + a2) % 256 % 3 = m at hm ⊢
    obtain ⟨v1, v2, v3⟩ := vals_tab ⟨q, hq⟩
    obtain ⟨n1, n2, n3⟩ := nams_tab ⟨m, hm⟩
    dsimp only at v1 v2 v3 n1 n2 n3
    refine Ev.pos (by omega) (Ev.pos (by omega) (Ev.pos (show (q : Int) < ((10 : Nat) : Int) by omega) (Ev.val rfl (Ev.pos (by omega) (Ev.pos (show (m : Int) < ((3 : Nat) : Int) by omega) (Ev.pos (by omega) (Ev.val rfl ?_)))))))
    have g1 : saysB (l ++ [(⟨rdOf ByteArray.empty namsB (m : Int), rdOf ByteArray.empty valsB (q : Int)⟩ : S31)]) rconB closeB = (saysB l rconB closeB || (decide (m ≠ 2) && decide (q = 0 ∨ q = 1 ∨ q = 6 ∨ q = 7))) := by rw [saysB_app, saysB_one, n1, v1]
    have g2 : saysB (l ++ [(⟨rdOf ByteArray.empty namsB (m : Int), rdOf ByteArray.empty valsB (q : Int)⟩ : S31)]) rconB keepB = (saysB l rconB keepB || (decide (m ≠ 2) && decide (q = 2 ∨ q = 3 ∨ q = 8))) := by rw [saysB_app, saysB_one, n1, v2]
    have hi' := ih (i + 1) (l ++ [(⟨rdOf ByteArray.empty namsB (m : Int), rdOf ByteArray.empty valsB (q : Int)⟩ : S31)]) (by omega) (by simp; omega) (by
      intro x hx
      rcases List.mem_append.mp hx with h | h
      · exact hz x h
      · rw [List.mem_singleton] at h; subst h; exact ⟨by show (rdOf ByteArray.empty namsB (m : Int)).size ≤ 200; omega, by show (rdOf ByteArray.empty valsB (q : Int)).size ≤ 200; omega⟩)
    rw [g1, g2] at hi'
    by_cases h2 : m = 2
    · have n2' := of_decide_eq_true (n2.trans (decide_eq_true h2))
      rw [decide_eq_false (show ¬ (m ≠ 2) by omega), Bool.false_and, Bool.false_and, Bool.or_false, Bool.or_false] at hi'
      exact Ev.pos n2' (j3_ev h9 hi')
    have n2' := of_decide_eq_false (n2.trans (decide_eq_false h2))
    rw [decide_eq_true h2, Bool.true_and, Bool.true_and] at hi'
    refine Ev.neg n2' ?_
    generalize saysB l rconB closeB = b8 at hi' ⊢
    generalize saysB l rconB keepB = b9 at hi' ⊢
    cases b8 with
    | true => rw [Bool.true_or] at hi'; exact Ev.pos rfl (j2_ev h9 q hi')
    | false =>
      rw [Bool.false_or] at hi'
      refine Ev.neg (by simp) ?_
      by_cases q0 : q = 0
      · rw [decide_eq_true (by omega)] at hi'; exact Ev.pos (by omega) (j2_ev h9 q hi')
      by_cases q1 : q = 1
      · rw [decide_eq_true (show q = 0 ∨ q = 1 ∨ q = 6 ∨ q = 7 by omega)] at hi'; exact Ev.neg (by omega) (Ev.pos (by omega) (j2_ev h9 q hi'))
      by_cases q6 : q = 6
      · rw [decide_eq_true (show q = 0 ∨ q = 1 ∨ q = 6 ∨ q = 7 by omega)] at hi'; exact Ev.neg (by omega) (Ev.neg (by omega) (Ev.pos (by omega) (j2_ev h9 q hi')))
      refine Ev.neg (by omega) (Ev.neg (by omega) (Ev.neg (by omega) ?_))
      have e7 : decide (q = 0 ∨ q = 1 ∨ q = 6 ∨ q = 7) = ((q : Int) == 7) := by
        by_cases q7 : q = 7
        · rw [decide_eq_true (by omega), beq_iff_eq.mpr (show (q : Int) = 7 by omega)]
        · rw [decide_eq_false (by omega), beq_eq_false_iff_ne.mpr (show (q : Int) ≠ 7 by omega)]
      rw [e7] at hi'
      exact j2_ev h9 q hi'
theorem RecordCloses : parallaxlaw12_RecordCloses.Pure := by
  intro l0 a1 a2 _ _ hw h2
  refine Ev.rounds (g := fun k => parallaxlaw12_RecordCloses.f k l0 a1 a2) ?_
  obtain ⟨a, rfl⟩ : ∃ m : Nat, a2 = (m : Int) := ⟨a2.toNat, by have := u8_wf h2; omega⟩
  have ha : a < 256 := by have := u8_wf h2; omega
  unfold parallaxlaw12_RecordCloses.f
  refine Ev.bind known_ev (Ev.pos rfl ?_)
  by_cases c1 : (l0.length : Int) > 8
  · exact Ev.pos c1 (Ev.now _)
  refine Ev.neg c1 ?_
  cases a1 with
  | true => exact Ev.pos rfl (Ev.step (fun _ => parallaxlaw12_RecordCloses.j0.eq_2 ..) (closes_loop l0 hw (by omega) true a ha _ _ 0 rfl _ l0.length 0 [] (by omega) rfl (by simp)))
  | false => exact Ev.neg (by simp) (Ev.step (fun _ => parallaxlaw12_RecordCloses.j0.eq_2 ..) (closes_loop l0 hw (by omega) false a ha _ _ 1 rfl _ l0.length 0 [] (by omega) rfl (by simp)))
end Go.Proofs.YtomofacchnmepaaDoor.Pure
