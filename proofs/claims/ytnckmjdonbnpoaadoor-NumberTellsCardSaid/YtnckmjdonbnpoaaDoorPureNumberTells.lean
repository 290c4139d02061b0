/- It is proved that NumberTells answers true at every input: the program's numbers are the reference's, of any text, up to any greatest one. -/
import Derived.Test.YtnckmjdonbnpoaaDoorPNumberTellsx4
import Derived.Test.YtnckmjdonbnpoaaDoorTxtNumberTells
namespace Go.Proofs.YtnckmjdonbnpoaaDoor.Pure
open Go.RowKit Go.Proofs.YtnckmjdonbnpoaaDoor.PNumberTells Go.Proofs.YtnckmjdonbnpoaaDoorW.PrintWords Go.Proofs.YtnckmjdonbnpoaaDoorW.PrintLast Go.Proofs.YtnckmjdonbnpoaaDoor.Aid Go.Proofs.YtnckmjdonbnpoaaDoor.Parts

theorem known_true : Ev (fun k => parallaxlaw2_known.f k) true := by
  have d1 : Ev (fun k => number_Dec.f k (⟨#[48, 48, 55]⟩ : ByteArray) 9) (7, 0) := Ev.of (fun k => number_Dec.mono _ _ k) (k := 40) (by decide +kernel)
  have d2 : Ev (fun k => number_Dec.f k (⟨#[49, 48]⟩ : ByteArray) 9) (0, 23) := Ev.of (fun k => number_Dec.mono _ _ k) (k := 40) (by decide +kernel)
  have d3 : Ev (fun k => number_Dec.f k (⟨#[49, 97]⟩ : ByteArray) 99) (0, 22) := Ev.of (fun k => number_Dec.mono _ _ k) (k := 40) (by decide +kernel)
  have d4 : Ev (fun k => number_Hex.f k (⟨#[102, 70]⟩ : ByteArray) 255) (255, 0) := Ev.of (fun k => number_Hex.mono _ _ k) (k := 40) (by decide +kernel)
  unfold parallaxlaw2_known.f
  refine Ev.bind d1 (Ev.bind d2 (Ev.bind d3 (Ev.bind d4 (Ev.pos rfl (Ev.pos rfl (Ev.pos rfl (Ev.pos rfl (Ev.pos rfl (Ev.pos rfl ?_)))))))))
  refine Ev.val (put_some 120 (by omega)) (Ev.pos ?_ (Ev.val (puthex_some 255 (by omega)) ((Ev.now _).to ?_)))
  · have e : Lib.decDigits 120 = [49, 50, 48] := by
      rw [Lib.decDigits, dif_neg (by decide), Lib.decDigits, dif_neg (by decide), Lib.decDigits, dif_pos (by decide)]; rfl
    rw [ByteArray.toList_eq]
    show (Lib.decDigits 120) = _
    exact e
  · rw [ByteArray.toList_eq]; decide +kernel

def Good (x : ByteArray) : Prop := x.size < 1000
/-- one text against all the greatest ones, from the j-th on -/
theorem in_loop (x : ByteArray) (hx : Good x) (a2 a3 : Int) (l41 : List ByteArray) (n : Int) (i : Nat) (hi : i < 1000) (ms : List Int) (hms : ∀ m ∈ ms, m ≤ 9223372036854775807) (hl : ms.length ≤ 1000) (R : Bool)
    (hR : Ev (fun k => parallaxlaw2_NumberTells.l0 k a2 a3 l41 n ((i + 1 : Nat) : Int)) R) (d : Nat) : ∀ j : Nat, j + d = ms.length →
    Ev (fun k => parallaxlaw2_NumberTells.l1 k a2 a3 x l41 n (i : Int) ms (ms.length : Int) (j : Int)) R := by
  unfold Good at hx
  induction d with
  | zero =>
    intro j hj
    refine Ev.step (fun _ => parallaxlaw2_NumberTells.l1.eq_2 ..) (Ev.neg (by omega) ?_)
    rw [wrap_nat (by omega)]; exact hR
  | succ d ih =>
    intro j hj
    have hm := hms (rd ms (j : Int)) (by rw [rd_nat, List.getD_eq_getElem?_getD, List.getElem?_eq_getElem (by omega : j < ms.length)]; exact List.getElem_mem _)
    refine Ev.step (fun _ => parallaxlaw2_NumberTells.l1.eq_2 ..) (Ev.pos (by omega) (Ev.pos (by omega) (Ev.pos (by omega) ?_)))
    refine Ev.bind (dec_ev x _ hm (by omega)) (Ev.bind (rdec_ev x _ hm (by omega)) (Ev.bind (hexn_ev x _ hm (by omega)) (Ev.bind (rhexn_ev x _ hm (by omega)) ?_)))
    refine Ev.pos rfl (Ev.pos rfl (Ev.pos rfl (Ev.pos rfl ?_)))
    rw [wrap_nat (by omega)]
    exact ih (j + 1) (by omega)
theorem end_ev (a3 : Int) (h : a3 ≤ 9223372036854775807) : Ev (fun k => (number_Put.f a3).bind fun t176 => ((parallaxref1_Put.f k a3).bind fun t177 => (if t176.toList = t177.toList then ((number_PutHex.f a3).bind fun t178 => ((parallaxref1_PutHex.f k a3).bind fun t179 => (some (t178.toList == t179.toList)))) else (some false)))) true := by
  refine Ev.val (put_some a3 h) (Ev.bind (rPut_ev a3 h) (Ev.pos rfl (Ev.val (puthex_some a3 h) (Ev.bind (rPutHex_ev a3 h) ((Ev.now _).to ?_)))))
  exact beq_self_eq_true _
theorem out_loop (a2 a3 : Int) (h2 : -9223372036854775808 ≤ a2 ∧ a2 ≤ 9223372036854775807) (h3 : -9223372036854775808 ≤ a3 ∧ a3 ≤ 9223372036854775807) (l : List ByteArray) (hl : ∀ x ∈ l, Good x) (hlen : l.length < 1000) (d : Nat) : ∀ i : Nat, i + d = l.length →
    Ev (fun k => parallaxlaw2_NumberTells.l0 k a2 a3 l (l.length : Int) (i : Int)) true := by
  induction d with
  | zero =>
    intro i hi
    exact Ev.step (fun _ => parallaxlaw2_NumberTells.l0.eq_2 ..) (Ev.neg (by omega) (end_ev a3 h3.2))
  | succ d ih =>
    intro i hi
    refine Ev.step (fun _ => parallaxlaw2_NumberTells.l0.eq_2 ..) (Ev.pos (by omega) (Ev.pos (by omega) (Ev.pos (by omega) ?_)))
    refine Ev.val rfl ?_
    refine in_loop _ (hl _ (rdOf_mem l i (by omega))) a2 a3 l _ i (by omega) _ ?_ (by simp) true (ih (i + 1) (by omega)) 5 0 rfl
    intro m hm
    have hw : ∀ z : Int, wrap64 z ≤ 9223372036854775807 := fun z => by unfold wrap64; omega
    simp only [List.mem_cons, List.not_mem_nil, or_false] at hm
    rcases hm with rfl | rfl | rfl | rfl | rfl
    · exact h2.2
    · show IntKind.i64.wrap ((BitVec.ofInt 64 a2 &&& BitVec.ofInt 64 255).toNat : Nat) ≤ 9223372036854775807
      rw [IntKind.wrap_i64]; omega
    · exact h3.2
    · exact hw _
    · omega
theorem NumberTells : parallaxlaw2_NumberTells.Pure := by
  intro a0 l1 a2 a3 h0 h1 h1b hw1 h2 h3
  refine Ev.rounds (g := fun k => parallaxlaw2_NumberTells.f k a0 l1 a2 a3) ?_
  unfold parallaxlaw2_NumberTells.f
  have hi2 := i64_wf h2
  have hi3 := i64_wf h3
  refine Ev.bind known_true (Ev.pos rfl ?_)
  by_cases c0 : (a0.size : Int) > 60
  · exact Ev.pos c0 (Ev.now _)
  refine Ev.neg c0 ?_
  by_cases c1 : (l1.length : Int) > 12
  · exact Ev.pos c1 (Ev.now _)
  refine Ev.neg c1 ?_
  have hsz := some_size l1
  have hm0 : 0 ≤ mx a3 0 := by unfold mx; split <;> omega
  have hm1 : mx a3 0 ≤ 9223372036854775807 := by unfold mx; split <;> omega
  have hd := decB_size (mx a3 0).toNat (by omega)
  have hx := hexB_size (mx a3 0).toNat
  refine Ev.bind (some_ev l1 (by omega) (fun x hx => u8_wf (hw1 x hx))) (Ev.bind (rPut_ev a3 hi3.2) (Ev.bind (rPutHex_ev a3 hi3.2) (Ev.bind (rPut_ev a3 hi3.2) (Ev.pos (by omega) (Ev.val rfl ?_)))))
  refine out_loop a2 a3 hi2 hi3 _ ?_ (by simp) 5 0 rfl
  intro x hx
  unfold Good
  simp only [List.mem_cons, List.not_mem_nil, or_false] at hx
  rcases hx with rfl | rfl | rfl | rfl | rfl
  · omega
  · omega
  · omega
  · omega
  · rw [ByteArray.size_append]; show 28 + _ < 1000; omega

end Go.Proofs.YtnckmjdonbnpoaaDoor.Pure
