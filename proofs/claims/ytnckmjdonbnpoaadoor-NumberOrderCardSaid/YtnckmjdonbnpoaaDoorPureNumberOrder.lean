/- It is proved that NumberOrder answers true for every two numbers: of numbers as long the greater one's digits are greater, and a longer one is greater. -/
import Derived.Test.YtnckmjdonbnpoaaDoorPNumberOrderx2
import Derived.Test.YtnckmjdonbnpoaaDoorTxtNumberOrder
namespace Go.Proofs.YtnckmjdonbnpoaaDoor.Pure
open Go.RowKit Go.Proofs.YtnckmjdonbnpoaaDoor.PNumberOrder Go.Proofs.YtnckmjdonbnpoaaDoorW.PrintWords Go.Proofs.YtnckmjdonbnpoaaDoorW.PrintLast Go.Proofs.YtnckmjdonbnpoaaDoor.Aid Go.Proofs.YtnckmjdonbnpoaaDoor.Parts

theorem known_true : Ev (fun k => parallaxlaw2_known.f k) true := by
  have d1 : Ev (fun k => number_Dec.f k (⟨#[48, 48, 55]⟩ : ByteArray) 9) (7, 0) := Ev.of (fun k => number_Dec.mono _ _ k) (k := 40) (by decide +kernel)
  have d2 : Ev (fun k => number_Dec.f k (⟨#[49, 48]⟩ : ByteArray) 9) (0, 23) := Ev.of (fun k => number_Dec.mono _ _ k) (k := 40) (by decide +kernel)
  have d3 : Ev (fun k => number_Dec.f k (⟨#[49, 97]⟩ : ByteArray) 99) (0, 22) := Ev.of (fun k => number_Dec.mono _ _ k) (k := 40) (by decide +kernel)
  have d4 : Ev (fun k => number_Hex.f k (⟨#[102, 70]⟩ : ByteArray) 255) (255, 0) := Ev.of (fun k => number_Hex.mono _ _ k) (k := 40) (by decide +kernel)
  unfold parallaxlaw2_known.f
  refine Ev.bind d1 (Ev.bind d2 (Ev.bind d3 (Ev.bind d4 (Ev.pos rfl (Ev.pos rfl (Ev.pos rfl (Ev.pos rfl (Ev.pos rfl (Ev.pos rfl ?_)))))))))
  refine Ev.val (put_some 120 (by omega)) (Ev.pos ?_ (Ev.val (puthex_some 255 (by omega)) ((Ev.now _).to ?_)))
  · have e : Lib.decDigits 120 = [49, 50, 48] := by
      rw [Lib.decDigits, dif_neg (by decide), Lib.decDigits, dif_neg (by decide), Lib.decDigits, dif_pos (by decide)]; rfl
    rw [ByteArray.toList_eq]
    show (Lib.decDigits 120) = _
    exact e
  · rw [ByteArray.toList_eq]; decide +kernel
theorem dec_order (x y : Nat) : ((decB x).size < (decB y).size → x < y) ∧ ((decB y).size < (decB x).size → y < x) ∧ ((decB x).size = (decB y).size → Op.bytesLess (decB x).toList (decB y).toList = decide ((x : Int) < (y : Int))) ∧ 0 < (decB x).size := by
  have h := order (b := 10) (by omega) S10 s10_range (fun u v h h' => s16_lt u v (S10_16 h) (S10_16 h')) (fun u v h h' => s16_inj u v (S10_16 h) (S10_16 h')) (decB x) (decB y) x y (by rw [decB_list]; exact dec_canon x) (by rw [decB_list]; exact dec_canon y) (by rw [decB_list]; exact dec_S x) (by rw [decB_list]; exact dec_S y) (by rw [decB_list]; exact dec_val x) (by rw [decB_list]; exact dec_val y)
  exact ⟨fun k => by have := h.1 k; omega, fun k => by have := h.2.1 k; omega, h.2.2.1, h.2.2.2⟩
theorem hex_order (x y : Nat) (hx : x < 9223372036854775808) (hy : y < 9223372036854775808) : ((Hex.hexB x).size < (Hex.hexB y).size → x < y) ∧ ((Hex.hexB y).size < (Hex.hexB x).size → y < x) ∧ ((Hex.hexB x).size = (Hex.hexB y).size → Op.bytesLess (Hex.hexB x).toList (Hex.hexB y).toList = decide ((x : Int) < (y : Int))) ∧ 0 < (Hex.hexB x).size := by
  have h := order (b := 16) (by omega) S16 s16_range s16_lt s16_inj (Hex.hexB x) (Hex.hexB y) x y (by rw [hexB_list]; exact hexU_canon 16 x (by omega)) (by rw [hexB_list]; exact hexU_canon 16 y (by omega)) (by rw [hexB_list]; exact hexU_S 17 x) (by rw [hexB_list]; exact hexU_S 17 y) (by rw [hexB_list]; exact hexU_val 16 x (by omega)) (by rw [hexB_list]; exact hexU_val 16 y (by omega))
  exact ⟨fun k => by have := h.1 k; omega, fun k => by have := h.2.1 k; omega, h.2.2.1, h.2.2.2⟩

theorem NumberOrder : parallaxlaw2_NumberOrder.Pure := by
  intro a0 a1 h0 h1
  refine Ev.rounds (g := fun k => parallaxlaw2_NumberOrder.f k a0 a1) ?_
  unfold parallaxlaw2_NumberOrder.f
  have hi := i64_wf h0
  have hj := i64_wf h1
  have hx0 : 0 ≤ mx a0 0 := by unfold mx; split <;> omega
  have hx1 : mx a0 0 ≤ 9223372036854775807 := by unfold mx; split <;> omega
  have hy0 : 0 ≤ mx a1 0 := by unfold mx; split <;> omega
  have hy1 : mx a1 0 ≤ 9223372036854775807 := by unfold mx; split <;> omega
  have hmm : ∀ y : Int, 0 ≤ y → mx y 0 = y := by intro y hy; unfold mx; rw [if_neg (by omega)]
  generalize mx a0 0 = x at hx0 hx1 ⊢
  generalize mx a1 0 = y at hy0 hy1 ⊢
  have p1 := put_some x hx1
  have p2 := put_some y hy1
  have p3 := puthex_some x hx1
  have p4 := puthex_some y hy1
  rw [hmm x hx0] at p1 p3
  rw [hmm y hy0] at p2 p4
  refine Ev.bind known_true (Ev.pos rfl (Ev.val p1 (Ev.val p2 (Ev.val p3 (Ev.val p4 ?_)))))
  obtain ⟨n, rfl⟩ : ∃ n : Nat, x = (n : Int) := ⟨x.toNat, (Int.toNat_of_nonneg hx0).symm⟩
  obtain ⟨m, rfl⟩ : ∃ m : Nat, y = (m : Int) := ⟨y.toNat, (Int.toNat_of_nonneg hy0).symm⟩
  simp only [Int.toNat_natCast]
  obtain ⟨A1, A2, A3, A4⟩ := dec_order n m
  obtain ⟨B1, B2, B3, B4⟩ := hex_order n m (by omega) (by omega)
  generalize decB n = s at A1 A2 A3 A4 ⊢
  generalize decB m = t at A1 A2 A3 ⊢
  refine Ev.some_ ?_
  clear p1 p2 p3 p4 hmm h0 h1 hi hj
  have g1 : (s.size : Int) > 0 := by omega
  have g2 : decide (((Hex.hexB n).size : Int) > 0) = true := decide_eq_true (by omega)
  rcases Nat.lt_trichotomy s.size t.size with h | h | h
  · have hlt := A1 h
    have e1 : (s.size : Int) < (t.size : Int) := by omega
    have e2 : ((decide ((n : Int) < (m : Int))) == true) = true := by rw [decide_eq_true (by omega)]; rfl
    rw [if_pos e1]
    rcases Nat.lt_trichotomy (Hex.hexB n).size (Hex.hexB m).size with k | k | k
    · rw [if_pos (by omega), if_pos e2, if_pos g1, g2]
    · rw [if_neg (by omega), if_pos (by omega), if_pos e2, if_pos (by rw [B3 k]; exact beq_self_eq_true _), if_pos g1, g2]
    · have := B2 k; omega
  · have e1 : ¬ (s.size : Int) < (t.size : Int) := by omega
    have e2 : ((decide ((n : Int) < (m : Int))) == (Op.bytesLess s.toList t.toList)) = true := by rw [A3 h]; exact beq_self_eq_true _
    rw [if_neg e1, if_pos (by omega)]
    rcases Nat.lt_trichotomy (Hex.hexB n).size (Hex.hexB m).size with k | k | k
    · have := B1 k
      rw [if_pos (by omega), if_pos e2, if_pos (by rw [decide_eq_true (by omega)]; rfl), if_pos g1, g2]
    · rw [if_neg (by omega), if_pos (by omega), if_pos e2, if_pos (by rw [B3 k]; exact beq_self_eq_true _), if_pos g1, g2]
    · have := B2 k
      rw [if_neg (by omega), if_neg (by omega), if_pos e2, if_pos (by rw [decide_eq_false (by omega)]; rfl), if_pos g1, g2]
  · have hlt := A2 h
    have e2 : ((decide ((n : Int) < (m : Int))) == false) = true := by rw [decide_eq_false (by omega)]; rfl
    rw [if_neg (by omega), if_neg (by omega)]
    rcases Nat.lt_trichotomy (Hex.hexB n).size (Hex.hexB m).size with k | k | k
    · have := B1 k; omega
    · rw [if_neg (by omega), if_pos (by omega), if_pos e2, if_pos (by rw [B3 k]; exact beq_self_eq_true _), if_pos g1, g2]
    · rw [if_neg (by omega), if_neg (by omega), if_pos e2, if_pos g1, g2]

end Go.Proofs.YtnckmjdonbnpoaaDoor.Pure
