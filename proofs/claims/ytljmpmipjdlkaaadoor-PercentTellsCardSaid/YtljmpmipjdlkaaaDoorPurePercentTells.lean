/- It is proved that PercentTells answers true at every input: each path in the one way to write it, its segments, its bytes, the program and the document tell alike. -/
import Derived.Test.YtljmpmipjdlkaaaDoorPPercentTellsx9
import Derived.Test.YtljmpmipjdlkaaaDoorTxtPercentTells
namespace Go.Proofs.YtljmpmipjdlkaaaDoor.Pure
open Go.RowKit Go.Proofs.YtljmpmipjdlkaaaDoor.PPercentTells Go.Proofs.YtljmpmipjdlkaaaDoorW.PrintWords Go.Proofs.YtljmpmipjdlkaaaDoorW.PrintLast Go.Proofs.YtljmpmipjdlkaaaDoorW.PrintMore Go.Proofs.YtljmpmipjdlkaaaDoor.Aid Go.Proofs.YtljmpmipjdlkaaaDoor.Parts
set_option linter.unusedVariables false
set_option linter.unusedSimpArgs false

def nilT : ByteArray := ⟨#[]⟩
def hv (c : Int) : Int := ((octet_Hex.f c).getD (0, false)).1
theorem hv_tab : ∀ n : Fin 256, octet_Hex.f (n.val : Int) = some (hv (n.val : Int), ((octet_Hex.f (n.val : Int)).getD (0, false)).2) ∧ 0 ≤ hv (n.val : Int) ∧ hv (n.val : Int) ≤ 15 := by decide +kernel
theorem hv_at {c : Int} (h : 0 ≤ c ∧ c < 256) : (∃ b, octet_Hex.f c = some (hv c, b)) ∧ 0 ≤ hv c ∧ hv c ≤ 15 := by
  obtain ⟨h1, h2⟩ := byte_all (p := fun c => octet_Hex.f c = some (hv c, ((octet_Hex.f c).getD (0, false)).2) ∧ 0 ≤ hv c ∧ hv c ≤ 15) hv_tab h.1 h.2
  exact ⟨⟨_, h1⟩, h2⟩
def rhv (c : Int) : Int := ((parallaxref1_Hex.f 4 c).getD (0, false)).1
theorem rhv_tab : ∀ n : Fin 256, parallaxref1_Hex.f 4 (n.val : Int) = some (rhv (n.val : Int), ofB (n.val : Int) 5) ∧ 0 ≤ rhv (n.val : Int) ∧ rhv (n.val : Int) ≤ 15 ∧ (ofB (n.val : Int) 5 = true → rhv (n.val : Int) = hv (n.val : Int)) := by decide +kernel
theorem rhv_at {c : Int} (h : 0 ≤ c ∧ c < 256) : Ev (fun k => parallaxref1_Hex.f k c) (rhv c, ofB c 5) ∧ 0 ≤ rhv c ∧ rhv c ≤ 15 ∧ (ofB c 5 = true → rhv c = hv c) := by
  obtain ⟨h1, h2⟩ := byte_all (p := fun c => parallaxref1_Hex.f 4 c = some (rhv c, ofB c 5) ∧ 0 ≤ rhv c ∧ rhv c ≤ 15 ∧ (ofB c 5 = true → rhv c = hv c)) rhv_tab h.1 h.2
  exact ⟨Ev.of (fun k => parallaxref1_Hex.mono _ k) h1, h2⟩
/-- texts of bytes -/
theorem nums_app (a b : List Int) : strOfNums (a ++ b) = strOfNums a ++ strOfNums b := by
  apply ba_inj
  rw [data_app, strOfNums_data, strOfNums_data, strOfNums_data, List.map_append]
theorem nums_size (a : List Int) : (strOfNums a).size = a.length := by
  rw [← data_length, strOfNums_data, List.length_map]
theorem nums_nil : strOfNums [] = (⟨#[]⟩ : ByteArray) := by
  apply ba_inj
  rw [strOfNums_data]; rfl
theorem bytes_ext (s : ByteArray) (i : Nat) : bytesOf (s.extract i s.size) = (bytesOf s).drop i := by
  unfold bytesOf
  rw [ext_data, List.take_of_length_le (by rw [List.length_drop, data_length]; exact Nat.le_refl _), List.map_drop]
theorem bt_ext (s : ByteArray) (i j : Nat) : bt (s.extract i s.size) (j : Int) = bt s ((i + j : Nat) : Int) := by
  rw [← Trim.bytes_getD, ← Trim.bytes_getD, bytes_ext, List.getD_eq_getElem?_getD, List.getElem?_drop, List.getD_eq_getElem?_getD]
theorem two_bytes (s : ByteArray) (i : Nat) (h : i + 1 < s.size) : bytesOf (s.extract i (i + 2)) = [bt s (i : Int), bt s ((i + 1 : Nat) : Int)] := by
  have e : bytesOf (s.extract i (i + 2)) = ((bytesOf s).drop i).take 2 := by
    unfold bytesOf; rw [ext_data, show i + 2 - i = 2 by omega, List.map_take, List.map_drop]
  rw [e, drop_bytes s i (by omega), drop_bytes s (i + 1) (by omega)]; rfl
/-- a text whose triples are written otherwise -/
def turnL (P : Int → List Int) : List Int → Option (List Int)
  | [] => some []
  | [c] => if c = 37 then none else some [c]
  | [c, a] => if c = 37 then none else if a = 37 then none else some [c, a]
  | c :: a :: b :: r => if c = 37 then (if (ofB a 5 && ofB b 5) = true then (turnL P r).map (P (hv a * 16 + hv b) ++ ·) else none) else (turnL P (a :: b :: r)).map (c :: ·)
theorem turn_plain (P : Int → List Int) {c : Int} (h : c ≠ 37) (l : List Int) : turnL P (c :: l) = (turnL P l).map (c :: ·) := by
  cases l with
  | nil => simp [turnL, h]
  | cons a l => cases l with
    | nil =>
      by_cases ha : a = 37
      · simp [turnL, h, ha]
      · simp [turnL, h, ha]
    | cons b l => simp [turnL, h]
theorem turn_pct (P : Int → List Int) (a b : Int) (r : List Int) : turnL P (37 :: a :: b :: r) = if (ofB a 5 && ofB b 5) = true then (turnL P r).map (P (hv a * 16 + hv b) ++ ·) else none := by simp [turnL]
theorem turn_short (P : Int → List Int) (l : List Int) (hl : l.length < 2) : turnL P (37 :: l) = none := by
  cases l with
  | nil => simp [turnL]
  | cons a l => cases l with
    | nil => simp [turnL]
    | cons b l => simp at hl; omega
/-- what the triple's reader says -/
theorem triple_ev (s : ByteArray) (hs : s.size ≤ 1000000) (i : Nat) (hi : i < s.size) : Ev (fun k => percent_triple.f k (s.extract i s.size)) (if i + 2 < s.size ∧ (ofB (bt s ((i + 1 : Nat) : Int)) 5 && ofB (bt s ((i + 2 : Nat) : Int)) 5) = true then (hv (bt s ((i + 1 : Nat) : Int)) * 16 + hv (bt s ((i + 2 : Nat) : Int)), true) else (0, false)) := by
  have hz : (s.extract i s.size).size = s.size - i := by rw [ByteArray.size_extract]; omega
  have b1 : bt (s.extract i s.size) 1 = bt s ((i + 1 : Nat) : Int) := bt_ext s i 1
  have b2 : bt (s.extract i s.size) 2 = bt s ((i + 2 : Nat) : Int) := bt_ext s i 2
  have r1 := bt_lt s ((i + 1 : Nat) : Int)
  have r2 := bt_lt s ((i + 2 : Nat) : Int)
  unfold percent_triple.f
  by_cases h3 : i + 2 < s.size
  · have hall : allB ((s.extract i s.size).extract 1 3) [5] = (ofB (bt s ((i + 1 : Nat) : Int)) 5 && ofB (bt s ((i + 2 : Nat) : Int)) 5) := by
      unfold allB
      rw [two_bytes (s.extract i s.size) 1 (by omega)]
      show (_ && (_ && _)) = _
      rw [show bt (s.extract i s.size) ((1 : Nat) : Int) = bt s ((i + 1 : Nat) : Int) from b1, show bt (s.extract i s.size) ((1 + 1 : Nat) : Int) = bt s ((i + 2 : Nat) : Int) from b2]
      simp
    refine Ev.neg (by omega) (Ev.pos (by decide) (Ev.pos (by omega) (Ev.bind (own_ev _ [5] (by decide) (by rw [ByteArray.size_extract]; omega)) ?_)))
    rw [hall]
    cases ho : (ofB (bt s ((i + 1 : Nat) : Int)) 5 && ofB (bt s ((i + 2 : Nat) : Int)) 5) with
    | true =>
      rw [if_pos ⟨h3, rfl⟩]
      obtain ⟨⟨q1, e1⟩, x1, y1⟩ := hv_at r1
      obtain ⟨⟨q2, e2⟩, x2, y2⟩ := hv_at r2
      rw [← b1] at e1
      rw [← b2] at e2
      refine Ev.step (fun _ => percent_triple.j0.eq_2 ..) (Ev.neg (by simp) (Ev.pos (by omega) (Ev.val e1 (Ev.pos (by omega) (Ev.val e2 ((Ev.now _).to ?_))))))
      rw [b1, b2] at *
      have w1 : wrap64 (hv (bt s ((i + 1 : Nat) : Int)) * 16) = hv (bt s ((i + 1 : Nat) : Int)) * 16 := wrap_in (by omega) (by omega)
      rw [w1, wrap_in (by omega) (by omega), Int.emod_eq_of_lt (by omega) (by omega)]
    | false =>
      rw [if_neg (fun e => by cases e.2)]
      exact Ev.step (fun _ => percent_triple.j0.eq_2 ..) (Ev.pos rfl (Ev.now _))
  · rw [if_neg (fun e => h3 e.1)]
    exact Ev.pos (by omega) (Ev.step (fun _ => percent_triple.j0.eq_2 ..) (Ev.pos rfl (Ev.now _)))
def resA (acc : List Int) (o : Option (List Int)) : ByteArray × Bool := match o with
  | some l => (strOfNums (acc ++ l), true)
  | none => (⟨#[]⟩, false)
theorem resA_map (acc p : List Int) (o : Option (List Int)) : resA acc (o.map (p ++ ·)) = resA (acc ++ p) o := by
  cases o with
  | none => rfl
  | some l => simp [resA]
theorem resA_cons (acc : List Int) (c : Int) (o : Option (List Int)) : resA acc (o.map (c :: ·)) = resA (acc ++ [c]) o := by
  cases o with
  | none => rfl
  | some l => simp [resA]
theorem drop3 (s : ByteArray) (i : Nat) (h : i + 2 < s.size) : (bytesOf s).drop i = bt s (i : Int) :: bt s ((i + 1 : Nat) : Int) :: bt s ((i + 2 : Nat) : Int) :: (bytesOf s).drop (i + 3) := by
  rw [drop_bytes s i (by omega), drop_bytes s (i + 1) (by omega), drop_bytes s (i + 1 + 1) (by omega)]
/-- may a byte stand for itself? -/
def letterR (c : Int) : Bool := (parallaxref1_Letter.f c).getD false
def digitR (c : Int) : Bool := (parallaxref1_Digit.f c).getD false
theorem letterR_some (c : Int) : parallaxref1_Letter.f c = some (letterR c) := by
  unfold letterR parallaxref1_Letter.f
  repeat' split
  all_goals rfl
theorem digitR_some (c : Int) : parallaxref1_Digit.f c = some (digitR c) := by
  unfold digitR parallaxref1_Digit.f
  split <;> rfl
def freeB (c : Int) : Bool := letterR c || (digitR c || (decide (c = 45) || (decide (c = 46) || (decide (c = 95) || (c == 126)))))
def digT : ByteArray := ⟨#[48, 49, 50, 51, 52, 53, 54, 55, 56, 57, 65, 66, 67, 68, 69, 70]⟩
def normL (c : Int) : List Int := if freeB c = true then [c] else [37, bt digT (c / 16), bt digT (c % 16)]
theorem norm_tab : ∀ n : Fin 256, percent_norm.f (n.val : Int) = some (strOfNums (normL (n.val : Int))) := by decide +kernel
theorem norm_some {c : Int} (h0 : 0 ≤ c) (h1 : c < 256) : percent_norm.f c = some (strOfNums (normL c)) ∧ (normL c).length ≤ 3 := by
  refine ⟨byte_all (p := fun c => percent_norm.f c = some (strOfNums (normL c))) norm_tab h0 h1, ?_⟩
  unfold normL
  split <;> simp
def oneL (c : Int) : List Int := [c]
theorem one_some {c : Int} (h0 : 0 ≤ c) (h1 : c < 256) : percent_Decode_1.f c = some (strOfNums (oneL c)) ∧ (oneL c).length ≤ 3 := ⟨rfl, by simp [oneL]⟩
theorem percent_norm_turned_ev (s : ByteArray) (hs : s.size ≤ 1000000) (d : Nat) : ∀ (i : Nat) (acc : List Int), i + d = s.size → acc.length ≤ 3 * i → Ev (fun k => percent_norm_turned.l0 k s (strOfNums acc) i) (resA acc (turnL normL ((bytesOf s).drop i))) := by
  induction d using Nat.strongRecOn with
  | ind d ih =>
    intro i acc hi ha
    have hz := nums_size acc
    refine Ev.step (fun _ => percent_norm_turned.l0.eq_2 ..) (Ev.pos (by omega) ?_)
    by_cases hd : d = 0
    · refine Ev.neg (by omega) ((Ev.now _).to ?_)
      rw [List.drop_of_length_le (by rw [bytesOf_length]; omega)]
      simp [turnL, resA]
    · refine Ev.pos (by omega) ?_
      by_cases h37 : bt s (i : Int) = 37
      · refine Ev.pos h37 (Ev.bind (triple_ev s hs i (by omega)) ?_)
        by_cases h3 : i + 2 < s.size
        · rw [drop3 s i h3, h37, turn_pct]
          cases ho : (ofB (bt s ((i + 1 : Nat) : Int)) 5 && ofB (bt s ((i + 2 : Nat) : Int)) 5) with
          | true =>
            rw [if_pos ⟨h3, rfl⟩, if_pos rfl, resA_map]
            have r1 := (hv_at (bt_lt s ((i + 1 : Nat) : Int))).2
            have r2 := (hv_at (bt_lt s ((i + 2 : Nat) : Int))).2
            have hp := norm_some (c := hv (bt s ((i + 1 : Nat) : Int)) * 16 + hv (bt s ((i + 2 : Nat) : Int))) (by omega) (by omega)
            have hn := ih (d - 3) (by omega) (i + 3) (acc ++ normL (hv (bt s ((i + 1 : Nat) : Int)) * 16 + hv (bt s ((i + 2 : Nat) : Int)))) (by omega) (by rw [List.length_append]; have := hp.2; omega)
            rw [nums_app] at hn
            exact Ev.pos rfl (Ev.val hp.1 (Ev.pos ⟨by omega, by rw [nums_size]; have := hp.2; omega⟩ hn))
          | false =>
            rw [if_neg (fun e => by cases e.2), if_neg (by simp)]
            exact Ev.neg (by simp) (Ev.now _)
        · rw [drop_bytes s i (by omega), h37, turn_short _ _ (by rw [List.length_drop, bytesOf_length]; omega), if_neg (fun e => h3 e.1)]
          exact Ev.neg (by simp) (Ev.now _)
      · rw [drop_bytes s i (by omega), turn_plain _ h37, resA_cons]
        have hn := ih (d - 1) (by omega) (i + 1) (acc ++ [bt s (i : Int)]) (by omega) (by rw [List.length_append]; show _ + 1 ≤ _; omega)
        rw [nums_app] at hn
        exact Ev.neg h37 hn
theorem percent_norm_turned_all (s : ByteArray) (hs : s.size ≤ 1000000) : Ev (fun k => percent_norm_turned.f k s) (resA [] (turnL normL (bytesOf s))) := by
  unfold percent_norm_turned.f
  have := percent_norm_turned_ev s hs s.size 0 [] (by omega) (by simp)
  rw [nums_nil, List.drop_zero] at this
  exact Ev.pos (by omega) this
theorem percent_Decode_1_turned_ev (s : ByteArray) (hs : s.size ≤ 1000000) (d : Nat) : ∀ (i : Nat) (acc : List Int), i + d = s.size → acc.length ≤ 3 * i → Ev (fun k => percent_Decode_1_turned.l0 k s (strOfNums acc) i) (resA acc (turnL oneL ((bytesOf s).drop i))) := by
  induction d using Nat.strongRecOn with
  | ind d ih =>
    intro i acc hi ha
    have hz := nums_size acc
    refine Ev.step (fun _ => percent_Decode_1_turned.l0.eq_2 ..) (Ev.pos (by omega) ?_)
    by_cases hd : d = 0
    · refine Ev.neg (by omega) ((Ev.now _).to ?_)
      rw [List.drop_of_length_le (by rw [bytesOf_length]; omega)]
      simp [turnL, resA]
    · refine Ev.pos (by omega) ?_
      by_cases h37 : bt s (i : Int) = 37
      · refine Ev.pos h37 (Ev.bind (triple_ev s hs i (by omega)) ?_)
        by_cases h3 : i + 2 < s.size
        · rw [drop3 s i h3, h37, turn_pct]
          cases ho : (ofB (bt s ((i + 1 : Nat) : Int)) 5 && ofB (bt s ((i + 2 : Nat) : Int)) 5) with
          | true =>
            rw [if_pos ⟨h3, rfl⟩, if_pos rfl, resA_map]
            have r1 := (hv_at (bt_lt s ((i + 1 : Nat) : Int))).2
            have r2 := (hv_at (bt_lt s ((i + 2 : Nat) : Int))).2
            have hp := one_some (c := hv (bt s ((i + 1 : Nat) : Int)) * 16 + hv (bt s ((i + 2 : Nat) : Int))) (by omega) (by omega)
            have hn := ih (d - 3) (by omega) (i + 3) (acc ++ oneL (hv (bt s ((i + 1 : Nat) : Int)) * 16 + hv (bt s ((i + 2 : Nat) : Int)))) (by omega) (by rw [List.length_append]; have := hp.2; omega)
            rw [nums_app] at hn
            exact Ev.pos rfl (Ev.val hp.1 (Ev.pos ⟨by omega, by rw [nums_size]; have := hp.2; omega⟩ hn))
          | false =>
            rw [if_neg (fun e => by cases e.2), if_neg (by simp)]
            exact Ev.neg (by simp) (Ev.now _)
        · rw [drop_bytes s i (by omega), h37, turn_short _ _ (by rw [List.length_drop, bytesOf_length]; omega), if_neg (fun e => h3 e.1)]
          exact Ev.neg (by simp) (Ev.now _)
      · rw [drop_bytes s i (by omega), turn_plain _ h37, resA_cons]
        have hn := ih (d - 1) (by omega) (i + 1) (acc ++ [bt s (i : Int)]) (by omega) (by rw [List.length_append]; show _ + 1 ≤ _; omega)
        rw [nums_app] at hn
        exact Ev.neg h37 hn
theorem percent_Decode_1_turned_all (s : ByteArray) (hs : s.size ≤ 1000000) : Ev (fun k => percent_Decode_1_turned.f k s) (resA [] (turnL oneL (bytesOf s))) := by
  unfold percent_Decode_1_turned.f
  have := percent_Decode_1_turned_ev s hs s.size 0 [] (by omega) (by simp)
  rw [nums_nil, List.drop_zero] at this
  exact Ev.pos (by omega) this
/-- the document's reader of a triple -/
theorem two_ev (s : ByteArray) (hs : s.size ≤ 1000000) (i : Nat) (hi : i < s.size) : ∃ c, Ev (fun k => parallaxref19_two.f k s (i : Int)) (c, decide (i + 2 < s.size) && (ofB (bt s ((i + 1 : Nat) : Int)) 5 && ofB (bt s ((i + 2 : Nat) : Int)) 5)) ∧ ((ofB (bt s ((i + 1 : Nat) : Int)) 5 && ofB (bt s ((i + 2 : Nat) : Int)) 5) = true → i + 2 < s.size → c = hv (bt s ((i + 1 : Nat) : Int)) * 16 + hv (bt s ((i + 2 : Nat) : Int))) := by
  have hw : wrap64 ((s.size : Int) - (i : Int)) = ((s.size - i : Nat) : Int) := by rw [wrap_in (by omega) (by omega)]; omega
  have hw1 : wrap64 ((i : Int) + 1) = ((i + 1 : Nat) : Int) := wrap_nat (by omega)
  have hw2 : wrap64 ((i : Int) + 2) = ((i + 2 : Nat) : Int) := by rw [wrap_in (by omega) (by omega)]; omega
  unfold parallaxref19_two.f
  rw [hw, hw1, hw2]
  by_cases h3 : i + 2 < s.size
  · obtain ⟨e1, x1, y1, z1⟩ := rhv_at (bt_lt s ((i + 1 : Nat) : Int))
    obtain ⟨e2, x2, y2, z2⟩ := rhv_at (bt_lt s ((i + 2 : Nat) : Int))
    have v1 : wrap64 (16 * rhv (bt s ((i + 1 : Nat) : Int))) = 16 * rhv (bt s ((i + 1 : Nat) : Int)) := wrap_in (by omega) (by omega)
    refine ⟨16 * rhv (bt s ((i + 1 : Nat) : Int)) + rhv (bt s ((i + 2 : Nat) : Int)), Ev.neg (by omega) (Ev.pos (Int.natCast_nonneg _) (Ev.pos (by omega) (Ev.bind e1 (Ev.pos (Int.natCast_nonneg _) (Ev.pos (by omega) (Ev.bind e2 ?_)))))), fun h _ => ?_⟩
    · rw [v1, wrap_in (by omega) (by omega), Int.emod_eq_of_lt (by omega) (by omega), decide_eq_true h3, Bool.true_and]
      cases ofB (bt s ((i + 1 : Nat) : Int)) 5 with
      | true => exact Ev.pos rfl ((Ev.now _).to (by simp))
      | false => exact Ev.neg (by simp) ((Ev.now _).to (by simp))
    · rw [Bool.and_eq_true] at h
      rw [z1 h.1, z2 h.2]; omega
  · refine ⟨0, Ev.pos (by omega) ((Ev.now _).to ?_), fun _ h => absurd h h3⟩
    rw [decide_eq_false h3, Bool.false_and]
theorem rdecode_ev (s : ByteArray) (hs : s.size ≤ 1000000) (d : Nat) : ∀ (i : Nat) (acc : List Int), i + d = s.size → acc.length ≤ i → Ev (fun k => parallaxref19_Decode.l0 k s acc (i : Int)) (resA acc (turnL oneL ((bytesOf s).drop i))) := by
  induction d using Nat.strongRecOn with
  | ind d ih =>
    intro i acc hi ha
    by_cases hd : d = 0
    · refine Ev.step (fun _ => parallaxref19_Decode.l0.eq_2 ..) (Ev.neg (by omega) ((Ev.now _).to ?_))
      rw [List.drop_of_length_le (by rw [bytesOf_length]; omega)]
      simp [turnL, resA]
    · have hw2 : wrap64 ((i : Int) + 2) = ((i + 2 : Nat) : Int) := by rw [wrap_in (by omega) (by omega)]; omega
      have hw3 : wrap64 (((i + 2 : Nat) : Int) + 1) = ((i + 3 : Nat) : Int) := wrap_nat (by omega)
      refine Ev.step (fun _ => parallaxref19_Decode.l0.eq_2 ..) (Ev.pos (by omega) (Ev.pos (Int.natCast_nonneg _) ?_))
      rw [hw2, hw3, wrap_nat (by omega)]
      by_cases h37 : bt s (i : Int) = 37
      · obtain ⟨c, hc, hv_⟩ := two_ev s hs i (by omega)
        refine Ev.pos h37 (Ev.bind hc ?_)
        by_cases h3 : i + 2 < s.size
        · rw [drop3 s i h3, h37, turn_pct, decide_eq_true h3, Bool.true_and]
          cases ho : (ofB (bt s ((i + 1 : Nat) : Int)) 5 && ofB (bt s ((i + 2 : Nat) : Int)) 5) with
          | true =>
            rw [if_pos rfl, resA_map, ← hv_ ho h3]
            exact Ev.pos rfl (Ev.pos (by omega) (ih (d - 3) (by omega) (i + 3) (acc ++ [c]) (by omega) (by rw [List.length_append]; show _ + 1 ≤ _; omega)))
          | false =>
            rw [if_neg (by simp)]
            exact Ev.neg (by simp) (Ev.now _)
        · rw [drop_bytes s i (by omega), h37, turn_short _ _ (by rw [List.length_drop, bytesOf_length]; omega), decide_eq_false h3, Bool.false_and]
          exact Ev.neg (by simp) (Ev.now _)
      · rw [drop_bytes s i (by omega), turn_plain _ h37, resA_cons]
        exact Ev.neg h37 (Ev.pos (by omega) (ih (d - 1) (by omega) (i + 1) (acc ++ [bt s (i : Int)]) (by omega) (by rw [List.length_append]; show _ + 1 ≤ _; omega)))
/-- segments without dots -/
def stackB (st : List ByteArray) (s : ByteArray) : List ByteArray := if s.toList = ([46, 46] : List UInt8) then st.take (st.length - 1) else if s.toList = ([46] : List UInt8) then st else st ++ [s]
def isDot (s : ByteArray) : Bool := decide (s.toList = ([46, 46] : List UInt8) ∨ s.toList = ([46] : List UInt8))
def foldB (l : List ByteArray) : List ByteArray := l.foldl stackB []
def dotsB (l : List ByteArray) : List ByteArray := if l.getLast?.any isDot = true then foldB l ++ [nilT] else if (foldB l).length = 0 then foldB l ++ [nilT] else foldB l
theorem foldB_snoc (l : List ByteArray) (s : ByteArray) : foldB (l ++ [s]) = stackB (foldB l) s := by unfold foldB; rw [List.foldl_append]; rfl
theorem stack_len (st : List ByteArray) (s : ByteArray) : (stackB st s).length ≤ st.length + 1 := by
  unfold stackB
  split
  · rw [List.length_take]; omega
  · split
    · omega
    · rw [List.length_append]; exact Nat.le_refl _
theorem fold_len (l : List ByteArray) : (foldB l).length ≤ l.length := by
  suffices h : ∀ st : List ByteArray, (l.foldl stackB st).length ≤ st.length + l.length by have := h []; unfold foldB; simpa using this
  induction l with
  | nil => intro st; exact Nat.le_refl _
  | cons s l ih =>
    intro st
    have h1 := ih (stackB st s)
    have h2 := stack_len st s
    rw [List.foldl_cons, List.length_cons]; omega
theorem stack_mem {st : List ByteArray} {s x : ByteArray} (h : x ∈ stackB st s) : x ∈ st ∨ x = s := by
  unfold stackB at h
  split at h
  · exact .inl (List.mem_of_mem_take h)
  · split at h
    · exact .inl h
    · rcases List.mem_append.mp h with h | h
      · exact .inl h
      · exact .inr (by simpa using h)
theorem fold_mem (l : List ByteArray) : ∀ x ∈ foldB l, x ∈ l := by
  suffices h : ∀ st : List ByteArray, ∀ x ∈ l.foldl stackB st, x ∈ st ∨ x ∈ l by
    intro x hx
    rcases h [] x hx with h | h
    · cases h
    · exact h
  induction l with
  | nil => intro st x hx; exact .inl hx
  | cons s l ih =>
    intro st x hx
    rw [List.foldl_cons] at hx
    rcases ih _ x hx with h | h
    · rcases stack_mem h with h | h
      · exact .inl h
      · exact .inr (by simp [h])
    · exact .inr (by simp [h])
theorem dots_mem (l : List ByteArray) : ∀ x ∈ dotsB l, x ∈ l ∨ x = nilT := by
  intro x hx
  unfold dotsB at hx
  split at hx
  · rcases List.mem_append.mp hx with h | h
    · exact .inl (fold_mem l x h)
    · exact .inr (by simpa using h)
  · split at hx
    · rcases List.mem_append.mp hx with h | h
      · exact .inl (fold_mem l x h)
      · exact .inr (by simpa using h)
    · exact .inl (fold_mem l x hx)
theorem dots_len (l : List ByteArray) : (dotsB l).length ≤ l.length + 1 ∧ 0 < (dotsB l).length := by
  have := fold_len l
  unfold dotsB
  split
  · rw [List.length_append]; exact ⟨by show _ + 1 ≤ _; omega, by show 0 < _ + 1; omega⟩
  · split
    · rw [List.length_append]; exact ⟨by show _ + 1 ≤ _; omega, by show 0 < _ + 1; omega⟩
    · exact ⟨by omega, by omega⟩
theorem take_snoc (l : List ByteArray) (i : Nat) (h : i < l.length) : l.take (i + 1) = l.take i ++ [rdOf ByteArray.empty l (i : Int)] := by
  rw [List.take_succ_eq_append_getElem h]; unfold rdOf; simp [List.getD_eq_getElem?_getD, h]
theorem last_is (l : List ByteArray) (i : Nat) (h : i + 1 = l.length) : l.getLast? = some (rdOf ByteArray.empty l (i : Int)) := by
  have e := take_snoc l i (by omega)
  rw [List.take_of_length_le (by omega)] at e
  conv => lhs; rw [e]
  simp
/-- dots, by any loop of this kind -/
theorem dots_gen (L : Nat → List ByteArray → Int → Option (List ByteArray)) (segs : List ByteArray) (hn : segs.length ≤ 1000000)
    (fin : ∀ st : List ByteArray, st.length ≤ 1000001 → Ev (fun k => L k st (segs.length : Int)) (if st.length = 0 then st ++ [nilT] else st))
    (step : ∀ (st : List ByteArray) (i : Nat) (R : List ByteArray), st.length ≤ 1000000 → i < segs.length →
      (i + 1 = segs.length → isDot (rdOf ByteArray.empty segs (i : Int)) = true → Ev (fun k => L k (stackB st (rdOf ByteArray.empty segs (i : Int)) ++ [nilT]) ((i + 1 : Nat) : Int)) R) →
      ((i + 1 = segs.length → isDot (rdOf ByteArray.empty segs (i : Int)) = false) → Ev (fun k => L k (stackB st (rdOf ByteArray.empty segs (i : Int))) ((i + 1 : Nat) : Int)) R) → Ev (fun k => L k st (i : Int)) R) : Ev (fun k => L k [] 0) (dotsB segs) := by
  have loop : ∀ d i : Nat, i + (d + 1) = segs.length → Ev (fun k => L k (foldB (segs.take i)) (i : Int)) (dotsB segs) := by
    intro d
    induction d with
    | zero =>
      intro i hi
      have hs := take_snoc segs i (by omega)
      rw [List.take_of_length_le (by omega)] at hs
      have hf : foldB segs = stackB (foldB (segs.take i)) (rdOf ByteArray.empty segs (i : Int)) := by conv => lhs; rw [hs]; rw [foldB_snoc]
      have hlast := last_is segs i (by omega)
      have hl := fold_len (segs.take i)
      rw [List.length_take] at hl
      have hl2 := stack_len (foldB (segs.take i)) (rdOf ByteArray.empty segs (i : Int))
      have hi1 : i + 1 = segs.length := by omega
      refine step _ i _ (by omega) (by omega) (fun _ hd => ?_) (fun hd => ?_)
      · rw [hi1]
        refine (fin _ (by rw [List.length_append]; show _ + 1 ≤ _; omega)).to ?_
        rw [if_neg (by rw [List.length_append]; show ¬ _ + 1 = 0; omega)]
        unfold dotsB
        rw [hlast, Option.any_some, hd, if_pos rfl, hf]
      · rw [hi1]
        refine (fin _ (by omega)).to ?_
        unfold dotsB
        rw [hlast, Option.any_some, hd hi1, if_neg (c := (false = true)) (by simp), hf]
    | succ d ih =>
      intro i hi
      have hl := fold_len (segs.take i)
      rw [List.length_take] at hl
      refine step _ i _ (by omega) (by omega) (fun h => absurd h (by omega)) (fun _ => ?_)
      have := ih (i + 1) (by omega)
      rw [take_snoc segs i (by omega), foldB_snoc] at this
      exact this
  cases h : segs.length with
  | zero =>
    have : segs = [] := List.length_eq_zero_iff.mp h
    subst this
    exact fin [] (by decide)
  | succ d => exact loop d 0 (by omega)
theorem dots_ev (segs : List ByteArray) (hn : segs.length ≤ 1000000) : Ev (fun k => percent_Dots.f k segs) (dotsB segs) := by
  unfold percent_Dots.f
  refine dots_gen (fun k st i => percent_Dots.l0 k segs st segs (segs.length : Int) i) segs hn (fun st hst => ?_) (fun st i R hst0 hi hlast hnext => ?_)
  · refine Ev.step (fun _ => percent_Dots.l0.eq_2 ..) (Ev.neg (by omega) ?_)
    by_cases h : st.length = 0
    · rw [if_pos h]
      exact Ev.pos (by omega) (Ev.pos (by omega) (Ev.now _))
    · rw [if_neg h]
      exact Ev.neg (by omega) (Ev.now _)
  · have hw : wrap64 ((segs.length : Int) - 1) = ((segs.length - 1 : Nat) : Int) := by rw [wrap_in (by omega) (by omega)]; omega
    have hm : mx (wrap64 ((st.length : Int) - 1)) 0 = ((st.length - 1 : Nat) : Int) := by
      rw [wrap_in (by omega) (by omega)]; unfold mx; split <;> omega
    refine Ev.step (fun _ => percent_Dots.l0.eq_2 ..) (Ev.pos (by omega) (Ev.pos (by omega) (Ev.pos (by omega) ?_)))
    rw [hw, hm, wrap_nat (by omega), Int.toNat_natCast]
    generalize rdOf ByteArray.empty segs (i : Int) = s at hlast hnext ⊢
    by_cases h2 : s.toList = ([46, 46] : List UInt8)
    · have hs : stackB st s = st.take (st.length - 1) := if_pos h2
      have hd : isDot s = true := decide_eq_true (.inl h2)
      rw [hs] at hlast hnext
      refine Ev.pos h2 (Ev.pos (by omega) (Ev.pos (by omega) (Ev.val rfl ?_)))
      by_cases hl : i + 1 = segs.length
      · exact Ev.pos (by omega) (Ev.pos (by rw [List.length_take]; omega) (hlast hl hd))
      · exact Ev.neg (by omega) (hnext (fun e => absurd e hl))
    · by_cases h1 : s.toList = ([46] : List UInt8)
      · have hs : stackB st s = st := (if_neg h2).trans (if_pos h1)
        have hd : isDot s = true := decide_eq_true (.inr h1)
        rw [hs] at hlast hnext
        refine Ev.neg h2 (Ev.pos h1 ?_)
        by_cases hl : i + 1 = segs.length
        · exact Ev.pos (by omega) (Ev.pos (by omega) (hlast hl hd))
        · exact Ev.neg (by omega) (hnext (fun e => absurd e hl))
      · have hs : stackB st s = st ++ [s] := (if_neg h2).trans (if_neg h1)
        have hd : isDot s = false := decide_eq_false (fun h => h.elim h2 h1)
        rw [hs] at hnext
        exact Ev.neg h2 (Ev.neg h1 (Ev.pos (by omega) (hnext (fun _ => hd))))
theorem rdots_ev (segs : List ByteArray) (hn : segs.length ≤ 1000000) : Ev (fun k => parallaxref19_Dots.f k segs) (dotsB segs) := by
  unfold parallaxref19_Dots.f
  refine dots_gen (fun k st i => parallaxref19_Dots.l0 k segs st i) segs hn (fun st hst => ?_) (fun st i R hst0 hi hlast hnext => ?_)
  · refine Ev.step (fun _ => parallaxref19_Dots.l0.eq_2 ..) (Ev.neg (by omega) ?_)
    by_cases h : st.length = 0
    · rw [if_pos h]
      have : st = [] := List.length_eq_zero_iff.mp h
      subst this
      exact Ev.pos (by simp) (Ev.now _)
    · rw [if_neg h]
      exact Ev.neg (by omega) (Ev.now _)
  · have hw : wrap64 ((segs.length : Int) - 1) = ((segs.length - 1 : Nat) : Int) := by rw [wrap_in (by omega) (by omega)]; omega
    have hn1 : wrap64 ((i : Int) + 1) = ((i + 1 : Nat) : Int) := wrap_nat (by omega)
    have j3t : ∀ x : List ByteArray, x.length ≤ 1000001 → x = stackB st (rdOf ByteArray.empty segs (i : Int)) → isDot (rdOf ByteArray.empty segs (i : Int)) = true → Ev (fun k => parallaxref19_Dots.j3 k segs x (i : Int) true) R := by
      intro x hxl hx hd
      rw [← hx] at hlast hnext
      refine Ev.step (fun _ => parallaxref19_Dots.j3.eq_2 ..) (Ev.pos rfl ?_)
      rw [hw, hn1]
      by_cases hl : i + 1 = segs.length
      · refine Ev.pos (by omega) (Ev.pos (by simp; omega) (Ev.val rfl (Ev.val rfl (Ev.pos (by simp; omega) ?_))))
        rw [List.nil_append]
        exact hlast hl hd
      · exact Ev.neg (by omega) (hnext (fun e => absurd e hl))
    have j2 : ∀ x : List ByteArray, x.length ≤ 1000000 → (isDot (rdOf ByteArray.empty segs (i : Int)) = true → x = stackB st (rdOf ByteArray.empty segs (i : Int))) → (isDot (rdOf ByteArray.empty segs (i : Int)) = false → x = st) → Ev (fun k => parallaxref19_Dots.j2 k segs x (i : Int)) R := by
      intro x hxl hx hy
      refine Ev.step (fun _ => parallaxref19_Dots.j2.eq_2 ..) (Ev.pos (by omega) (Ev.pos (by omega) ?_))
      by_cases h1 : (rdOf ByteArray.empty segs (i : Int)).toList = ([46] : List UInt8)
      · have hd : isDot (rdOf ByteArray.empty segs (i : Int)) = true := decide_eq_true (.inr h1)
        exact Ev.pos h1 (j3t x (by omega) (hx hd) hd)
      · refine Ev.neg h1 ?_
        by_cases h2 : (rdOf ByteArray.empty segs (i : Int)).toList = ([46, 46] : List UInt8)
        · have hd : isDot (rdOf ByteArray.empty segs (i : Int)) = true := decide_eq_true (.inl h2)
          rw [h2]
          exact j3t x (by omega) (hx hd) hd
        · have hd : isDot (rdOf ByteArray.empty segs (i : Int)) = false := decide_eq_false (fun h => h.elim h2 h1)
          rw [show ((rdOf ByteArray.empty segs (i : Int)).toList == ([46, 46] : List UInt8)) = false from beq_eq_false_iff_ne.mpr h2]
          have hst : stackB st (rdOf ByteArray.empty segs (i : Int)) = st ++ [rdOf ByteArray.empty segs (i : Int)] := (if_neg h2).trans (if_neg h1)
          rw [hy hd] at hxl ⊢
          rw [hst] at hnext
          refine Ev.step (fun _ => parallaxref19_Dots.j3.eq_2 ..) (Ev.neg (by simp) (Ev.pos (by simp; omega) (Ev.val rfl (Ev.pos (by omega) (Ev.pos (by omega) (Ev.val rfl (Ev.pos (by simp; omega) ?_)))))))
          rw [hn1, List.nil_append]
          exact hnext (fun _ => hd)
    refine Ev.step (fun _ => parallaxref19_Dots.l0.eq_2 ..) (Ev.pos (by omega) (Ev.pos (by omega) ?_))
    by_cases h2 : (rdOf ByteArray.empty segs (i : Int)).toList = ([46, 46] : List UInt8)
    · have hd : isDot (rdOf ByteArray.empty segs (i : Int)) = true := decide_eq_true (.inl h2)
      have hst : stackB st (rdOf ByteArray.empty segs (i : Int)) = st.take (st.length - 1) := if_pos h2
      refine Ev.pos h2 (Ev.step (fun _ => parallaxref19_Dots.j1.eq_2 ..) ?_)
      by_cases hz : (st.length : Int) > 0
      · have hw1 : wrap64 ((st.length : Int) - 1) = ((st.length - 1 : Nat) : Int) := by rw [wrap_in (by omega) (by omega)]; omega
        rw [decide_eq_true hz, hw1, Int.toNat_natCast]
        exact Ev.pos rfl (Ev.pos (by omega) (Ev.pos (by omega) (j2 _ (by rw [List.length_take]; omega) (fun _ => hst.symm) (fun h => by rw [hd] at h; cases h))))
      · rw [decide_eq_false hz]
        have he : st = [] := List.length_eq_zero_iff.mp (by omega)
        exact Ev.neg (by simp) (j2 _ hst0 (fun _ => by rw [hst, he]; rfl) (fun _ => rfl))
    · refine Ev.neg h2 (Ev.step (fun _ => parallaxref19_Dots.j1.eq_2 ..) (Ev.neg (by simp) (j2 st hst0 (fun hd => ?_) (fun _ => rfl))))
      have h1 : (rdOf ByteArray.empty segs (i : Int)).toList = ([46] : List UInt8) := (of_decide_eq_true hd).resolve_left h2
      exact ((if_neg h2).trans (if_pos h1)).symm
/-- a text's segments -/
def segB (s : ByteArray) : List ByteArray := if prefB s (⟨#[47]⟩ : ByteArray) = true then parts 47 (s.extract 1 s.size) else []
theorem bt_zero {s : ByteArray} {b : UInt8} {t : List UInt8} (h : s.data.toList = b :: t) : bt s 0 = (b.toNat : Int) := by
  have h0 : s.size ≠ 0 := by rw [← data_length, h]; simp
  have hb := drop_bytes s 0 (by omega)
  rw [List.drop_zero] at hb
  unfold bytesOf at hb
  rw [h, List.map_cons, List.cons.injEq] at hb
  exact hb.1.symm
theorem pref_nil (s : ByteArray) (h0 : s.size = 0) : prefB s (⟨#[47]⟩ : ByteArray) = false := by
  have hd : s.data.toList = [] := by rw [← data_length] at h0; exact List.length_eq_zero_iff.mp h0
  unfold prefB
  rw [ByteArray.toList_eq, ByteArray.toList_eq, ext_data, hd]
  rfl
theorem pref_first (s : ByteArray) (h0 : s.size ≠ 0) : prefB s (⟨#[47]⟩ : ByteArray) = (bt s 0 == 47) := by
  cases hs : s.data.toList with
  | nil => exact absurd (by rw [← data_length, hs]; rfl) h0
  | cons b t =>
    rw [bt_zero hs]
    unfold prefB
    rw [ByteArray.toList_eq, ByteArray.toList_eq, ext_data, hs]
    show ([b] == [47]) = _
    rw [Bool.eq_iff_iff, beq_iff_eq, beq_iff_eq]
    constructor
    · intro e
      have : b = 47 := by simpa using e
      rw [this]; rfl
    · intro e
      have : b = 47 := UInt8.toNat_inj.mp (show b.toNat = 47 by omega)
      rw [this]
theorem nil_is (s : ByteArray) : s.toList = ([] : List UInt8) ↔ s.size = 0 := by
  rw [ByteArray.toList_eq, ← data_length s]
  cases s.data.toList <;> simp
theorem seg_ev (s : ByteArray) (hs : s.size ≤ 1000000) : Ev (fun k => percent_Segments.f k s) (segB s) := by
  unfold percent_Segments.f segB
  refine Ev.val (prefix_some s _) ?_
  cases hp : prefB s (⟨#[47]⟩ : ByteArray) with
  | true =>
    have h0 : s.size ≠ 0 := fun e => by rw [pref_nil s e] at hp; cases hp
    exact Ev.pos rfl (Ev.pos (by omega) (Ev.bind (split_ev 47 _ (by rw [ByteArray.size_extract]; omega)) ((Ev.now _).to (by simp))))
  | false => exact Ev.neg (by simp) ((Ev.now _).to (by simp))
theorem rseg_ev (s : ByteArray) (hs : s.size ≤ 1000000) : Ev (fun k => parallaxref19_Segments.f k s) (segB s) := by
  unfold parallaxref19_Segments.f segB
  by_cases h0 : s.size = 0
  · rw [pref_nil s h0]
    exact Ev.pos ((nil_is s).mpr h0) ((Ev.now _).to (by simp))
  · rw [pref_first s h0]
    refine Ev.neg (fun e => h0 ((nil_is s).mp e)) (Ev.pos (by omega) ?_)
    by_cases h : bt s 0 = 47
    · have sp : Ev (fun k => parallaxref1_Split.f k (s.extract 1 s.size) 47) (parts 47 (s.extract 1 s.size)) := rsplit_ev 47 _ (by rw [ByteArray.size_extract]; omega)
      exact Ev.pos h (Ev.pos (by omega) (Ev.bind sp ((Ev.now _).to (by simp [h]))))
    · exact Ev.neg h ((Ev.now _).to (by simp [h]))
theorem seg_size (s : ByteArray) : (∀ x ∈ segB s, x.size ≤ s.size) ∧ (segB s).length ≤ s.size + 1 := by
  unfold segB
  split
  · have hz : (s.extract 1 s.size).size ≤ s.size := by rw [ByteArray.size_extract]; omega
    refine ⟨fun x hx => Nat.le_trans (parts_size hx) hz, ?_⟩
    rw [parts_len]
    have := count_le_size 47 (s.extract 1 s.size)
    omega
  · exact ⟨fun x hx => (by cases hx), Nat.zero_le _⟩
/-- segments, one behind another -/
def joinR (l : List ByteArray) : ByteArray := BA ((l.map fun s => 47 :: s.data.toList).flatten)
theorem joinR_snoc (l : List ByteArray) (x : ByteArray) : joinR (l ++ [x]) = (joinR l ++ (⟨#[47]⟩ : ByteArray)) ++ x := by
  apply ba_inj
  unfold joinR
  rw [data_app, data_app, data_BA, data_BA, List.map_append, List.flatten_append]
  simp
theorem joinR_size (l : List ByteArray) (m : Nat) (hm : ∀ x ∈ l, x.size ≤ m) : (joinR l).size ≤ (m + 1) * l.length := by
  unfold joinR
  rw [size_BA]
  induction l with
  | nil => simp
  | cons x l ih =>
    have h1 := ih (fun y hy => hm y (by simp [hy]))
    have h2 := hm x (by simp)
    rw [List.map_cons, List.flatten_cons, List.length_append, List.length_cons, List.length_cons, data_length, Nat.mul_succ]; omega
theorem rjoin_ev (l : List ByteArray) (hl : l.length ≤ 10000) (hm : ∀ x ∈ l, x.size ≤ 1000000) (d : Nat) : ∀ i : Nat, i + d = l.length → Ev (fun k => parallaxref19_Join.l0 k l (joinR (l.take i)) (i : Int)) (joinR l) := by
  induction d with
  | zero =>
    intro i hi
    rw [List.take_of_length_le (by omega)]
    exact Ev.step (fun _ => parallaxref19_Join.l0.eq_2 ..) (Ev.neg (by omega) (Ev.now _))
  | succ d ih =>
    intro i hi
    have hz := joinR_size (l.take i) 1000000 (fun x hx => hm x (List.mem_of_mem_take hx))
    rw [List.length_take] at hz
    have hx := hm _ (rdOf_mem l i (by omega))
    have h2 : (1000000 + 1) * min i l.length ≤ (1000000 + 1) * 10000 := Nat.mul_le_mul_left _ (by omega)
    have hn := ih (i + 1) (by omega)
    rw [take_snoc l i (by omega), joinR_snoc] at hn
    refine Ev.step (fun _ => parallaxref19_Join.l0.eq_2 ..) (Ev.pos (by omega) (Ev.pos (by omega) (Ev.pos (by omega) (Ev.pos (by rw [ByteArray.size_append]; show _ + 1 + _ ≤ _; omega) ?_))))
    rw [wrap_nat (by omega)]
    exact hn
theorem rjoin_all (l : List ByteArray) (hl : l.length ≤ 10000) (hm : ∀ x ∈ l, x.size ≤ 1000000) : Ev (fun k => parallaxref19_Join.f k l) (joinR l) := by
  unfold parallaxref19_Join.f
  have := rjoin_ev l hl hm l.length 0 (by omega)
  rw [List.take_zero] at this
  exact this
theorem join_some (l : List ByteArray) (hl : l.length ≤ 10000) (hm : ∀ x ∈ l, x.size ≤ 1000000) (h0 : 0 < l.length) : ∃ z : ByteArray, strings_Join.f l (⟨#[47]⟩ : ByteArray) = some z ∧ (⟨#[47]⟩ : ByteArray) ++ z = joinR l := by
  refine ⟨⟨(Lib.join (l.map (·.data.toList)) [47]).toArray⟩, ?_, ?_⟩
  · unfold strings_Join.f
    exact if_pos ⟨hl, by decide, List.all_eq_true.mpr fun x hx => decide_eq_true (hm x hx)⟩
  · cases l with
    | nil => simp at h0
    | cons x t =>
      apply ba_inj
      unfold joinR
      rw [data_app, data_BA, List.map_cons, Lib.join_cons, List.map_cons, List.flatten_cons]
      show [47] ++ ((x.data.toList ++ Lib.joinTail [47] (t.map (·.data.toList))).toArray.toList) = _
      unfold Lib.joinTail
      rw [List.map_map]
      simp only [List.toList_toArray, List.cons_append, List.nil_append]
      rfl
/-- a path in the one way, of its bytes -/
def normR (l : List Int) : ByteArray × Bool := (joinR (dotsB (segB (strOfNums l))), true)
def finA (acc : List Int) (o : Option (List Int)) : ByteArray × Bool := match o with
  | some l => normR (acc ++ l)
  | none => (⟨#[]⟩, false)
theorem finA_map (acc p : List Int) (o : Option (List Int)) : finA acc (o.map (p ++ ·)) = finA (acc ++ p) o := by
  cases o with
  | none => rfl
  | some l => simp [finA]
theorem finA_cons (acc : List Int) (c : Int) (o : Option (List Int)) : finA acc (o.map (c :: ·)) = finA (acc ++ [c]) o := by
  cases o with
  | none => rfl
  | some l => simp [finA]
theorem dots_sizes (s : ByteArray) (hs : s.size ≤ 5000) : (dotsB (segB s)).length ≤ 10000 ∧ ∀ x ∈ dotsB (segB s), x.size ≤ 1000000 := by
  obtain ⟨h1, h2⟩ := seg_size s
  have h3 := (dots_len (segB s)).1
  refine ⟨by omega, fun x hx => ?_⟩
  rcases dots_mem _ x hx with h | h
  · have := h1 x h; omega
  · rw [h]; decide
theorem turn_len (P : Int → List Int) (hP : ∀ c : Int, 0 ≤ c → c < 256 → (P c).length ≤ 3) (d : Nat) : ∀ l : List Int, l.length ≤ d → (∀ x ∈ l, 0 ≤ x ∧ x < 256) → ∀ r, turnL P l = some r → r.length ≤ 3 * l.length := by
  induction d with
  | zero => intro l hl _ r hr; cases l with
    | nil => simp [turnL] at hr; subst hr; simp
    | cons _ _ => simp at hl
  | succ d ih =>
    intro l hl hw r hr
    cases l with
    | nil => simp [turnL] at hr; subst hr; simp
    | cons c t =>
      rw [List.length_cons] at hl
      by_cases hc : c = 37
      · subst hc
        match t, hl, hw, hr with
        | [], _, _, hr => rw [turn_short _ [] (by simp)] at hr; cases hr
        | [_], _, _, hr => rw [turn_short _ _ (by simp)] at hr; cases hr
        | a :: b :: q, hl, hw, hr =>
          rw [turn_pct] at hr
          split at hr
          · obtain ⟨z, hz, rfl⟩ := Option.map_eq_some_iff.mp hr
            have h1 := ih q (by simp at hl; omega) (fun x hx => hw x (by simp [hx])) z hz
            have ha := (hv_at (hw a (by simp))).2
            have hb := (hv_at (hw b (by simp))).2
            have h2 := hP (hv a * 16 + hv b) (by omega) (by omega)
            rw [List.length_append]
            simp only [List.length_cons]
            omega
          · cases hr
      · rw [turn_plain _ hc] at hr
        obtain ⟨z, hz, rfl⟩ := Option.map_eq_some_iff.mp hr
        have h1 := ih t (by omega) (fun x hx => hw x (by simp [hx])) z hz
        simp only [List.length_cons]
        omega
theorem up_tab : ∀ n : Fin 256, ofB (n.val : Int) 5 = true → parallaxref19_upper.f (n.val : Int) = some (bt digT (hv (n.val : Int))) := by decide +kernel
theorem up_some {c : Int} (h : 0 ≤ c ∧ c < 256) (hk : ofB c 5 = true) : parallaxref19_upper.f c = some (bt digT (hv c)) := byte_all (p := fun c => ofB c 5 = true → parallaxref19_upper.f c = some (bt digT (hv c))) up_tab h.1 h.2 hk
theorem rnorm_loop (s : ByteArray) (hs : s.size ≤ 1000) (d : Nat) : ∀ (i : Nat) (acc : List Int), i + d = s.size → acc.length ≤ 3 * i → Ev (fun k => parallaxref19_Norm.l0 k s acc (i : Int)) (finA acc (turnL normL ((bytesOf s).drop i))) := by
  induction d using Nat.strongRecOn with
  | ind d ih =>
    intro i acc hi ha
    by_cases hd : d = 0
    · refine Ev.step (fun _ => parallaxref19_Norm.l0.eq_2 ..) (Ev.neg (by omega) ?_)
      have hz : (strOfNums acc).size ≤ 3000 := by rw [nums_size]; omega
      obtain ⟨q1, q2⟩ := dots_sizes (strOfNums acc) (by omega)
      obtain ⟨_, q3⟩ := seg_size (strOfNums acc)
      refine Ev.bind (rseg_ev _ (by omega)) (Ev.bind (rdots_ev _ (by omega)) (Ev.bind (rjoin_all _ q1 q2) ((Ev.now _).to ?_)))
      rw [List.drop_of_length_le (by rw [bytesOf_length]; omega)]
      simp [turnL, finA, normR]
    · have hw1 : wrap64 ((i : Int) + 1) = ((i + 1 : Nat) : Int) := wrap_nat (by omega)
      have hw2 : wrap64 ((i : Int) + 2) = ((i + 2 : Nat) : Int) := by rw [wrap_in (by omega) (by omega)]; omega
      have hw3 : wrap64 (((i + 2 : Nat) : Int) + 1) = ((i + 3 : Nat) : Int) := wrap_nat (by omega)
      refine Ev.step (fun _ => parallaxref19_Norm.l0.eq_2 ..) (Ev.pos (by omega) (Ev.pos (Int.natCast_nonneg _) ?_))
      rw [hw1]
      by_cases h37 : bt s (i : Int) = 37
      · obtain ⟨c, hc, hv_⟩ := two_ev s (by omega) i (by omega)
        refine Ev.pos h37 (Ev.bind hc ?_)
        by_cases h3 : i + 2 < s.size
        · rw [drop3 s i h3, h37, turn_pct, decide_eq_true h3, Bool.true_and]
          cases ho : (ofB (bt s ((i + 1 : Nat) : Int)) 5 && ofB (bt s ((i + 2 : Nat) : Int)) 5) with
          | true =>
            have hce := hv_ ho h3
            rw [if_pos rfl, finA_map, ← hce]
            rw [Bool.and_eq_true] at ho
            have r1 := (hv_at (bt_lt s ((i + 1 : Nat) : Int))).2
            have r2 := (hv_at (bt_lt s ((i + 2 : Nat) : Int))).2
            have hnl := (norm_some (c := c) (by omega) (by omega)).2
            have hn := ih (d - 3) (by omega) (i + 3) (acc ++ normL c) (by omega) (by rw [List.length_append]; omega)
            have j2 : ∀ b, b = freeB c → Ev (fun k => parallaxref19_Norm.j2 k s acc (i : Int) c b) (finA (acc ++ normL c) (turnL normL ((bytesOf s).drop (i + 3)))) := by
              intro b hb
              refine Ev.step (fun _ => parallaxref19_Norm.j2.eq_2 ..) ?_
              rw [hw1, hw2, hw3]
              cases hbb : b with
              | true =>
                have e : normL c = [c] := if_pos (by rw [← hb, hbb])
                rw [e] at hn ⊢
                exact Ev.pos rfl (Ev.pos (by omega) hn)
              | false =>
                have e : normL c = [37, bt digT (hv (bt s ((i + 1 : Nat) : Int))), bt digT (hv (bt s ((i + 2 : Nat) : Int)))] := by
                  unfold normL
                  rw [if_neg (by rw [← hb, hbb]; simp), show c / 16 = hv (bt s ((i + 1 : Nat) : Int)) by omega, show c % 16 = hv (bt s ((i + 2 : Nat) : Int)) by omega]
                rw [e] at hn ⊢
                exact Ev.neg (by simp) (Ev.pos (Int.natCast_nonneg _) (Ev.pos (by omega) (Ev.val (up_some (bt_lt s _) ho.1) (Ev.pos (Int.natCast_nonneg _) (Ev.pos (by omega) (Ev.val (up_some (bt_lt s _) ho.2) (Ev.val rfl (Ev.pos (by simp; omega) hn))))))))
            refine Ev.pos rfl (Ev.val (letterR_some c) ?_)
            cases hL : letterR c with
            | true => exact Ev.pos rfl (j2 true (by unfold freeB; rw [hL]; rfl))
            | false =>
              refine Ev.neg (by simp) (Ev.val (digitR_some c) ?_)
              cases hD : digitR c with
              | true => exact Ev.pos rfl (j2 true (by unfold freeB; rw [hL, hD]; rfl))
              | false =>
                refine Ev.neg (by simp) ?_
                by_cases c1 : c = 45
                · exact Ev.pos c1 (j2 true (by unfold freeB; rw [hL, hD, decide_eq_true c1]; rfl))
                · by_cases c2 : c = 46
                  · exact Ev.neg c1 (Ev.pos c2 (j2 true (by unfold freeB; rw [hL, hD, decide_eq_false c1, decide_eq_true c2]; rfl)))
                  · by_cases c3 : c = 95
                    · exact Ev.neg c1 (Ev.neg c2 (Ev.pos c3 (j2 true (by unfold freeB; rw [hL, hD, decide_eq_false c1, decide_eq_false c2, decide_eq_true c3]; rfl))))
                    · exact Ev.neg c1 (Ev.neg c2 (Ev.neg c3 (j2 _ (by unfold freeB; rw [hL, hD, decide_eq_false c1, decide_eq_false c2, decide_eq_false c3]; rfl))))
          | false =>
            rw [if_neg (by simp)]
            exact Ev.neg (by simp) (Ev.now _)
        · rw [drop_bytes s i (by omega), h37, turn_short _ _ (by rw [List.length_drop, bytesOf_length]; omega), decide_eq_false h3, Bool.false_and]
          exact Ev.neg (by simp) (Ev.now _)
      · rw [drop_bytes s i (by omega), turn_plain _ h37, finA_cons]
        exact Ev.neg h37 (Ev.pos (by omega) (ih (d - 1) (by omega) (i + 1) (acc ++ [bt s (i : Int)]) (by omega) (by rw [List.length_append]; show _ + 1 ≤ _; omega)))
def normB (s : ByteArray) : ByteArray × Bool := if prefB s (⟨#[47]⟩ : ByteArray) = true then finA [] (turnL normL (bytesOf s)) else (⟨#[]⟩, false)
theorem rnorm_ev (s : ByteArray) (hs : s.size ≤ 1000) : Ev (fun k => parallaxref19_Norm.f k s) (normB s) := by
  unfold parallaxref19_Norm.f normB
  by_cases h0 : s.size = 0
  · rw [pref_nil s h0]
    exact Ev.pos ((nil_is s).mpr h0) (Ev.step (fun _ => parallaxref19_Norm.j0.eq_2 ..) (Ev.pos rfl ((Ev.now _).to (by simp))))
  · rw [pref_first s h0]
    refine Ev.neg (fun e => h0 ((nil_is s).mp e)) (Ev.pos (by omega) (Ev.step (fun _ => parallaxref19_Norm.j0.eq_2 ..) ?_))
    by_cases h : bt s 0 = 47
    · have := rnorm_loop s hs s.size 0 [] (by omega) (by simp)
      rw [List.drop_zero] at this
      exact Ev.neg (by simp [h]) (this.to (by simp [h]))
    · exact Ev.pos (by simp [h]) ((Ev.now _).to (by simp [h]))
theorem norm_ev (s : ByteArray) (hs : s.size ≤ 1000) : Ev (fun k => percent_Norm.f k s) (normB s) := by
  unfold percent_Norm.f normB
  have bad : ∀ t, Ev (fun k => percent_Norm.j0 k t true) ((⟨#[]⟩ : ByteArray), false) := fun t => Ev.step (fun _ => percent_Norm.j0.eq_2 ..) (Ev.pos rfl (Ev.now _))
  refine Ev.bind (percent_norm_turned_all s (by omega)) ?_
  cases ht : turnL normL (bytesOf s) with
  | none =>
    refine Ev.neg (by simp [resA]) ((bad _).to ?_)
    split <;> rfl
  | some l =>
    refine Ev.pos rfl (Ev.val (prefix_some s _) ?_)
    cases prefB s (⟨#[47]⟩ : ByteArray) with
    | false => exact (bad _).to (by simp)
    | true =>
      have hl := turn_len normL (fun c h0 h1 => (norm_some h0 h1).2) _ (bytesOf s) (Nat.le_refl _) (fun x hx => bytes_lt s hx) l ht
      rw [bytesOf_length] at hl
      have hz : (strOfNums l).size ≤ 3000 := by rw [nums_size]; omega
      obtain ⟨q1, q2⟩ := dots_sizes (strOfNums l) (by omega)
      obtain ⟨_, q3⟩ := seg_size (strOfNums l)
      obtain ⟨z, hj, hjr⟩ := join_some (dotsB (segB (strOfNums l))) q1 q2 (dots_len _).2
      have hzs : ((⟨#[47]⟩ : ByteArray) ++ z).size ≤ (1000000 + 1) * 10000 := by
        rw [hjr]
        exact Nat.le_trans (joinR_size _ 1000000 q2) (Nat.mul_le_mul_left _ q1)
      rw [ByteArray.size_append] at hzs
      refine Ev.step (fun _ => percent_Norm.j0.eq_2 ..) (Ev.neg (by simp) (Ev.bind (seg_ev (strOfNums l) (by omega)) (Ev.bind (dots_ev _ (by omega)) (Ev.val hj (Ev.pos ?_ ((Ev.now _).to ?_))))))
      · have : (⟨#[47]⟩ : ByteArray).size = 1 := rfl
        omega
      · rw [hjr]; rfl
theorem decode_ev (s : ByteArray) (hs : s.size ≤ 1000) : Ev (fun k => percent_Decode.f k s) (resA [] (turnL oneL (bytesOf s))) := by
  unfold percent_Decode.f
  exact Ev.bind (percent_Decode_1_turned_all s (by omega)) (Ev.now _)
theorem rdec_ev (s : ByteArray) (hs : s.size ≤ 1000) : Ev (fun k => parallaxref19_Decode.f k s) (resA [] (turnL oneL (bytesOf s))) := by
  unfold parallaxref19_Decode.f
  have := rdecode_ev s (by omega) s.size 0 [] (by omega) (by simp)
  rw [List.drop_zero] at this
  exact this
def pathsT : List ByteArray := [(⟨#[97]⟩ : ByteArray), (⟨#[98]⟩ : ByteArray), (⟨#[118, 49]⟩ : ByteArray), (⟨#[105, 116, 101, 109]⟩ : ByteArray), (⟨#[55]⟩ : ByteArray), (⟨#[115, 116, 97, 116, 105, 99]⟩ : ByteArray), (⟨#[99, 115, 115]⟩ : ByteArray), (⟨#[]⟩ : ByteArray), (⟨#[46, 46]⟩ : ByteArray), (⟨#[46]⟩ : ByteArray), (⟨#[37, 50, 101, 37, 50, 69]⟩ : ByteArray), (⟨#[37, 52, 49]⟩ : ByteArray), (⟨#[37, 50, 102]⟩ : ByteArray), (⟨#[120]⟩ : ByteArray), (⟨#[37, 122, 122]⟩ : ByteArray), (⟨#[37, 67, 51, 37, 97, 57]⟩ : ByteArray)]
theorem rd_size {l : List ByteArray} {m : Nat} (hm : ∀ x ∈ l, x.size ≤ m) (i : Int) : (rdOf ByteArray.empty l i).size ≤ m := by
  unfold rdOf
  rw [List.getD_eq_getElem?_getD]
  cases h : l[i.toNat]? with
  | none => exact Nat.zero_le _
  | some x => exact hm x (List.mem_of_getElem? h)
theorem path_loop (l : List Int) (hw : ∀ x ∈ l, 0 ≤ x ∧ x < 256) (d : Nat) : ∀ (i : Nat) (s : ByteArray), i + d = l.length → s.size ≤ 10 * i → i ≤ 6 → ∃ t : ByteArray, t.size ≤ 100 ∧ Ev (fun k => parallaxseat_Path.l0 k l pathsT s (i : Int)) t := by
  induction d with
  | zero => intro i s hi hs h6; exact ⟨s, by omega, Ev.step (fun _ => parallaxseat_Path.l0.eq_2 ..) (Ev.neg (by omega) (Ev.now _))⟩
  | succ d ih =>
    intro i s hi hs h6
    by_cases h : i < 6
    · have hr : 0 ≤ rd l (i : Int) ∧ rd l (i : Int) < 256 := by
        rw [rd_nat, List.getD_eq_getElem?_getD, List.getElem?_eq_getElem (by omega), Option.getD_some]
        exact hw _ (List.getElem_mem _)
      have h0 : 0 ≤ Int.tmod (rd l (i : Int)) 16 := by rw [Int.tmod_eq_emod_of_nonneg hr.1]; exact Int.emod_nonneg _ (by decide)
      have h5 : Int.tmod (rd l (i : Int)) 16 < 16 := by rw [Int.tmod_eq_emod_of_nonneg hr.1]; exact Int.emod_lt_of_pos _ (by decide)
      have hz := rd_size (l := pathsT) (m := 6) (by decide) (Int.tmod (rd l (i : Int)) 16)
      have q1 : (⟨#[47]⟩ : ByteArray).size = 1 := rfl
      obtain ⟨t, ht, he⟩ := ih (i + 1) ((s ++ (⟨#[47]⟩ : ByteArray)) ++ rdOf ByteArray.empty pathsT (Int.tmod (rd l (i : Int)) 16)) (by omega) (by rw [ByteArray.size_append, ByteArray.size_append, q1]; omega) (by omega)
      refine ⟨t, ht, Ev.step (fun _ => parallaxseat_Path.l0.eq_2 ..) (Ev.pos (by omega) (Ev.pos (by omega) (Ev.pos (by omega) (Ev.pos (by omega) (Ev.pos h0 (Ev.pos h5 (Ev.pos (by rw [ByteArray.size_append, q1]; omega) ?_)))))))⟩
      rw [wrap_nat (by omega)]
      exact he
    · exact ⟨s, by omega, Ev.step (fun _ => parallaxseat_Path.l0.eq_2 ..) (Ev.pos (by omega) (Ev.neg (by omega) (Ev.now _)))⟩
theorem path_ev (l : List Int) (hw : ∀ x ∈ l, 0 ≤ x ∧ x < 256) : ∃ t : ByteArray, t.size ≤ 100 ∧ Ev (fun k => parallaxseat_Path.f k l) t := by
  unfold parallaxseat_Path.f
  exact path_loop l hw l.length 0 (⟨#[]⟩ : ByteArray) (by omega) (by decide) (by decide)
theorem texts_loop (segs m : List ByteArray) (hsg : segs.length ≤ 1000) (hm : m.length ≤ 1000) (T : List ByteArray) (hT : ∀ x ∈ T, x.size ≤ 1000) (hn : T.length ≤ 100) (d : Nat) : ∀ i : Nat, i + d = T.length →
    Ev (fun k => parallaxlaw19_PercentTells.l1 k segs m T (T.length : Int) (i : Int)) true := by
  have ref : ∀ l : List ByteArray, l.length ≤ 100000 → Ev (fun k => parallaxref1_Strings.f k l l) true := fun l hl => rstrings_refl l (by omega)
  induction d with
  | zero =>
    intro i hi
    have h1 := (dots_len m).1
    have h2 := (dots_len segs).1
    refine Ev.step (fun _ => parallaxlaw19_PercentTells.l1.eq_2 ..) (Ev.neg (by omega) (Ev.bind (dots_ev m (by omega)) (Ev.bind (rdots_ev m (by omega)) (Ev.bind (ref _ (by omega)) (Ev.pos rfl (Ev.bind (dots_ev segs (by omega)) (Ev.bind (rdots_ev segs (by omega)) (Ev.bind (ref _ (by omega)) (Ev.pos rfl (Ev.bind (dots_ev [] (by decide)) ?_))))))))))
    exact Ev.step (fun _ => parallaxlaw19_PercentTells.j4.eq_2 ..) ((Ev.now _).to (by decide +kernel))
  | succ d ih =>
    intro i hi
    have hx := hT _ (rdOf_mem T i (by omega))
    refine Ev.step (fun _ => parallaxlaw19_PercentTells.l1.eq_2 ..) (Ev.pos (by omega) (Ev.pos (by omega) (Ev.pos (by omega) ?_)))
    generalize rdOf ByteArray.empty T (i : Int) = x at hx
    have hsz := (seg_size x).2
    refine Ev.bind (norm_ev x hx) (Ev.bind (rnorm_ev x hx) (Ev.bind (decode_ev x hx) (Ev.bind (rdec_ev x hx) (Ev.pos rfl (Ev.neg (by simp) (Ev.pos rfl (Ev.neg (by simp) (Ev.bind (seg_ev x (by omega)) (Ev.bind (rseg_ev x (by omega)) (Ev.bind (ref _ (by omega)) ?_))))))))))
    refine Ev.step (fun _ => parallaxlaw19_PercentTells.j3.eq_2 ..) (Ev.neg (by simp) ?_)
    rw [wrap_nat (by omega)]
    exact ih (i + 1) (by omega)
theorem main_loop (s : ByteArray) (hs : s.size ≤ 80) (l : List Int) (hl : l.length ≤ 6) (hw : ∀ x ∈ l, 0 ≤ x ∧ x < 256) (segs : List ByteArray) (hsg : segs.length ≤ 10) (d : Nat) : ∀ (i : Nat) (m : List ByteArray), i + d = l.length → m.length ≤ i → Ev (fun k => parallaxlaw19_PercentTells.l0 k s l segs m (i : Int)) true := by
  induction d with
  | zero =>
    intro i m hi hm
    obtain ⟨t, ht, he⟩ := path_ev l hw
    have q1 : (⟨#[47]⟩ : ByteArray).size = 1 := rfl
    refine Ev.step (fun _ => parallaxlaw19_PercentTells.l0.eq_2 ..) (Ev.neg (by omega) (Ev.bind he (Ev.pos (by omega) (Ev.bind he (Ev.pos (by omega) (Ev.pos (by rw [ByteArray.size_append, q1]; omega) (Ev.val rfl ?_)))))))
    refine texts_loop segs m (by omega) (by omega) _ (fun x hx => ?_) (by simp) 4 0 rfl
    simp only [List.mem_cons, List.not_mem_nil, or_false] at hx
    rcases hx with rfl | rfl | rfl | rfl
    · omega
    · omega
    · rw [ByteArray.size_append, q1]; omega
    · rw [ByteArray.size_append, ByteArray.size_append, q1]; omega
  | succ d ih =>
    intro i m hi hm
    have hr : 0 ≤ rd l (i : Int) ∧ rd l (i : Int) < 256 := by
      rw [rd_nat, List.getD_eq_getElem?_getD, List.getElem?_eq_getElem (by omega), Option.getD_some]
      exact hw _ (List.getElem_mem _)
    have h0 : 0 ≤ Int.tmod (rd l (i : Int)) 4 := by rw [Int.tmod_eq_emod_of_nonneg hr.1]; exact Int.emod_nonneg _ (by decide)
    have h4 : Int.tmod (rd l (i : Int)) 4 < 4 := by rw [Int.tmod_eq_emod_of_nonneg hr.1]; exact Int.emod_lt_of_pos _ (by decide)
    refine Ev.step (fun _ => parallaxlaw19_PercentTells.l0.eq_2 ..) (Ev.pos (by omega) (Ev.val rfl (Ev.pos (by omega) (Ev.pos h0 (Ev.pos h4 (Ev.pos (by omega) ?_))))))
    rw [wrap_nat (by omega)]
    exact ih (i + 1) _ (by omega) (by rw [List.length_append]; show _ + 1 ≤ _; omega)
theorem known60 : parallaxlaw19_known.f 60 = some true := by decide +kernel
theorem PercentTells : parallaxlaw19_PercentTells.Pure := by
  intro s l segs _ _ _ hw _
  suffices h : Ev (fun k => parallaxlaw19_PercentTells.f k s l segs) true by
    obtain ⟨k, hk⟩ := h
    exact ⟨k, hk k (Nat.le_refl _)⟩
  have out : Ev (fun k => parallaxlaw19_PercentTells.j0 k s l segs true) true := Ev.step (fun _ => parallaxlaw19_PercentTells.j0.eq_2 ..) (Ev.pos rfl (Ev.now _))
  unfold parallaxlaw19_PercentTells.f
  refine Ev.bind (Ev.of (fun k => parallaxlaw19_known.mono k) known60) (Ev.pos rfl ?_)
  by_cases h80 : (s.size : Int) > 80
  · exact Ev.pos h80 out
  · by_cases h6 : (l.length : Int) > 6
    · exact Ev.neg h80 (Ev.pos h6 out)
    · refine Ev.neg h80 (Ev.neg h6 ?_)
      by_cases h10 : (segs.length : Int) > 10
      · rw [decide_eq_true h10]; exact out
      · rw [decide_eq_false h10]
        exact Ev.step (fun _ => parallaxlaw19_PercentTells.j0.eq_2 ..) (Ev.neg (by simp) (main_loop s (by omega) l (by omega) (fun x hx => u8_wf (hw x hx)) segs (by omega) l.length 0 [] (by omega) (by simp)))
end Go.Proofs.YtljmpmipjdlkaaaDoor.Pure
