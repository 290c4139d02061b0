/- It is proved that PercentOnce answers true at every input: a path that was written in the one way stays, and has no dots. -/
import Derived.Test.YtljmpmipjdlkaaaDoorPPercentOncex5
import Derived.Test.YtljmpmipjdlkaaaDoorTxtPercentOnce
namespace Go.Proofs.YtljmpmipjdlkaaaDoor.Pure
open Go.RowKit Go.Proofs.YtljmpmipjdlkaaaDoor.PPercentOnce Go.Proofs.YtljmpmipjdlkaaaDoorW.PrintWords Go.Proofs.YtljmpmipjdlkaaaDoorW.PrintLast Go.Proofs.YtljmpmipjdlkaaaDoorW.PrintMore Go.Proofs.YtljmpmipjdlkaaaDoor.Aid Go.Proofs.YtljmpmipjdlkaaaDoor.Parts
set_option linter.unusedVariables false
set_option linter.unusedSimpArgs false

def nilT : ByteArray := ⟨#[]⟩
def hv (c : Int) : Int := ((octet_Hex.f c).getD (0, false)).1
theorem hv_tab : ∀ n : Fin 256, octet_Hex.f (n.val : Int) = some (hv (n.val : Int), ((octet_Hex.f (n.val : Int)).getD (0, false)).2) ∧ 0 ≤ hv (n.val : Int) ∧ hv (n.val : Int) ≤ 15 := by decide +kernel
theorem hv_at {c : Int} (h : 0 ≤ c ∧ c < 256) : (∃ b, octet_Hex.f c = some (hv c, b)) ∧ 0 ≤ hv c ∧ hv c ≤ 15 := by
  obtain ⟨h1, h2⟩ := byte_all (p := fun c => octet_Hex.f c = some (hv c, ((octet_Hex.f c).getD (0, false)).2) ∧ 0 ≤ hv c ∧ hv c ≤ 15) hv_tab h.1 h.2
  exact ⟨⟨_, h1⟩, h2⟩
/-- texts of bytes -/
theorem nums_app (a b : List Int) : strOfNums (a ++ b) = strOfNums a ++ strOfNums b := by
  apply ba_inj
  rw [data_app, strOfNums_data, strOfNums_data, strOfNums_data, List.map_append]
theorem nums_size (a : List Int) : (strOfNums a).size = a.length := by
  rw [← data_length, strOfNums_data, List.length_map]
theorem nums_nil : strOfNums [] = (⟨#[]⟩ : ByteArray) := by
  apply ba_inj
  rw [strOfNums_data]; rfl
theorem bytes_ext (s : ByteArray) (i : Nat) : bytesOf (s.extract i s.size) = (bytesOf s).drop i := by
  unfold bytesOf
  rw [ext_data, List.take_of_length_le (by rw [List.length_drop, data_length]; exact Nat.le_refl _), List.map_drop]
theorem bt_ext (s : ByteArray) (i j : Nat) : bt (s.extract i s.size) (j : Int) = bt s ((i + j : Nat) : Int) := by
  rw [← Trim.bytes_getD, ← Trim.bytes_getD, bytes_ext, List.getD_eq_getElem?_getD, List.getElem?_drop, List.getD_eq_getElem?_getD]
theorem two_bytes (s : ByteArray) (i : Nat) (h : i + 1 < s.size) : bytesOf (s.extract i (i + 2)) = [bt s (i : Int), bt s ((i + 1 : Nat) : Int)] := by
  have e : bytesOf (s.extract i (i + 2)) = ((bytesOf s).drop i).take 2 := by
    unfold bytesOf; rw [ext_data, show i + 2 - i = 2 by omega, List.map_take, List.map_drop]
  rw [e, drop_bytes s i (by omega), drop_bytes s (i + 1) (by omega)]; rfl
/-- a text whose triples are written otherwise -/
def turnL (P : Int → List Int) : List Int → Option (List Int)
  | [] => some []
  | [c] => if c = 37 then none else some [c]
  | [c, a] => if c = 37 then none else if a = 37 then none else some [c, a]
  | c :: a :: b :: r => if c = 37 then (if (ofB a 5 && ofB b 5) = true then (turnL P r).map (P (hv a * 16 + hv b) ++ ·) else none) else (turnL P (a :: b :: r)).map (c :: ·)
theorem turn_plain (P : Int → List Int) {c : Int} (h : c ≠ 37) (l : List Int) : turnL P (c :: l) = (turnL P l).map (c :: ·) := by
  cases l with
  | nil => simp [turnL, h]
  | cons a l => cases l with
    | nil =>
      by_cases ha : a = 37
      · simp [turnL, h, ha]
      · simp [turnL, h, ha]
    | cons b l => simp [turnL, h]
theorem turn_pct (P : Int → List Int) (a b : Int) (r : List Int) : turnL P (37 :: a :: b :: r) = if (ofB a 5 && ofB b 5) = true then (turnL P r).map (P (hv a * 16 + hv b) ++ ·) else none := by simp [turnL]
theorem turn_short (P : Int → List Int) (l : List Int) (hl : l.length < 2) : turnL P (37 :: l) = none := by
  cases l with
  | nil => simp [turnL]
  | cons a l => cases l with
    | nil => simp [turnL]
    | cons b l => simp at hl; omega
/-- what the triple's reader says -/
theorem triple_ev (s : ByteArray) (hs : s.size ≤ 1000000) (i : Nat) (hi : i < s.size) : Ev (fun k => percent_triple.f k (s.extract i s.size)) (if i + 2 < s.size ∧ (ofB (bt s ((i + 1 : Nat) : Int)) 5 && ofB (bt s ((i + 2 : Nat) : Int)) 5) = true then (hv (bt s ((i + 1 : Nat) : Int)) * 16 + hv (bt s ((i + 2 : Nat) : Int)), true) else (0, false)) := by
  have hz : (s.extract i s.size).size = s.size - i := by rw [ByteArray.size_extract]; omega
  have b1 : bt (s.extract i s.size) 1 = bt s ((i + 1 : Nat) : Int) := bt_ext s i 1
  have b2 : bt (s.extract i s.size) 2 = bt s ((i + 2 : Nat) : Int) := bt_ext s i 2
  have r1 := bt_lt s ((i + 1 : Nat) : Int)
  have r2 := bt_lt s ((i + 2 : Nat) : Int)
  unfold percent_triple.f
  by_cases h3 : i + 2 < s.size
  · have hall : allB ((s.extract i s.size).extract 1 3) [5] = (ofB (bt s ((i + 1 : Nat) : Int)) 5 && ofB (bt s ((i + 2 : Nat) : Int)) 5) := by
      unfold allB
      rw [two_bytes (s.extract i s.size) 1 (by omega)]
      show (_ && (_ && _)) = _
      rw [show bt (s.extract i s.size) ((1 : Nat) : Int) = bt s ((i + 1 : Nat) : Int) from b1, show bt (s.extract i s.size) ((1 + 1 : Nat) : Int) = bt s ((i + 2 : Nat) : Int) from b2]
      simp
    refine Ev.neg (by omega) (Ev.pos (by decide) (Ev.pos (by omega) (Ev.bind (own_ev _ [5] (by decide) (by rw [ByteArray.size_extract]; omega)) ?_)))
    rw [hall]
    cases ho : (ofB (bt s ((i + 1 : Nat) : Int)) 5 && ofB (bt s ((i + 2 : Nat) : Int)) 5) with
    | true =>
      rw [if_pos ⟨h3, rfl⟩]
      obtain ⟨⟨q1, e1⟩, x1, y1⟩ := hv_at r1
      obtain ⟨⟨q2, e2⟩, x2, y2⟩ := hv_at r2
      rw [← b1] at e1
      rw [← b2] at e2
      refine Ev.step (fun _ => percent_triple.j0.eq_2 ..) (Ev.neg (by simp) (Ev.pos (by omega) (Ev.val e1 (Ev.pos (by omega) (Ev.val e2 ((Ev.now _).to ?_))))))
      rw [b1, b2] at *
      have w1 : wrap64 (hv (bt s ((i + 1 : Nat) : Int)) * 16) = hv (bt s ((i + 1 : Nat) : Int)) * 16 := wrap_in (by omega) (by omega)
      rw [w1, wrap_in (by omega) (by omega), Int.emod_eq_of_lt (by omega) (by omega)]
    | false =>
      rw [if_neg (fun e => by cases e.2)]
      exact Ev.step (fun _ => percent_triple.j0.eq_2 ..) (Ev.pos rfl (Ev.now _))
  · rw [if_neg (fun e => h3 e.1)]
    exact Ev.pos (by omega) (Ev.step (fun _ => percent_triple.j0.eq_2 ..) (Ev.pos rfl (Ev.now _)))
def resA (acc : List Int) (o : Option (List Int)) : ByteArray × Bool := match o with
  | some l => (strOfNums (acc ++ l), true)
  | none => (⟨#[]⟩, false)
theorem resA_map (acc p : List Int) (o : Option (List Int)) : resA acc (o.map (p ++ ·)) = resA (acc ++ p) o := by
  cases o with
  | none => rfl
  | some l => simp [resA]
theorem resA_cons (acc : List Int) (c : Int) (o : Option (List Int)) : resA acc (o.map (c :: ·)) = resA (acc ++ [c]) o := by
  cases o with
  | none => rfl
  | some l => simp [resA]
theorem drop3 (s : ByteArray) (i : Nat) (h : i + 2 < s.size) : (bytesOf s).drop i = bt s (i : Int) :: bt s ((i + 1 : Nat) : Int) :: bt s ((i + 2 : Nat) : Int) :: (bytesOf s).drop (i + 3) := by
  rw [drop_bytes s i (by omega), drop_bytes s (i + 1) (by omega), drop_bytes s (i + 1 + 1) (by omega)]
/-- may a byte stand for itself? -/
def letterR (c : Int) : Bool := (decide (97 ≤ c) && decide (c ≤ 122)) || (decide (65 ≤ c) && decide (c ≤ 90))
def digitR (c : Int) : Bool := decide (48 ≤ c) && decide (c ≤ 57)
def freeB (c : Int) : Bool := letterR c || (digitR c || (decide (c = 45) || (decide (c = 46) || (decide (c = 95) || (c == 126)))))
def digT : ByteArray := ⟨#[48, 49, 50, 51, 52, 53, 54, 55, 56, 57, 65, 66, 67, 68, 69, 70]⟩
def normL (c : Int) : List Int := if freeB c = true then [c] else [37, bt digT (c / 16), bt digT (c % 16)]
theorem norm_tab : ∀ n : Fin 256, percent_norm.f (n.val : Int) = some (strOfNums (normL (n.val : Int))) := by decide +kernel
theorem norm_some {c : Int} (h0 : 0 ≤ c) (h1 : c < 256) : percent_norm.f c = some (strOfNums (normL c)) ∧ (normL c).length ≤ 3 := by
  refine ⟨byte_all (p := fun c => percent_norm.f c = some (strOfNums (normL c))) norm_tab h0 h1, ?_⟩
  unfold normL
  split <;> simp
def oneL (c : Int) : List Int := [c]
theorem one_some {c : Int} (h0 : 0 ≤ c) (h1 : c < 256) : percent_Decode_1.f c = some (strOfNums (oneL c)) ∧ (oneL c).length ≤ 3 := ⟨rfl, by simp [oneL]⟩
theorem percent_norm_turned_ev (s : ByteArray) (hs : s.size ≤ 1000000) (d : Nat) : ∀ (i : Nat) (acc : List Int), i + d = s.size → acc.length ≤ 3 * i → Ev (fun k => percent_norm_turned.l0 k s (strOfNums acc) i) (resA acc (turnL normL ((bytesOf s).drop i))) := by
  induction d using Nat.strongRecOn with
  | ind d ih =>
    intro i acc hi ha
    have hz := nums_size acc
    refine Ev.step (fun _ => percent_norm_turned.l0.eq_2 ..) (Ev.pos (by omega) ?_)
    by_cases hd : d = 0
    · refine Ev.neg (by omega) ((Ev.now _).to ?_)
      rw [List.drop_of_length_le (by rw [bytesOf_length]; omega)]
      simp [turnL, resA]
    · refine Ev.pos (by omega) ?_
      by_cases h37 : bt s (i : Int) = 37
      · refine Ev.pos h37 (Ev.bind (triple_ev s hs i (by omega)) ?_)
        by_cases h3 : i + 2 < s.size
        · rw [drop3 s i h3, h37, turn_pct]
          cases ho : (ofB (bt s ((i + 1 : Nat) : Int)) 5 && ofB (bt s ((i + 2 : Nat) : Int)) 5) with
          | true =>
            rw [if_pos ⟨h3, rfl⟩, if_pos rfl, resA_map]
            have r1 := (hv_at (bt_lt s ((i + 1 : Nat) : Int))).2
            have r2 := (hv_at (bt_lt s ((i + 2 : Nat) : Int))).2
            have hp := norm_some (c := hv (bt s ((i + 1 : Nat) : Int)) * 16 + hv (bt s ((i + 2 : Nat) : Int))) (by omega) (by omega)
            have hn := ih (d - 3) (by omega) (i + 3) (acc ++ normL (hv (bt s ((i + 1 : Nat) : Int)) * 16 + hv (bt s ((i + 2 : Nat) : Int)))) (by omega) (by rw [List.length_append]; have := hp.2; omega)
            rw [nums_app] at hn
            exact Ev.pos rfl (Ev.val hp.1 (Ev.pos ⟨by omega, by rw [nums_size]; have := hp.2; omega⟩ hn))
          | false =>
            rw [if_neg (fun e => by cases e.2), if_neg (by simp)]
            exact Ev.neg (by simp) (Ev.now _)
        · rw [drop_bytes s i (by omega), h37, turn_short _ _ (by rw [List.length_drop, bytesOf_length]; omega), if_neg (fun e => h3 e.1)]
          exact Ev.neg (by simp) (Ev.now _)
      · rw [drop_bytes s i (by omega), turn_plain _ h37, resA_cons]
        have hn := ih (d - 1) (by omega) (i + 1) (acc ++ [bt s (i : Int)]) (by omega) (by rw [List.length_append]; show _ + 1 ≤ _; omega)
        rw [nums_app] at hn
        exact Ev.neg h37 hn
theorem percent_norm_turned_all (s : ByteArray) (hs : s.size ≤ 1000000) : Ev (fun k => percent_norm_turned.f k s) (resA [] (turnL normL (bytesOf s))) := by
  unfold percent_norm_turned.f
  have := percent_norm_turned_ev s hs s.size 0 [] (by omega) (by simp)
  rw [nums_nil, List.drop_zero] at this
  exact Ev.pos (by omega) this
theorem percent_Decode_1_turned_ev (s : ByteArray) (hs : s.size ≤ 1000000) (d : Nat) : ∀ (i : Nat) (acc : List Int), i + d = s.size → acc.length ≤ 3 * i → Ev (fun k => percent_Decode_1_turned.l0 k s (strOfNums acc) i) (resA acc (turnL oneL ((bytesOf s).drop i))) := by
  induction d using Nat.strongRecOn with
  | ind d ih =>
    intro i acc hi ha
    have hz := nums_size acc
    refine Ev.step (fun _ => percent_Decode_1_turned.l0.eq_2 ..) (Ev.pos (by omega) ?_)
    by_cases hd : d = 0
    · refine Ev.neg (by omega) ((Ev.now _).to ?_)
      rw [List.drop_of_length_le (by rw [bytesOf_length]; omega)]
      simp [turnL, resA]
    · refine Ev.pos (by omega) ?_
      by_cases h37 : bt s (i : Int) = 37
      · refine Ev.pos h37 (Ev.bind (triple_ev s hs i (by omega)) ?_)
        by_cases h3 : i + 2 < s.size
        · rw [drop3 s i h3, h37, turn_pct]
          cases ho : (ofB (bt s ((i + 1 : Nat) : Int)) 5 && ofB (bt s ((i + 2 : Nat) : Int)) 5) with
          | true =>
            rw [if_pos ⟨h3, rfl⟩, if_pos rfl, resA_map]
            have r1 := (hv_at (bt_lt s ((i + 1 : Nat) : Int))).2
            have r2 := (hv_at (bt_lt s ((i + 2 : Nat) : Int))).2
            have hp := one_some (c := hv (bt s ((i + 1 : Nat) : Int)) * 16 + hv (bt s ((i + 2 : Nat) : Int))) (by omega) (by omega)
            have hn := ih (d - 3) (by omega) (i + 3) (acc ++ oneL (hv (bt s ((i + 1 : Nat) : Int)) * 16 + hv (bt s ((i + 2 : Nat) : Int)))) (by omega) (by rw [List.length_append]; have := hp.2; omega)
            rw [nums_app] at hn
            exact Ev.pos rfl (Ev.val hp.1 (Ev.pos ⟨by omega, by rw [nums_size]; have := hp.2; omega⟩ hn))
          | false =>
            rw [if_neg (fun e => by cases e.2), if_neg (by simp)]
            exact Ev.neg (by simp) (Ev.now _)
        · rw [drop_bytes s i (by omega), h37, turn_short _ _ (by rw [List.length_drop, bytesOf_length]; omega), if_neg (fun e => h3 e.1)]
          exact Ev.neg (by simp) (Ev.now _)
      · rw [drop_bytes s i (by omega), turn_plain _ h37, resA_cons]
        have hn := ih (d - 1) (by omega) (i + 1) (acc ++ [bt s (i : Int)]) (by omega) (by rw [List.length_append]; show _ + 1 ≤ _; omega)
        rw [nums_app] at hn
        exact Ev.neg h37 hn
theorem percent_Decode_1_turned_all (s : ByteArray) (hs : s.size ≤ 1000000) : Ev (fun k => percent_Decode_1_turned.f k s) (resA [] (turnL oneL (bytesOf s))) := by
  unfold percent_Decode_1_turned.f
  have := percent_Decode_1_turned_ev s hs s.size 0 [] (by omega) (by simp)
  rw [nums_nil, List.drop_zero] at this
  exact Ev.pos (by omega) this
/-- segments without dots -/
def stackB (st : List ByteArray) (s : ByteArray) : List ByteArray := if s.toList = ([46, 46] : List UInt8) then st.take (st.length - 1) else if s.toList = ([46] : List UInt8) then st else st ++ [s]
def isDot (s : ByteArray) : Bool := decide (s.toList = ([46, 46] : List UInt8) ∨ s.toList = ([46] : List UInt8))
def foldB (l : List ByteArray) : List ByteArray := l.foldl stackB []
def dotsB (l : List ByteArray) : List ByteArray := if l.getLast?.any isDot = true then foldB l ++ [nilT] else if (foldB l).length = 0 then foldB l ++ [nilT] else foldB l
theorem foldB_snoc (l : List ByteArray) (s : ByteArray) : foldB (l ++ [s]) = stackB (foldB l) s := by unfold foldB; rw [List.foldl_append]; rfl
theorem stack_len (st : List ByteArray) (s : ByteArray) : (stackB st s).length ≤ st.length + 1 := by
  unfold stackB
  split
  · rw [List.length_take]; omega
  · split
    · omega
    · rw [List.length_append]; exact Nat.le_refl _
theorem fold_len (l : List ByteArray) : (foldB l).length ≤ l.length := by
  suffices h : ∀ st : List ByteArray, (l.foldl stackB st).length ≤ st.length + l.length by have := h []; unfold foldB; simpa using this
  induction l with
  | nil => intro st; exact Nat.le_refl _
  | cons s l ih =>
    intro st
    have h1 := ih (stackB st s)
    have h2 := stack_len st s
    rw [List.foldl_cons, List.length_cons]; omega
theorem stack_mem {st : List ByteArray} {s x : ByteArray} (h : x ∈ stackB st s) : x ∈ st ∨ x = s := by
  unfold stackB at h
  split at h
  · exact .inl (List.mem_of_mem_take h)
  · split at h
    · exact .inl h
    · rcases List.mem_append.mp h with h | h
      · exact .inl h
      · exact .inr (by simpa using h)
theorem fold_mem (l : List ByteArray) : ∀ x ∈ foldB l, x ∈ l := by
  suffices h : ∀ st : List ByteArray, ∀ x ∈ l.foldl stackB st, x ∈ st ∨ x ∈ l by
    intro x hx
    rcases h [] x hx with h | h
    · cases h
    · exact h
  induction l with
  | nil => intro st x hx; exact .inl hx
  | cons s l ih =>
    intro st x hx
    rw [List.foldl_cons] at hx
    rcases ih _ x hx with h | h
    · rcases stack_mem h with h | h
      · exact .inl h
      · exact .inr (by simp [h])
    · exact .inr (by simp [h])
theorem dots_mem (l : List ByteArray) : ∀ x ∈ dotsB l, x ∈ l ∨ x = nilT := by
  intro x hx
  unfold dotsB at hx
  split at hx
  · rcases List.mem_append.mp hx with h | h
    · exact .inl (fold_mem l x h)
    · exact .inr (by simpa using h)
  · split at hx
    · rcases List.mem_append.mp hx with h | h
      · exact .inl (fold_mem l x h)
      · exact .inr (by simpa using h)
    · exact .inl (fold_mem l x hx)
theorem dots_len (l : List ByteArray) : (dotsB l).length ≤ l.length + 1 ∧ 0 < (dotsB l).length := by
  have := fold_len l
  unfold dotsB
  split
  · rw [List.length_append]; exact ⟨by show _ + 1 ≤ _; omega, by show 0 < _ + 1; omega⟩
  · split
    · rw [List.length_append]; exact ⟨by show _ + 1 ≤ _; omega, by show 0 < _ + 1; omega⟩
    · exact ⟨by omega, by omega⟩
theorem take_snoc (l : List ByteArray) (i : Nat) (h : i < l.length) : l.take (i + 1) = l.take i ++ [rdOf ByteArray.empty l (i : Int)] := by
  rw [List.take_succ_eq_append_getElem h]; unfold rdOf; simp [List.getD_eq_getElem?_getD, h]
theorem last_is (l : List ByteArray) (i : Nat) (h : i + 1 = l.length) : l.getLast? = some (rdOf ByteArray.empty l (i : Int)) := by
  have e := take_snoc l i (by omega)
  rw [List.take_of_length_le (by omega)] at e
  conv => lhs; rw [e]
  simp
/-- dots, by any loop of this kind -/
theorem dots_gen (L : Nat → List ByteArray → Int → Option (List ByteArray)) (segs : List ByteArray) (hn : segs.length ≤ 1000000)
    (fin : ∀ st : List ByteArray, st.length ≤ 1000001 → Ev (fun k => L k st (segs.length : Int)) (if st.length = 0 then st ++ [nilT] else st))
    (step : ∀ (st : List ByteArray) (i : Nat) (R : List ByteArray), st.length ≤ 1000000 → i < segs.length →
      (i + 1 = segs.length → isDot (rdOf ByteArray.empty segs (i : Int)) = true → Ev (fun k => L k (stackB st (rdOf ByteArray.empty segs (i : Int)) ++ [nilT]) ((i + 1 : Nat) : Int)) R) →
      ((i + 1 = segs.length → isDot (rdOf ByteArray.empty segs (i : Int)) = false) → Ev (fun k => L k (stackB st (rdOf ByteArray.empty segs (i : Int))) ((i + 1 : Nat) : Int)) R) → Ev (fun k => L k st (i : Int)) R) : Ev (fun k => L k [] 0) (dotsB segs) := by
  have loop : ∀ d i : Nat, i + (d + 1) = segs.length → Ev (fun k => L k (foldB (segs.take i)) (i : Int)) (dotsB segs) := by
    intro d
    induction d with
    | zero =>
      intro i hi
      have hs := take_snoc segs i (by omega)
      rw [List.take_of_length_le (by omega)] at hs
      have hf : foldB segs = stackB (foldB (segs.take i)) (rdOf ByteArray.empty segs (i : Int)) := by conv => lhs; rw [hs]; rw [foldB_snoc]
      have hlast := last_is segs i (by omega)
      have hl := fold_len (segs.take i)
      rw [List.length_take] at hl
      have hl2 := stack_len (foldB (segs.take i)) (rdOf ByteArray.empty segs (i : Int))
      have hi1 : i + 1 = segs.length := by omega
      refine step _ i _ (by omega) (by omega) (fun _ hd => ?_) (fun hd => ?_)
      · rw [hi1]
        refine (fin _ (by rw [List.length_append]; show _ + 1 ≤ _; omega)).to ?_
        rw [if_neg (by rw [List.length_append]; show ¬ _ + 1 = 0; omega)]
        unfold dotsB
        rw [hlast, Option.any_some, hd, if_pos rfl, hf]
      · rw [hi1]
        refine (fin _ (by omega)).to ?_
        unfold dotsB
        rw [hlast, Option.any_some, hd hi1, if_neg (c := (false = true)) (by simp), hf]
    | succ d ih =>
      intro i hi
      have hl := fold_len (segs.take i)
      rw [List.length_take] at hl
      refine step _ i _ (by omega) (by omega) (fun h => absurd h (by omega)) (fun _ => ?_)
      have := ih (i + 1) (by omega)
      rw [take_snoc segs i (by omega), foldB_snoc] at this
      exact this
  cases h : segs.length with
  | zero =>
    have : segs = [] := List.length_eq_zero_iff.mp h
    subst this
    exact fin [] (by decide)
  | succ d => exact loop d 0 (by omega)
theorem dots_ev (segs : List ByteArray) (hn : segs.length ≤ 1000000) : Ev (fun k => percent_Dots.f k segs) (dotsB segs) := by
  unfold percent_Dots.f
  refine dots_gen (fun k st i => percent_Dots.l0 k segs st segs (segs.length : Int) i) segs hn (fun st hst => ?_) (fun st i R hst0 hi hlast hnext => ?_)
  · refine Ev.step (fun _ => percent_Dots.l0.eq_2 ..) (Ev.neg (by omega) ?_)
    by_cases h : st.length = 0
    · rw [if_pos h]
      exact Ev.pos (by omega) (Ev.pos (by omega) (Ev.now _))
    · rw [if_neg h]
      exact Ev.neg (by omega) (Ev.now _)
  · have hw : wrap64 ((segs.length : Int) - 1) = ((segs.length - 1 : Nat) : Int) := by rw [wrap_in (by omega) (by omega)]; omega
    have hm : mx (wrap64 ((st.length : Int) - 1)) 0 = ((st.length - 1 : Nat) : Int) := by
      rw [wrap_in (by omega) (by omega)]; unfold mx; split <;> omega
    refine Ev.step (fun _ => percent_Dots.l0.eq_2 ..) (Ev.pos (by omega) (Ev.pos (by omega) (Ev.pos (by omega) ?_)))
    rw [hw, hm, wrap_nat (by omega), Int.toNat_natCast]
    generalize rdOf ByteArray.empty segs (i : Int) = s at hlast hnext ⊢
    by_cases h2 : s.toList = ([46, 46] : List UInt8)
    · have hs : stackB st s = st.take (st.length - 1) := if_pos h2
      have hd : isDot s = true := decide_eq_true (.inl h2)
      rw [hs] at hlast hnext
      refine Ev.pos h2 (Ev.pos (by omega) (Ev.pos (by omega) (Ev.val rfl ?_)))
      by_cases hl : i + 1 = segs.length
      · exact Ev.pos (by omega) (Ev.pos (by rw [List.length_take]; omega) (hlast hl hd))
      · exact Ev.neg (by omega) (hnext (fun e => absurd e hl))
    · by_cases h1 : s.toList = ([46] : List UInt8)
      · have hs : stackB st s = st := (if_neg h2).trans (if_pos h1)
        have hd : isDot s = true := decide_eq_true (.inr h1)
        rw [hs] at hlast hnext
        refine Ev.neg h2 (Ev.pos h1 ?_)
        by_cases hl : i + 1 = segs.length
        · exact Ev.pos (by omega) (Ev.pos (by omega) (hlast hl hd))
        · exact Ev.neg (by omega) (hnext (fun e => absurd e hl))
      · have hs : stackB st s = st ++ [s] := (if_neg h2).trans (if_neg h1)
        have hd : isDot s = false := decide_eq_false (fun h => h.elim h2 h1)
        rw [hs] at hnext
        exact Ev.neg h2 (Ev.neg h1 (Ev.pos (by omega) (hnext (fun _ => hd))))
/-- a text's segments -/
def segB (s : ByteArray) : List ByteArray := if prefB s (⟨#[47]⟩ : ByteArray) = true then parts 47 (s.extract 1 s.size) else []
theorem bt_zero {s : ByteArray} {b : UInt8} {t : List UInt8} (h : s.data.toList = b :: t) : bt s 0 = (b.toNat : Int) := by
  have h0 : s.size ≠ 0 := by rw [← data_length, h]; simp
  have hb := drop_bytes s 0 (by omega)
  rw [List.drop_zero] at hb
  unfold bytesOf at hb
  rw [h, List.map_cons, List.cons.injEq] at hb
  exact hb.1.symm
theorem pref_nil (s : ByteArray) (h0 : s.size = 0) : prefB s (⟨#[47]⟩ : ByteArray) = false := by
  have hd : s.data.toList = [] := by rw [← data_length] at h0; exact List.length_eq_zero_iff.mp h0
  unfold prefB
  rw [ByteArray.toList_eq, ByteArray.toList_eq, ext_data, hd]
  rfl
theorem pref_first (s : ByteArray) (h0 : s.size ≠ 0) : prefB s (⟨#[47]⟩ : ByteArray) = (bt s 0 == 47) := by
  cases hs : s.data.toList with
  | nil => exact absurd (by rw [← data_length, hs]; rfl) h0
  | cons b t =>
    rw [bt_zero hs]
    unfold prefB
    rw [ByteArray.toList_eq, ByteArray.toList_eq, ext_data, hs]
    show ([b] == [47]) = _
    rw [Bool.eq_iff_iff, beq_iff_eq, beq_iff_eq]
    constructor
    · intro e
      have : b = 47 := by simpa using e
      rw [this]; rfl
    · intro e
      have : b = 47 := UInt8.toNat_inj.mp (show b.toNat = 47 by omega)
      rw [this]
theorem nil_is (s : ByteArray) : s.toList = ([] : List UInt8) ↔ s.size = 0 := by
  rw [ByteArray.toList_eq, ← data_length s]
  cases s.data.toList <;> simp
theorem seg_ev (s : ByteArray) (hs : s.size ≤ 1000000) : Ev (fun k => percent_Segments.f k s) (segB s) := by
  unfold percent_Segments.f segB
  refine Ev.val (prefix_some s _) ?_
  cases hp : prefB s (⟨#[47]⟩ : ByteArray) with
  | true =>
    have h0 : s.size ≠ 0 := fun e => by rw [pref_nil s e] at hp; cases hp
    exact Ev.pos rfl (Ev.pos (by omega) (Ev.bind (split_ev 47 _ (by rw [ByteArray.size_extract]; omega)) ((Ev.now _).to (by simp))))
  | false => exact Ev.neg (by simp) ((Ev.now _).to (by simp))
theorem seg_size (s : ByteArray) : (∀ x ∈ segB s, x.size ≤ s.size) ∧ (segB s).length ≤ s.size + 1 := by
  unfold segB
  split
  · have hz : (s.extract 1 s.size).size ≤ s.size := by rw [ByteArray.size_extract]; omega
    refine ⟨fun x hx => Nat.le_trans (parts_size hx) hz, ?_⟩
    rw [parts_len]
    have := count_le_size 47 (s.extract 1 s.size)
    omega
  · exact ⟨fun x hx => (by cases hx), Nat.zero_le _⟩
/-- segments, one behind another -/
def joinR (l : List ByteArray) : ByteArray := BA ((l.map fun s => 47 :: s.data.toList).flatten)
theorem joinR_snoc (l : List ByteArray) (x : ByteArray) : joinR (l ++ [x]) = (joinR l ++ (⟨#[47]⟩ : ByteArray)) ++ x := by
  apply ba_inj
  unfold joinR
  rw [data_app, data_app, data_BA, data_BA, List.map_append, List.flatten_append]
  simp
theorem joinR_size (l : List ByteArray) (m : Nat) (hm : ∀ x ∈ l, x.size ≤ m) : (joinR l).size ≤ (m + 1) * l.length := by
  unfold joinR
  rw [size_BA]
  induction l with
  | nil => simp
  | cons x l ih =>
    have h1 := ih (fun y hy => hm y (by simp [hy]))
    have h2 := hm x (by simp)
    rw [List.map_cons, List.flatten_cons, List.length_append, List.length_cons, List.length_cons, data_length, Nat.mul_succ]; omega
theorem join_some (l : List ByteArray) (hl : l.length ≤ 10000) (hm : ∀ x ∈ l, x.size ≤ 1000000) (h0 : 0 < l.length) : ∃ z : ByteArray, strings_Join.f l (⟨#[47]⟩ : ByteArray) = some z ∧ (⟨#[47]⟩ : ByteArray) ++ z = joinR l := by
  refine ⟨⟨(Lib.join (l.map (·.data.toList)) [47]).toArray⟩, ?_, ?_⟩
  · unfold strings_Join.f
    exact if_pos ⟨hl, by decide, List.all_eq_true.mpr fun x hx => decide_eq_true (hm x hx)⟩
  · cases l with
    | nil => simp at h0
    | cons x t =>
      apply ba_inj
      unfold joinR
      rw [data_app, data_BA, List.map_cons, Lib.join_cons, List.map_cons, List.flatten_cons]
      show [47] ++ ((x.data.toList ++ Lib.joinTail [47] (t.map (·.data.toList))).toArray.toList) = _
      unfold Lib.joinTail
      rw [List.map_map]
      simp only [List.toList_toArray, List.cons_append, List.nil_append]
      rfl
/-- a path in the one way, of its bytes -/
def normR (l : List Int) : ByteArray × Bool := (joinR (dotsB (segB (strOfNums l))), true)
def finA (acc : List Int) (o : Option (List Int)) : ByteArray × Bool := match o with
  | some l => normR (acc ++ l)
  | none => (⟨#[]⟩, false)
theorem dots_sizes (s : ByteArray) (hs : s.size ≤ 5000) : (dotsB (segB s)).length ≤ 10000 ∧ ∀ x ∈ dotsB (segB s), x.size ≤ 1000000 := by
  obtain ⟨h1, h2⟩ := seg_size s
  have h3 := (dots_len (segB s)).1
  refine ⟨by omega, fun x hx => ?_⟩
  rcases dots_mem _ x hx with h | h
  · have := h1 x h; omega
  · rw [h]; decide
theorem turn_len (P : Int → List Int) (hP : ∀ c : Int, 0 ≤ c → c < 256 → (P c).length ≤ 3) (d : Nat) : ∀ l : List Int, l.length ≤ d → (∀ x ∈ l, 0 ≤ x ∧ x < 256) → ∀ r, turnL P l = some r → r.length ≤ 3 * l.length := by
  induction d with
  | zero => intro l hl _ r hr; cases l with
    | nil => simp [turnL] at hr; subst hr; simp
    | cons _ _ => simp at hl
  | succ d ih =>
    intro l hl hw r hr
    cases l with
    | nil => simp [turnL] at hr; subst hr; simp
    | cons c t =>
      rw [List.length_cons] at hl
      by_cases hc : c = 37
      · subst hc
        match t, hl, hw, hr with
        | [], _, _, hr => rw [turn_short _ [] (by simp)] at hr; cases hr
        | [_], _, _, hr => rw [turn_short _ _ (by simp)] at hr; cases hr
        | a :: b :: q, hl, hw, hr =>
          rw [turn_pct] at hr
          split at hr
          · obtain ⟨z, hz, rfl⟩ := Option.map_eq_some_iff.mp hr
            have h1 := ih q (by simp at hl; omega) (fun x hx => hw x (by simp [hx])) z hz
            have ha := (hv_at (hw a (by simp))).2
            have hb := (hv_at (hw b (by simp))).2
            have h2 := hP (hv a * 16 + hv b) (by omega) (by omega)
            rw [List.length_append]
            simp only [List.length_cons]
            omega
          · cases hr
      · rw [turn_plain _ hc] at hr
        obtain ⟨z, hz, rfl⟩ := Option.map_eq_some_iff.mp hr
        have h1 := ih t (by omega) (fun x hx => hw x (by simp [hx])) z hz
        simp only [List.length_cons]
        omega
def normB (s : ByteArray) : ByteArray × Bool := if prefB s (⟨#[47]⟩ : ByteArray) = true then finA [] (turnL normL (bytesOf s)) else (⟨#[]⟩, false)
theorem norm_ev (s : ByteArray) (hs : s.size ≤ 1000) : Ev (fun k => percent_Norm.f k s) (normB s) := by
  unfold percent_Norm.f normB
  have bad : ∀ t, Ev (fun k => percent_Norm.j0 k t true) ((⟨#[]⟩ : ByteArray), false) := fun t => Ev.step (fun _ => percent_Norm.j0.eq_2 ..) (Ev.pos rfl (Ev.now _))
  refine Ev.bind (percent_norm_turned_all s (by omega)) ?_
  cases ht : turnL normL (bytesOf s) with
  | none =>
    refine Ev.neg (by simp [resA]) ((bad _).to ?_)
    split <;> rfl
  | some l =>
    refine Ev.pos rfl (Ev.val (prefix_some s _) ?_)
    cases prefB s (⟨#[47]⟩ : ByteArray) with
    | false => exact (bad _).to (by simp)
    | true =>
      have hl := turn_len normL (fun c h0 h1 => (norm_some h0 h1).2) _ (bytesOf s) (Nat.le_refl _) (fun x hx => bytes_lt s hx) l ht
      rw [bytesOf_length] at hl
      have hz : (strOfNums l).size ≤ 3000 := by rw [nums_size]; omega
      obtain ⟨q1, q2⟩ := dots_sizes (strOfNums l) (by omega)
      obtain ⟨_, q3⟩ := seg_size (strOfNums l)
      obtain ⟨z, hj, hjr⟩ := join_some (dotsB (segB (strOfNums l))) q1 q2 (dots_len _).2
      have hzs : ((⟨#[47]⟩ : ByteArray) ++ z).size ≤ (1000000 + 1) * 10000 := by
        rw [hjr]
        exact Nat.le_trans (joinR_size _ 1000000 q2) (Nat.mul_le_mul_left _ q1)
      rw [ByteArray.size_append] at hzs
      refine Ev.step (fun _ => percent_Norm.j0.eq_2 ..) (Ev.neg (by simp) (Ev.bind (seg_ev (strOfNums l) (by omega)) (Ev.bind (dots_ev _ (by omega)) (Ev.val hj (Ev.pos ?_ ((Ev.now _).to ?_))))))
      · have : (⟨#[47]⟩ : ByteArray).size = 1 := rfl
        omega
      · rw [hjr]; rfl
theorem decode_ev (s : ByteArray) (hs : s.size ≤ 1000) : Ev (fun k => percent_Decode.f k s) (resA [] (turnL oneL (bytesOf s))) := by
  unfold percent_Decode.f
  exact Ev.bind (percent_Decode_1_turned_all s (by omega)) (Ev.now _)
def pathsT : List ByteArray := [(⟨#[97]⟩ : ByteArray), (⟨#[98]⟩ : ByteArray), (⟨#[118, 49]⟩ : ByteArray), (⟨#[105, 116, 101, 109]⟩ : ByteArray), (⟨#[55]⟩ : ByteArray), (⟨#[115, 116, 97, 116, 105, 99]⟩ : ByteArray), (⟨#[99, 115, 115]⟩ : ByteArray), (⟨#[]⟩ : ByteArray), (⟨#[46, 46]⟩ : ByteArray), (⟨#[46]⟩ : ByteArray), (⟨#[37, 50, 101, 37, 50, 69]⟩ : ByteArray), (⟨#[37, 52, 49]⟩ : ByteArray), (⟨#[37, 50, 102]⟩ : ByteArray), (⟨#[120]⟩ : ByteArray), (⟨#[37, 122, 122]⟩ : ByteArray), (⟨#[37, 67, 51, 37, 97, 57]⟩ : ByteArray)]
theorem rd_size {l : List ByteArray} {m : Nat} (hm : ∀ x ∈ l, x.size ≤ m) (i : Int) : (rdOf ByteArray.empty l i).size ≤ m := by
  unfold rdOf
  rw [List.getD_eq_getElem?_getD]
  cases h : l[i.toNat]? with
  | none => exact Nat.zero_le _
  | some x => exact hm x (List.mem_of_getElem? h)
theorem path_loop (l : List Int) (hw : ∀ x ∈ l, 0 ≤ x ∧ x < 256) (d : Nat) : ∀ (i : Nat) (s : ByteArray), i + d = l.length → s.size ≤ 10 * i → i ≤ 6 → ∃ t : ByteArray, t.size ≤ 100 ∧ Ev (fun k => parallaxseat_Path.l0 k l pathsT s (i : Int)) t := by
  induction d with
  | zero => intro i s hi hs h6; exact ⟨s, by omega, Ev.step (fun _ => parallaxseat_Path.l0.eq_2 ..) (Ev.neg (by omega) (Ev.now _))⟩
  | succ d ih =>
    intro i s hi hs h6
    by_cases h : i < 6
    · have hr : 0 ≤ rd l (i : Int) ∧ rd l (i : Int) < 256 := by
        rw [rd_nat, List.getD_eq_getElem?_getD, List.getElem?_eq_getElem (by omega), Option.getD_some]
        exact hw _ (List.getElem_mem _)
      have h0 : 0 ≤ Int.tmod (rd l (i : Int)) 16 := by rw [Int.tmod_eq_emod_of_nonneg hr.1]; exact Int.emod_nonneg _ (by decide)
      have h5 : Int.tmod (rd l (i : Int)) 16 < 16 := by rw [Int.tmod_eq_emod_of_nonneg hr.1]; exact Int.emod_lt_of_pos _ (by decide)
      have hz := rd_size (l := pathsT) (m := 6) (by decide) (Int.tmod (rd l (i : Int)) 16)
      have q1 : (⟨#[47]⟩ : ByteArray).size = 1 := rfl
      obtain ⟨t, ht, he⟩ := ih (i + 1) ((s ++ (⟨#[47]⟩ : ByteArray)) ++ rdOf ByteArray.empty pathsT (Int.tmod (rd l (i : Int)) 16)) (by omega) (by rw [ByteArray.size_append, ByteArray.size_append, q1]; omega) (by omega)
      refine ⟨t, ht, Ev.step (fun _ => parallaxseat_Path.l0.eq_2 ..) (Ev.pos (by omega) (Ev.pos (by omega) (Ev.pos (by omega) (Ev.pos (by omega) (Ev.pos h0 (Ev.pos h5 (Ev.pos (by rw [ByteArray.size_append, q1]; omega) ?_)))))))⟩
      rw [wrap_nat (by omega)]
      exact he
    · exact ⟨s, by omega, Ev.step (fun _ => parallaxseat_Path.l0.eq_2 ..) (Ev.pos (by omega) (Ev.neg (by omega) (Ev.now _)))⟩
theorem path_ev (l : List Int) (hw : ∀ x ∈ l, 0 ≤ x ∧ x < 256) : ∃ t : ByteArray, t.size ≤ 100 ∧ Ev (fun k => parallaxseat_Path.f k l) t := by
  unfold parallaxseat_Path.f
  exact path_loop l hw l.length 0 (⟨#[]⟩ : ByteArray) (by omega) (by decide) (by decide)
/-- the two digits of a byte -/
def dg1 (c : Int) : Int := bt digT (c / 16)
def dg2 (c : Int) : Int := bt digT (c % 16)
theorem clean_tab : ∀ n : Fin 256, ((normL (n.val : Int) == [(n.val : Int)]) && ((n.val : Int) != 37) || (normL (n.val : Int) == [37, dg1 (n.val : Int), dg2 (n.val : Int)]) && (ofB (dg1 (n.val : Int)) 5 && ofB (dg2 (n.val : Int)) 5 && (hv (dg1 (n.val : Int)) * 16 + hv (dg2 (n.val : Int)) == (n.val : Int)) && decide (0 ≤ dg1 (n.val : Int) ∧ dg1 (n.val : Int) < 256 ∧ 0 ≤ dg2 (n.val : Int) ∧ dg2 (n.val : Int) < 256))) = true := by decide +kernel
theorem norm_two {c : Int} (h0 : 0 ≤ c) (h1 : c < 256) : (normL c = [c] ∧ c ≠ 37) ∨ ∃ a b, normL c = [37, a, b] ∧ ofB a 5 = true ∧ ofB b 5 = true ∧ hv a * 16 + hv b = c ∧ (0 ≤ a ∧ a < 256) ∧ (0 ≤ b ∧ b < 256) := by
  have := byte_all (p := fun c => ((normL c == [c]) && (c != 37) || (normL c == [37, dg1 c, dg2 c]) && (ofB (dg1 c) 5 && ofB (dg2 c) 5 && (hv (dg1 c) * 16 + hv (dg2 c) == c) && decide (0 ≤ dg1 c ∧ dg1 c < 256 ∧ 0 ≤ dg2 c ∧ dg2 c < 256))) = true) clean_tab h0 h1
  rw [Bool.or_eq_true] at this
  rcases this with h | h
  · rw [Bool.and_eq_true, beq_iff_eq, bne_iff_ne] at h
    exact .inl h
  · rw [Bool.and_eq_true, beq_iff_eq, Bool.and_eq_true, Bool.and_eq_true, Bool.and_eq_true, beq_iff_eq, decide_eq_true_eq] at h
    obtain ⟨e, ⟨⟨⟨e1, e2⟩, e3⟩, e4⟩⟩ := h
    exact .inr ⟨_, _, e, e1, e2, e3, ⟨e4.1, e4.2.1⟩, ⟨e4.2.2.1, e4.2.2.2⟩⟩
/-- bytes that are written in the one way -/
def cleanB : List Int → Bool
  | [] => true
  | [c] => c != 37
  | [c, a] => c != 37 && a != 37
  | c :: a :: b :: r => if c = 37 then (ofB a 5 && ofB b 5 && (normL (hv a * 16 + hv b) == [37, a, b])) && cleanB r else cleanB (a :: b :: r)
theorem clean_plain {c : Int} (h : c ≠ 37) (l : List Int) : cleanB (c :: l) = cleanB l := by
  cases l with
  | nil => simp [cleanB, h]
  | cons a l => cases l with
    | nil => simp [cleanB, h]
    | cons b l => simp [cleanB, h]
theorem clean_pct (a b : Int) (r : List Int) : cleanB (37 :: a :: b :: r) = ((ofB a 5 && ofB b 5 && (normL (hv a * 16 + hv b) == [37, a, b])) && cleanB r) := by simp [cleanB]
theorem clean_short (l : List Int) (hl : l.length < 2) : cleanB (37 :: l) = false := by
  cases l with
  | nil => simp [cleanB]
  | cons a l => cases l with
    | nil => simp [cleanB]
    | cons b l => simp at hl; omega
/-- how many bytes they stand for -/
def unitsN : List Int → Nat
  | [] => 0
  | [_] => 1
  | [_, _] => 2
  | c :: a :: b :: r => if c = 37 then 1 + unitsN r else 1 + unitsN (a :: b :: r)
theorem units_plain {c : Int} (h : c ≠ 37) (l : List Int) : unitsN (c :: l) = 1 + unitsN l := by
  cases l with
  | nil => simp [unitsN]
  | cons a l => cases l with
    | nil => simp [unitsN]
    | cons b l => simp [unitsN, h]
theorem units_pct (a b : Int) (r : List Int) : unitsN (37 :: a :: b :: r) = 1 + unitsN r := by simp [unitsN]
theorem pct_cases (l : List Int) : l = [] ∨ (∃ c t, l = c :: t ∧ c ≠ 37) ∨ (∃ t, l = 37 :: t ∧ t.length < 2) ∨ ∃ a b r, l = 37 :: a :: b :: r := by
  match l with
  | [] => exact .inl rfl
  | c :: t =>
    by_cases h : c = 37
    · subst h
      match t with
      | [] => exact .inr (.inr (.inl ⟨_, rfl, by simp⟩))
      | [_] => exact .inr (.inr (.inl ⟨_, rfl, by simp⟩))
      | a :: b :: r => exact .inr (.inr (.inr ⟨a, b, r, rfl⟩))
    · exact .inr (.inl ⟨c, t, rfl, h⟩)
/-- what is written in the one way is clean, in range, of as many units; it can be read -/
theorem turn_norm (d : Nat) : ∀ l : List Int, l.length ≤ d → (∀ x ∈ l, 0 ≤ x ∧ x < 256) → ∀ r, turnL normL l = some r → cleanB r = true ∧ (∀ x ∈ r, 0 ≤ x ∧ x < 256) ∧ unitsN r = unitsN l ∧ ∃ z, turnL oneL l = some z ∧ z.length = unitsN l := by
  induction d with
  | zero => intro l hl _ r hr; cases l with
    | nil => simp [turnL] at hr; subst hr; exact ⟨rfl, by simp, rfl, [], by simp [turnL], rfl⟩
    | cons _ _ => simp at hl
  | succ d ih =>
    intro l hl hw r hr
    rcases pct_cases l with rfl | ⟨c, t, rfl, hc⟩ | ⟨t, rfl, ht⟩ | ⟨a, b, q, rfl⟩
    · simp [turnL] at hr; subst hr; exact ⟨rfl, by simp, rfl, [], by simp [turnL], rfl⟩
    · rw [turn_plain _ hc] at hr
      obtain ⟨y, hy, rfl⟩ := Option.map_eq_some_iff.mp hr
      obtain ⟨h1, h2, h3, z, hz, hzl⟩ := ih t (by simp at hl; omega) (fun x hx => hw x (by simp [hx])) y hy
      refine ⟨by rw [clean_plain hc]; exact h1, ?_, by rw [units_plain hc, units_plain hc, h3], c :: z, by rw [turn_plain _ hc, hz]; rfl, by rw [List.length_cons, units_plain hc, hzl]; omega⟩
      intro x hx
      rcases List.mem_cons.mp hx with rfl | hx
      · exact hw _ (by simp)
      · exact h2 x hx
    · rw [turn_short _ _ ht] at hr; cases hr
    · rw [turn_pct] at hr
      split at hr
      · rename_i hh
        obtain ⟨y, hy, rfl⟩ := Option.map_eq_some_iff.mp hr
        obtain ⟨h1, h2, h3, z, hz, hzl⟩ := ih q (by simp at hl; omega) (fun x hx => hw x (by simp [hx])) y hy
        have ha := (hv_at (hw a (by simp))).2
        have hb := (hv_at (hw b (by simp))).2
        have hone : turnL oneL (37 :: a :: b :: q) = some (oneL (hv a * 16 + hv b) ++ z) := by rw [turn_pct, if_pos hh, hz]; rfl
        have hlen : (oneL (hv a * 16 + hv b) ++ z).length = unitsN (37 :: a :: b :: q) := by rw [List.length_append, units_pct, hzl]; rfl
        rcases norm_two (c := hv a * 16 + hv b) (by omega) (by omega) with ⟨e, hne⟩ | ⟨p1, p2, e, e1, e2, e3, w1, w2⟩
        · rw [e]
          refine ⟨by rw [List.singleton_append, clean_plain hne]; exact h1, ?_, by rw [List.singleton_append, units_plain hne, units_pct, h3], _, hone, hlen⟩
          intro x hx
          rcases List.mem_cons.mp hx with rfl | hx
          · exact ⟨by omega, by omega⟩
          · exact h2 x hx
        · rw [e]
          refine ⟨?_, ?_, ?_, _, hone, hlen⟩
          · show cleanB (37 :: p1 :: p2 :: y) = true
            rw [clean_pct, e1, e2, e3, e, h1]
            simp
          · intro x hx
            simp only [List.cons_append, List.nil_append, List.mem_cons] at hx
            rcases hx with rfl | rfl | rfl | hx
            · decide
            · exact w1
            · exact w2
            · exact h2 x hx
          · show unitsN (37 :: p1 :: p2 :: y) = _
            rw [units_pct, units_pct, h3]
      · cases hr
/-- what is clean stays -/
theorem clean_turn (d : Nat) : ∀ l : List Int, l.length ≤ d → cleanB l = true → turnL normL l = some l ∧ ∃ z, turnL oneL l = some z ∧ z.length = unitsN l := by
  induction d with
  | zero => intro l hl _; cases l with
    | nil => exact ⟨by simp [turnL], [], by simp [turnL], rfl⟩
    | cons _ _ => simp at hl
  | succ d ih =>
    intro l hl h
    rcases pct_cases l with rfl | ⟨c, t, rfl, hc⟩ | ⟨t, rfl, ht⟩ | ⟨a, b, q, rfl⟩
    · exact ⟨by simp [turnL], [], by simp [turnL], rfl⟩
    · rw [clean_plain hc] at h
      obtain ⟨h1, z, hz, hzl⟩ := ih t (by simp at hl; omega) h
      exact ⟨by rw [turn_plain _ hc, h1]; rfl, c :: z, by rw [turn_plain _ hc, hz]; rfl, by rw [List.length_cons, units_plain hc, hzl]; omega⟩
    · rw [clean_short _ ht] at h; cases h
    · rw [clean_pct, Bool.and_eq_true, Bool.and_eq_true, beq_iff_eq] at h
      obtain ⟨⟨h1, h2⟩, h3⟩ := h
      obtain ⟨h4, z, hz, hzl⟩ := ih q (by simp at hl; omega) h3
      exact ⟨by rw [turn_pct, if_pos h1, h4, h2]; rfl, oneL (hv a * 16 + hv b) ++ z, by rw [turn_pct, if_pos h1, hz]; rfl, by rw [List.length_append, units_pct, hzl]; rfl⟩
theorem hex47 : ofB 47 5 = false := by decide +kernel
/-- two texts with a slash between -/
theorem clean_mid (d : Nat) : ∀ p q : List Int, p.length ≤ d → cleanB (p ++ 47 :: q) = (cleanB p && cleanB q) ∧ (cleanB p = true → unitsN (p ++ 47 :: q) = unitsN p + (1 + unitsN q)) := by
  induction d with
  | zero => intro p q hp; cases p with
    | nil => exact ⟨by rw [List.nil_append, clean_plain (by decide)]; simp [cleanB], fun _ => by rw [List.nil_append, units_plain (by decide)]; simp [unitsN]⟩
    | cons _ _ => simp at hp
  | succ d ih =>
    intro p q hp
    rcases pct_cases p with rfl | ⟨c, t, rfl, hc⟩ | ⟨t, rfl, ht⟩ | ⟨a, b, r, rfl⟩
    · exact ⟨by rw [List.nil_append, clean_plain (by decide)]; simp [cleanB], fun _ => by rw [List.nil_append, units_plain (by decide)]; simp [unitsN]⟩
    · obtain ⟨h1, h2⟩ := ih t q (by simp at hp; omega)
      rw [List.cons_append, clean_plain hc, clean_plain hc, units_plain hc, units_plain hc]
      exact ⟨h1, fun h => by rw [h2 h]; omega⟩
    · rw [clean_short t ht]
      refine ⟨?_, fun h => by cases h⟩
      rw [Bool.false_and]
      match t, ht with
      | [], _ =>
        cases q with
        | nil => exact clean_short [47] (by simp)
        | cons x q => show cleanB (37 :: 47 :: x :: q) = false; rw [clean_pct, hex47]; simp
      | [a], _ => show cleanB (37 :: a :: 47 :: q) = false; rw [clean_pct, hex47]; simp
    · obtain ⟨h1, h2⟩ := ih r q (by simp at hp; omega)
      show cleanB (37 :: a :: b :: (r ++ 47 :: q)) = _ ∧ (_ → unitsN (37 :: a :: b :: (r ++ 47 :: q)) = _)
      rw [clean_pct, clean_pct, units_pct, units_pct, h1]
      refine ⟨by simp only [Bool.and_assoc], fun h => ?_⟩
      rw [Bool.and_eq_true] at h
      rw [h2 h.2]; omega
def flatI (D : List ByteArray) : List Int := (D.map fun s => 47 :: bytesOf s).flatten
theorem joinR_bytes (D : List ByteArray) : bytesOf (joinR D) = flatI D := by
  unfold joinR flatI bytesOf
  rw [data_BA, List.map_flatten, List.map_map]
  congr 1
def weightB (D : List ByteArray) : Nat := (D.map fun s => unitsN (bytesOf s) + 1).sum
theorem flat_cons (s : ByteArray) (D : List ByteArray) : flatI (s :: D) = 47 :: (bytesOf s ++ flatI D) := by unfold flatI; simp
theorem flat_clean (D : List ByteArray) : cleanB (flatI D) = D.all (fun s => cleanB (bytesOf s)) ∧ (cleanB (flatI D) = true → unitsN (flatI D) = weightB D) := by
  induction D with
  | nil => exact ⟨rfl, fun _ => rfl⟩
  | cons s D ih =>
    rw [flat_cons, clean_plain (by decide), units_plain (by decide), List.all_cons]
    have hw : weightB (s :: D) = unitsN (bytesOf s) + 1 + weightB D := by unfold weightB; simp
    cases D with
    | nil =>
      have e : flatI [] = [] := rfl
      rw [e, List.append_nil]
      refine ⟨by simp, fun _ => ?_⟩
      rw [hw]; simp [weightB]; omega
    | cons s2 D2 =>
      obtain ⟨i1, i2⟩ := ih
      rw [flat_cons, clean_plain (by decide)] at i1 i2
      rw [units_plain (by decide)] at i2
      obtain ⟨m1, m2⟩ := clean_mid _ (bytesOf s) (bytesOf s2 ++ flatI D2) (Nat.le_refl _)
      rw [flat_cons, m1, i1]
      refine ⟨rfl, fun h => ?_⟩
      rw [Bool.and_eq_true] at h
      rw [m2 h.1, i2 (by rw [i1]; exact h.2), hw]; omega
/-- parts have no slash; joined they are the text -/
theorem splitU_no (c : UInt8) (l : List UInt8) : ∀ x ∈ splitU c l, c ∉ x := by
  induction l with
  | nil => intro x hx; simp [splitU] at hx; subst hx; simp
  | cons b l ih =>
    intro x hx
    unfold splitU at hx
    by_cases hb : b = c
    · rw [if_pos hb] at hx
      rcases List.mem_cons.mp hx with rfl | hx
      · simp
      · exact ih x hx
    · rw [if_neg hb] at hx
      cases hs : splitU c l with
      | nil => exact absurd hs (splitU_ne c l)
      | cons y t =>
        rw [hs] at hx ih
        simp only at hx
        rcases List.mem_cons.mp hx with rfl | hx
        · intro hm
          rcases List.mem_cons.mp hm with e | e
          · exact hb e.symm
          · exact ih y (by simp) e
        · exact ih x (by simp [hx])
theorem splitU_flat (c : UInt8) (l : List UInt8) : ((splitU c l).map fun x => c :: x).flatten = c :: l := by
  induction l with
  | nil => simp [splitU]
  | cons b l ih =>
    unfold splitU
    by_cases hb : b = c
    · rw [if_pos hb, List.map_cons, List.flatten_cons, ih, hb]; rfl
    · rw [if_neg hb]
      cases hs : splitU c l with
      | nil => exact absurd hs (splitU_ne c l)
      | cons y t =>
        rw [hs, List.map_cons, List.flatten_cons, List.cons_append, List.cons.injEq] at ih
        simp only [List.map_cons, List.flatten_cons, List.cons_append]
        rw [ih.2]
theorem splitU_back (c : UInt8) (D : List (List UInt8)) (hD : ∀ x ∈ D, c ∉ x) (h0 : D ≠ []) : ∀ l, (D.map fun x => c :: x).flatten = c :: l → splitU c l = D := by
  induction D with
  | nil => exact absurd rfl h0
  | cons x D ih =>
    intro l hl
    rw [List.map_cons, List.flatten_cons, List.cons_append, List.cons.injEq] at hl
    rw [← hl.2]
    cases D with
    | nil => rw [List.map_nil, List.flatten_nil, List.append_nil]; exact splitU_none c x (hD x (by simp))
    | cons y D2 =>
      have hs := ih (fun z hz => hD z (by simp [hz])) (by simp) (y ++ (D2.map fun x => c :: x).flatten) (by simp)
      rw [List.map_cons, List.flatten_cons, List.cons_append, splitU_at c x _ (hD x (by simp)), hs]
theorem pref_is {s : ByteArray} (h : prefB s (⟨#[47]⟩ : ByteArray) = true) : ∃ t, s.data.toList = 47 :: t := by
  cases hs : s.data.toList with
  | nil => rw [pref_nil s (by rw [← data_length, hs]; rfl)] at h; cases h
  | cons b t =>
    rw [pref_first s (by rw [← data_length, hs]; simp), bt_zero hs, beq_iff_eq] at h
    have : b = 47 := UInt8.toNat_inj.mp (show b.toNat = 47 by omega)
    rw [this]; exact ⟨t, rfl⟩
theorem ext_one {s : ByteArray} {t : List UInt8} (h : s.data.toList = 47 :: t) : (s.extract 1 s.size).data.toList = t := by
  have hz : s.size = t.length + 1 := by rw [← data_length, h]; rfl
  rw [ext_data, h, hz, List.drop_one, List.tail_cons, List.take_of_length_le (by omega)]
theorem seg_join {s : ByteArray} (h : prefB s (⟨#[47]⟩ : ByteArray) = true) : joinR (segB s) = s ∧ (∀ x ∈ segB s, (47 : UInt8) ∉ x.data.toList) ∧ segB s ≠ [] := by
  obtain ⟨t, ht⟩ := pref_is h
  have e : segB s = (splitU 47 t).map BA := by unfold segB parts; rw [if_pos h, ext_one ht]
  refine ⟨?_, ?_, ?_⟩
  · apply ba_inj
    unfold joinR
    rw [data_BA, e, List.map_map, ht, ← splitU_flat 47 t]
    congr 1
  · rw [e]
    intro x hx
    obtain ⟨y, hy, rfl⟩ := List.mem_map.mp hx
    rw [data_BA]
    exact splitU_no 47 t y hy
  · rw [e]
    intro h
    exact splitU_ne 47 t (List.map_eq_nil_iff.mp h)
theorem join_seg (D : List ByteArray) (hD : ∀ x ∈ D, (47 : UInt8) ∉ x.data.toList) (h0 : D ≠ []) : segB (joinR D) = D ∧ prefB (joinR D) (⟨#[47]⟩ : ByteArray) = true := by
  have hd : ∃ t, (joinR D).data.toList = 47 :: t := by
    unfold joinR
    rw [data_BA]
    cases D with
    | nil => exact absurd rfl h0
    | cons x D => exact ⟨_, by rw [List.map_cons, List.flatten_cons, List.cons_append]⟩
  obtain ⟨t, ht⟩ := hd
  have hp : prefB (joinR D) (⟨#[47]⟩ : ByteArray) = true := by
    rw [pref_first _ (by rw [← data_length, ht]; simp), bt_zero ht]; rfl
  refine ⟨?_, hp⟩
  unfold segB parts
  rw [if_pos hp, ext_one ht]
  have hf : ((D.map (·.data.toList)).map fun x => (47 : UInt8) :: x).flatten = 47 :: t := by
    rw [List.map_map, ← ht]
    unfold joinR
    rw [data_BA]
    rfl
  rw [splitU_back 47 (D.map (·.data.toList)) (fun x hx => by
    obtain ⟨y, hy, rfl⟩ := List.mem_map.mp hx
    exact hD y hy) (by simpa using h0) t hf, List.map_map]
  have : D.map (BA ∘ fun x => x.data.toList) = D.map id := List.map_congr_left (fun x _ => BA_data x)
  rw [this, List.map_id]
theorem stack_dot {st : List ByteArray} {s : ByteArray} (h : ∀ x ∈ st, isDot x = false) : ∀ x ∈ stackB st s, isDot x = false := by
  intro x hx
  unfold stackB at hx
  split at hx
  · exact h x (List.mem_of_mem_take hx)
  · rename_i h2
    split at hx
    · exact h x hx
    · rename_i h1
      rcases List.mem_append.mp hx with hx | hx
      · exact h x hx
      · have : x = s := by simpa using hx
        rw [this]
        exact decide_eq_false (fun e => e.elim h2 h1)
theorem fold_dot (l : List ByteArray) : ∀ x ∈ foldB l, isDot x = false := by
  suffices h : ∀ st : List ByteArray, (∀ x ∈ st, isDot x = false) → ∀ x ∈ l.foldl stackB st, isDot x = false from h [] (by simp)
  induction l with
  | nil => intro st h; exact h
  | cons s l ih => intro st h; exact ih _ (stack_dot h)
theorem nil_dot : isDot nilT = false := by decide +kernel
theorem dots_dot (l : List ByteArray) : ∀ x ∈ dotsB l, isDot x = false := by
  intro x hx
  unfold dotsB at hx
  have hn : ∀ y ∈ foldB l ++ [nilT], isDot y = false := fun y hy => by
    rcases List.mem_append.mp hy with h | h
    · exact fold_dot l y h
    · have : y = nilT := by simpa using h
      rw [this]; exact nil_dot
  split at hx
  · exact hn x hx
  · split at hx
    · exact hn x hx
    · exact fold_dot l x hx
theorem fold_same (l : List ByteArray) (h : ∀ x ∈ l, isDot x = false) : foldB l = l := by
  suffices g : ∀ st : List ByteArray, l.foldl stackB st = st ++ l by have := g []; unfold foldB; simpa using this
  induction l with
  | nil => intro st; simp
  | cons s l ih =>
    intro st
    have hs : ¬ (s.toList = ([46, 46] : List UInt8) ∨ s.toList = ([46] : List UInt8)) := of_decide_eq_false (h s (by simp))
    have e : stackB st s = st ++ [s] := (if_neg (fun x => hs (.inl x))).trans (if_neg (fun x => hs (.inr x)))
    rw [List.foldl_cons, e, ih (fun x hx => h x (by simp [hx]))]
    simp
theorem dots_same (l : List ByteArray) (h : ∀ x ∈ l, isDot x = false) (h0 : l ≠ []) : dotsB l = l := by
  unfold dotsB
  rw [fold_same l h]
  have hl : l.getLast?.any isDot = false := by
    cases hg : l.getLast? with
    | none => rfl
    | some x => exact h x (List.mem_of_getLast? hg)
  rw [hl, if_neg (by simp), if_neg (fun e => h0 (List.length_eq_zero_iff.mp e))]
theorem weight_app (a b : List ByteArray) : weightB (a ++ b) = weightB a + weightB b := by unfold weightB; simp
theorem weight_take (a : List ByteArray) (n : Nat) : weightB (a.take n) ≤ weightB a := by
  have := congrArg weightB (List.take_append_drop n a)
  rw [weight_app] at this; omega
theorem weight_one (s : ByteArray) : weightB [s] = unitsN (bytesOf s) + 1 := by unfold weightB; simp
theorem stack_weight (st : List ByteArray) (s : ByteArray) : weightB (stackB st s) ≤ weightB st + weightB [s] ∧ (isDot s = true → weightB (stackB st s) ≤ weightB st) := by
  unfold stackB
  split
  · exact ⟨Nat.le_trans (weight_take _ _) (Nat.le_add_right _ _), fun _ => weight_take _ _⟩
  · rename_i h2
    split
    · exact ⟨Nat.le_add_right _ _, fun _ => Nat.le_refl _⟩
    · rename_i h1
      exact ⟨by rw [weight_app]; exact Nat.le_refl _, fun h => absurd (of_decide_eq_true h) (fun e => e.elim h2 h1)⟩
theorem fold_weight (l : List ByteArray) : weightB (foldB l) ≤ weightB l := by
  suffices g : ∀ st : List ByteArray, weightB (l.foldl stackB st) ≤ weightB st + weightB l by have := g []; unfold foldB; simpa [weightB] using this
  induction l with
  | nil => intro st; simp [weightB]
  | cons s l ih =>
    intro st
    have h1 := ih (stackB st s)
    have h2 := (stack_weight st s).1
    have h3 : weightB (s :: l) = weightB [s] + weightB l := weight_app [s] l
    rw [List.foldl_cons, h3]; omega
theorem dot_units (s : ByteArray) (h : isDot s = true) : 1 ≤ unitsN (bytesOf s) := by
  have hb : ∀ l : List UInt8, s.toList = l → bytesOf s = l.map fun b => (b.toNat : Int) := fun l e => by
    unfold bytesOf; rw [← e, ByteArray.toList_eq]
  rcases of_decide_eq_true h with e | e
  · rw [hb _ e]; decide
  · rw [hb _ e]; decide
theorem dots_weight (l : List ByteArray) (h0 : l ≠ []) : weightB (dotsB l) ≤ weightB l := by
  have e := List.dropLast_concat_getLast h0
  generalize l.getLast h0 = s at e
  generalize l.dropLast = i at e
  subst e
  have hg : (i ++ [s]).getLast? = some s := by simp
  have hs := stack_weight (foldB i) s
  have hi := fold_weight i
  unfold dotsB
  rw [hg, Option.any_some, foldB_snoc, weight_app i [s]]
  cases hd : isDot s with
  | true =>
    have h1 := dot_units s hd
    have h2 := hs.2 hd
    have h3 : weightB [nilT] = 1 := by decide
    rw [if_pos rfl, weight_app, h3, weight_one]; omega
  | false =>
    have hst : stackB (foldB i) s = foldB i ++ [s] := by
      have hn : ¬ (s.toList = ([46, 46] : List UInt8) ∨ s.toList = ([46] : List UInt8)) := of_decide_eq_false hd
      exact (if_neg (fun x => hn (.inl x))).trans (if_neg (fun x => hn (.inr x)))
    rw [if_neg (by simp), if_neg (by rw [hst, List.length_append]; show ¬ _ + 1 = 0; omega)]
    have := hs.1
    omega
/-- what is written in the one way stays, has no dots, stands for no more bytes -/
theorem once {x : ByteArray} (h : (normB x).2 = true) : ∃ D : List ByteArray, (normB x).1 = joinR D ∧ normB (joinR D) = (joinR D, true) ∧ segB (joinR D) = D ∧ prefB (joinR D) (⟨#[47]⟩ : ByteArray) = true ∧ (∀ s ∈ D, isDot s = false) ∧ (resA [] (turnL oneL (bytesOf (joinR D)))).1.size ≤ (resA [] (turnL oneL (bytesOf x))).1.size := by
  unfold normB at h ⊢
  cases hp : prefB x (⟨#[47]⟩ : ByteArray) with
  | false => rw [hp, if_neg (by simp)] at h; cases h
  | true =>
    rw [hp, if_pos rfl] at h
    rw [if_pos rfl]
    cases ht : turnL normL (bytesOf x) with
    | none => rw [ht] at h; cases h
    | some l =>
      obtain ⟨hcl, hrange, hun, z, hz, hzl⟩ := turn_norm _ (bytesOf x) (Nat.le_refl _) (fun y hy => bytes_lt x hy) l ht
      have hb : bytesOf (strOfNums l) = l := LowP.bytes_nums hrange
      have hpt : prefB (strOfNums l) (⟨#[47]⟩ : ByteArray) = true := by
        obtain ⟨t, htx⟩ := pref_is hp
        have hx : bytesOf x = 47 :: t.map fun b => (b.toNat : Int) := by unfold bytesOf; rw [htx]; rfl
        rw [hx, turn_plain _ (by decide)] at ht
        obtain ⟨y, hy, rfl⟩ := Option.map_eq_some_iff.mp ht
        have hd : (strOfNums (47 :: y)).data.toList = 47 :: y.map fun x => UInt8.ofNat x.toNat := by rw [strOfNums_data]; rfl
        rw [pref_first _ (by rw [← data_length, hd]; simp), bt_zero hd]
        rfl
      obtain ⟨j1, j2, j3⟩ := seg_join hpt
      generalize hS : segB (strOfNums l) = S at j1 j2 j3
      have hc1 := (flat_clean S).1
      have hu1 := (flat_clean S).2
      rw [← joinR_bytes, j1, hb] at hc1 hu1
      rw [hcl] at hc1
      have hall := List.all_eq_true.mp hc1.symm
      have hmem := dots_mem S
      have hDc : (dotsB S).all (fun s => cleanB (bytesOf s)) = true := List.all_eq_true.mpr fun s hs => by
        rcases hmem s hs with h | h
        · exact hall s h
        · rw [h]; rfl
      have hD47 : ∀ s ∈ dotsB S, (47 : UInt8) ∉ s.data.toList := fun s hs => by
        rcases hmem s hs with h | h
        · exact j2 s h
        · rw [h]; simp [nilT]
      have hD0 : dotsB S ≠ [] := fun e => by have := (dots_len S).2; rw [e] at this; simp at this
      obtain ⟨q1, q2⟩ := join_seg (dotsB S) hD47 hD0
      have hac : cleanB (bytesOf (joinR (dotsB S))) = true := by rw [joinR_bytes, (flat_clean _).1, hDc]
      have hau : unitsN (bytesOf (joinR (dotsB S))) = weightB (dotsB S) := by rw [joinR_bytes]; exact (flat_clean _).2 (by rw [← joinR_bytes]; exact hac)
      obtain ⟨g1, z2, g2, g3⟩ := clean_turn _ (bytesOf (joinR (dotsB S))) (Nat.le_refl _) hac
      have hnd := dots_dot S
      refine ⟨dotsB S, ?_, ?_, q1, q2, hnd, ?_⟩
      · show joinR (dotsB (segB (strOfNums ([] ++ l)))) = _
        rw [List.nil_append, hS]
      · show (if prefB (joinR (dotsB S)) (⟨#[47]⟩ : ByteArray) = true then finA [] (turnL normL (bytesOf (joinR (dotsB S)))) else ((⟨#[]⟩ : ByteArray), false)) = _
        rw [if_pos q2, g1]
        show (joinR (dotsB (segB (strOfNums ([] ++ bytesOf (joinR (dotsB S)))))), true) = _
        rw [List.nil_append, LowP.nums_bytes, q1, dots_same _ hnd hD0]
      · rw [hz, g2]
        show (strOfNums ([] ++ z2)).size ≤ (strOfNums ([] ++ z)).size
        rw [List.nil_append, List.nil_append, nums_size, nums_size, g3, hzl, hau, ← hun, hu1 hcl]
        exact dots_weight S j3
theorem flat_len (D : List ByteArray) : (flatI D).length = (joinR D).size := by rw [← joinR_bytes, bytesOf_length]
def lenD (D : List ByteArray) : Nat := (D.map fun s => s.size + 1).sum
theorem len_app (a b : List ByteArray) : lenD (a ++ b) = lenD a + lenD b := by unfold lenD; simp
theorem len_join (D : List ByteArray) : (joinR D).size = lenD D := by
  rw [← flat_len]
  induction D with
  | nil => rfl
  | cons s D ih =>
    rw [flat_cons, List.length_cons, List.length_append, ih, bytesOf_length]
    unfold lenD; simp; omega
theorem len_stack (st : List ByteArray) (s : ByteArray) : lenD (stackB st s) ≤ lenD st + lenD [s] := by
  unfold stackB
  split
  · have := congrArg lenD (List.take_append_drop (st.length - 1) st)
    rw [len_app] at this; omega
  · split
    · omega
    · rw [len_app]; omega
theorem len_fold (l : List ByteArray) : lenD (foldB l) ≤ lenD l := by
  suffices g : ∀ st : List ByteArray, lenD (l.foldl stackB st) ≤ lenD st + lenD l by have := g []; unfold foldB; simpa [lenD] using this
  induction l with
  | nil => intro st; simp [lenD]
  | cons s l ih =>
    intro st
    have h1 := ih (stackB st s)
    have h2 := len_stack st s
    have h3 : lenD (s :: l) = lenD [s] + lenD l := len_app [s] l
    rw [List.foldl_cons, h3]; omega
theorem len_dots (l : List ByteArray) : lenD (dotsB l) ≤ lenD l + 1 := by
  have h := len_fold l
  have hn : lenD [nilT] = 1 := by decide
  unfold dotsB
  split
  · rw [len_app, hn]; omega
  · split
    · rw [len_app, hn]; omega
    · omega
theorem len_seg (s : ByteArray) : lenD (segB s) ≤ s.size := by
  by_cases h : prefB s (⟨#[47]⟩ : ByteArray) = true
  · rw [← len_join, (seg_join h).1]; exact Nat.le_refl _
  · unfold segB; rw [if_neg h]; exact Nat.zero_le _
theorem norm_size (x : ByteArray) (hx : x.size ≤ 300) : (normB x).1.size ≤ 1000 := by
  unfold normB
  split
  · cases ht : turnL normL (bytesOf x) with
    | none => exact Nat.zero_le _
    | some l =>
      have hl := turn_len normL (fun c h0 h1 => (norm_some h0 h1).2) _ (bytesOf x) (Nat.le_refl _) (fun y hy => bytes_lt x hy) l ht
      rw [bytesOf_length] at hl
      show (joinR (dotsB (segB (strOfNums ([] ++ l))))).size ≤ 1000
      rw [List.nil_append, len_join]
      have h1 := len_dots (segB (strOfNums l))
      have h2 := len_seg (strOfNums l)
      rw [nums_size] at h2
      omega
  · exact Nat.zero_le _
theorem dot_loop (x a : ByteArray) (hx : x.size ≤ 1000) (ha : a.size ≤ 1000) (hda : Ev (fun k => percent_Decode.f k a) (resA [] (turnL oneL (bytesOf a)))) (hle : (resA [] (turnL oneL (bytesOf a))).1.size ≤ (resA [] (turnL oneL (bytesOf x))).1.size) (D : List ByteArray) (hD : ∀ s ∈ D, isDot s = false) (hl : D.length ≤ 1000000) (T : List ByteArray) (i : Nat) (hi : i < 1000) (hN : Ev (fun k => parallaxlaw19_PercentOnce.l0 k T (T.length : Int) ((i + 1 : Nat) : Int)) true) (d : Nat) : ∀ j : Nat, j + d = D.length → Ev (fun k => parallaxlaw19_PercentOnce.l1 k x a D (j : Int) T (T.length : Int) (i : Int)) true := by
  induction d with
  | zero =>
    intro j hj
    refine Ev.step (fun _ => parallaxlaw19_PercentOnce.l1.eq_2 ..) (Ev.neg (by omega) (Ev.bind (decode_ev x hx) (Ev.bind hda (Ev.neg (by omega) ?_))))
    refine Ev.step (fun _ => parallaxlaw19_PercentOnce.j4.eq_2 ..) (Ev.neg (by simp) (Ev.step (fun _ => parallaxlaw19_PercentOnce.j5.eq_2 ..) ?_))
    rw [wrap_nat (by omega)]
    exact hN
  | succ d ih =>
    intro j hj
    have hs : ¬ ((rdOf ByteArray.empty D (j : Int)).toList = ([46, 46] : List UInt8) ∨ (rdOf ByteArray.empty D (j : Int)).toList = ([46] : List UInt8)) := of_decide_eq_false (hD _ (rdOf_mem D j (by omega)))
    refine Ev.step (fun _ => parallaxlaw19_PercentOnce.l1.eq_2 ..) (Ev.pos (by omega) (Ev.pos (Int.natCast_nonneg _) (Ev.neg (fun e => hs (.inr e)) (Ev.neg (fun e => hs (.inl e)) ?_))))
    rw [wrap_nat (by omega)]
    exact ih (j + 1) (by omega)
theorem texts_loop (T : List ByteArray) (hT : ∀ x ∈ T, x.size ≤ 200) (hn : T.length ≤ 100) (d : Nat) : ∀ i : Nat, i + d = T.length → Ev (fun k => parallaxlaw19_PercentOnce.l0 k T (T.length : Int) (i : Int)) true := by
  induction d with
  | zero => intro i hi; exact Ev.step (fun _ => parallaxlaw19_PercentOnce.l0.eq_2 ..) (Ev.neg (by omega) (Ev.now _))
  | succ d ih =>
    intro i hi
    have hN := ih (i + 1) (by omega)
    have hx := hT _ (rdOf_mem T i (by omega))
    refine Ev.step (fun _ => parallaxlaw19_PercentOnce.l0.eq_2 ..) (Ev.pos (by omega) (Ev.pos (Int.natCast_nonneg _) (Ev.pos (by omega) ?_)))
    generalize rdOf ByteArray.empty T (i : Int) = x at hx
    refine Ev.bind (norm_ev x (by omega)) ?_
    cases hok : (normB x).2 with
    | false =>
      refine Ev.neg (by simp) (Ev.step (fun _ => parallaxlaw19_PercentOnce.j5.eq_2 ..) ?_)
      rw [wrap_nat (by omega)]
      exact hN
    | true =>
      obtain ⟨D, e1, e2, e3, e4, e5, e6⟩ := once hok
      have hsz : (joinR D).size ≤ 1000 := by
        rw [← e1]
        exact norm_size x (by omega)
      rw [e1]
      have h0 : (joinR D).size ≠ 0 := fun e => by rw [pref_nil _ e] at e4; cases e4
      have h47 : (bt (joinR D) 0 != 47) = false := by
        rw [pref_first _ h0, beq_iff_eq] at e4
        rw [e4]; rfl
      have hn := norm_ev (joinR D) (by omega)
      rw [e2] at hn
      have hsg := seg_ev (joinR D) (by omega)
      rw [e3] at hsg
      have hl := (seg_size (joinR D)).2
      rw [e3] at hl
      refine Ev.pos rfl (Ev.bind hn (Ev.pos rfl (Ev.pos rfl (Ev.neg (fun e => h0 ((nil_is _).mp e)) (Ev.pos (by omega) ?_)))))
      rw [h47]
      refine Ev.step (fun _ => parallaxlaw19_PercentOnce.j2.eq_2 ..) (Ev.neg (by simp) (Ev.bind hsg ?_))
      exact dot_loop x (joinR D) (by omega) (by omega) (decode_ev _ (by omega)) e6 D e5 (by omega) T i (by omega) hN D.length 0 (by omega)
theorem known60 : parallaxlaw19_known.f 60 = some true := by decide +kernel
theorem PercentOnce : parallaxlaw19_PercentOnce.Pure := by
  intro s l _ _ _ hw
  have hw' : ∀ x ∈ l, 0 ≤ x ∧ x < 256 := fun x hx => u8_wf (hw x hx)
  suffices h : Ev (fun k => parallaxlaw19_PercentOnce.f k s l) true by
    obtain ⟨k, hk⟩ := h
    exact ⟨k, hk k (Nat.le_refl _)⟩
  have out : Ev (fun k => parallaxlaw19_PercentOnce.j0 k s l true) true := Ev.step (fun _ => parallaxlaw19_PercentOnce.j0.eq_2 ..) (Ev.pos rfl (Ev.now _))
  unfold parallaxlaw19_PercentOnce.f
  refine Ev.bind (Ev.of (fun k => parallaxlaw19_known.mono k) known60) (Ev.pos rfl ?_)
  by_cases h60 : (s.size : Int) > 60
  · exact Ev.pos h60 out
  · refine Ev.neg h60 ?_
    by_cases h6 : (l.length : Int) > 6
    · rw [decide_eq_true h6]; exact out
    · rw [decide_eq_false h6]
      obtain ⟨t, ht, he⟩ := path_ev l hw'
      have q1 : (⟨#[47]⟩ : ByteArray).size = 1 := rfl
      refine Ev.step (fun _ => parallaxlaw19_PercentOnce.j0.eq_2 ..) (Ev.neg (by simp) (Ev.pos (by omega) (Ev.bind he (Ev.bind he (Ev.pos (by omega) (Ev.val rfl ?_))))))
      refine texts_loop _ (fun x hx => ?_) (by simp) 3 0 rfl
      simp only [List.mem_cons, List.not_mem_nil, or_false] at hx
      rcases hx with rfl | rfl | rfl
      · rw [ByteArray.size_append, q1]; omega
      · omega
      · rw [ByteArray.size_append, q1]; omega
end Go.Proofs.YtljmpmipjdlkaaaDoor.Pure
