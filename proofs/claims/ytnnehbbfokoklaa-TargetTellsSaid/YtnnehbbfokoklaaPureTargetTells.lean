/- It is proved that TargetTells answers true at every input: which target any text is, of any method, the program and the document tell alike. -/
import Derived.Test.YtnnehbbfokoklaaPTargetTellsx13
import Derived.Test.YtnnehbbfokoklaaTxtTargetTells
namespace Go.Proofs.Ytnnehbbfokoklaa.Pure
open Go.RowKit Go.Proofs.Ytnnehbbfokoklaa.PTargetTells Go.Proofs.YtnnehbbfokoklaaW.PrintWords Go.Proofs.YtnnehbbfokoklaaW.PrintLast Go.Proofs.YtnnehbbfokoklaaW.PrintMore Go.Proofs.Ytnnehbbfokoklaa.Aid Go.Proofs.Ytnnehbbfokoklaa.Parts
set_option linter.unusedVariables false
set_option linter.unusedSimpArgs false

theorem letter_tab : ∀ n : Fin 256, parallaxref1_Letter.f (n.val : Int) = some (letterB (n.val : Int)) := by decide +kernel
theorem letter_some {c : Int} (h : 0 ≤ c ∧ c < 256) : parallaxref1_Letter.f c = some (letterB c) := byte_all (p := fun c => parallaxref1_Letter.f c = some (letterB c)) letter_tab h.1 h.2
theorem rdigit_some (c : Int) : parallaxref1_Digit.f c = some (digitB c) := by
  unfold parallaxref1_Digit.f digitB
  by_cases h : c ≥ 48
  · rw [if_pos h, decide_eq_true (show 48 ≤ c from h), Bool.true_and]
  · rw [if_neg h, decide_eq_false (show ¬ 48 ≤ c from h), Bool.false_and]
theorem hex_tab : ∀ n : Fin 256, hexK (n.val : Int) = ofB (n.val : Int) 5 := by decide +kernel
theorem rhexb {c : Int} (h : 0 ≤ c ∧ c < 256) : ∃ v, Ev (fun k => parallaxref1_Hex.f k c) (v, ofB c 5) :=
  ⟨hexV c, (rhex_ev h).to (by rw [byte_all (p := fun c => hexK c = ofB c 5) hex_tab h.1 h.2])⟩
/-- is a byte one of a text's? -/
theorem any_index (o : ByteArray) {c : Int} (h : 0 ≤ c ∧ c < 256) : ((bytesOf o).any fun b => c == b) = decide (0 ≤ Lib.indexByte o.data.toList c.toNat.toUInt8) := by
  have hc : ((c.toNat.toUInt8).toNat : Int) = c := by
    have : (c.toNat.toUInt8).toNat = c.toNat := UInt8.toNat_ofNat_of_lt' (by show c.toNat < 256; omega)
    omega
  rw [Bool.eq_iff_iff, decide_eq_true_eq, index_nil_iff, List.any_eq_true]
  constructor
  · rintro ⟨b, hb, he⟩
    have he' : c = b := by simpa using he
    unfold bytesOf at hb
    obtain ⟨u, hu, rfl⟩ := List.mem_map.mp hb
    have : c.toNat.toUInt8 = u := UInt8.toNat_inj.mp (by omega)
    rw [this]; exact hu
  · intro hm
    exact ⟨c, List.mem_map.mpr ⟨_, hm, hc⟩, by simp⟩
/-- the document's way to read a path's bytes -/
def ofR (o : ByteArray) : List Int → Bool
  | [] => true
  | c :: t => (if c = 37 ∧ 2 ≤ t.length then ofB (t.getD 0 0) 5 && ofB (t.getD 1 0) 5 else plainB o c) && ofR o t
theorem ofR_cons (o : ByteArray) (c : Int) (t : List Int) : ofR o (c :: t) = ((if c = 37 ∧ 2 ≤ t.length then ofB (t.getD 0 0) 5 && ofB (t.getD 1 0) 5 else plainB o c) && ofR o t) := rfl
theorem of_in (s o : ByteArray) (ho : o.size ≤ 1000) (i c : Int) (R OK : Bool) (hR : Ev (fun k => if c = 37 then (parallaxref6_of.j3 k s o i OK (decide ((wrap64 ((s.size : Int) - i)) > 2))) else (parallaxref6_of.j3 k s o i OK false)) R) (d : Nat) : ∀ (j : Nat) (b : Bool), j + d = o.size → (b || ((bytesOf o).drop j).any fun x => c == x) = OK → Ev (fun k => parallaxref6_of.l1 k s o i c b (j : Int)) R := by
  induction d with
  | zero =>
    intro j b hj hb
    rw [List.drop_of_length_le (by rw [bytesOf_length]; omega), List.any_nil, Bool.or_false] at hb
    rw [hb]
    exact Ev.step (fun _ => parallaxref6_of.l1.eq_2 ..) (Ev.neg (by omega) hR)
  | succ d ih =>
    intro j b hj hb
    rw [drop_bytes o j (by omega), List.any_cons] at hb
    refine Ev.step (fun _ => parallaxref6_of.l1.eq_2 ..) (Ev.pos (by omega) ?_)
    rw [wrap_nat (by omega)]
    cases b with
    | true => exact Ev.pos rfl (ih (j + 1) true (by omega) (by rw [← hb]; simp))
    | false => exact Ev.neg (by simp) (Ev.pos (by omega) (ih (j + 1) _ (by omega) (by rw [← hb, Bool.false_or])))
theorem plain_is (o : ByteArray) {c : Int} (h : 0 ≤ c ∧ c < 256) (b : Bool) (hb : b = (letterB c || digitB c)) : (b || ((bytesOf o).drop 0).any fun x => c == x) = plainB o c := by
  rw [List.drop_zero, any_index o h, hb]
  unfold plainB
  cases letterB c <;> cases digitB c <;> simp
theorem of_loop (s o : ByteArray) (hs : s.size ≤ 1000000) (ho : o.size ≤ 1000) (h37 : plainB o 37 = false) (d : Nat) : ∀ i : Nat, i + d = s.size → Ev (fun k => parallaxref6_of.l0 k s o (i : Int)) (ofR o ((bytesOf s).drop i)) := by
  induction d with
  | zero =>
    intro i hi
    rw [List.drop_of_length_le (by rw [bytesOf_length]; omega)]
    exact Ev.step (fun _ => parallaxref6_of.l0.eq_2 ..) (Ev.neg (by omega) (Ev.now _))
  | succ d ih =>
    intro i hi
    have hc := bt_lt s (i : Int)
    have hl : ((bytesOf s).drop (i + 1)).length = s.size - (i + 1) := by rw [List.length_drop, bytesOf_length]
    have hw : wrap64 ((s.size : Int) - (i : Int)) = ((s.size - i : Nat) : Int) := by rw [wrap_in (by omega) (by omega)]; omega
    have hw1 : wrap64 ((i : Int) + 1) = ((i + 1 : Nat) : Int) := wrap_nat (by omega)
    have hw2 : wrap64 ((i : Int) + 2) = ((i + 2 : Nat) : Int) := by rw [wrap_in (by omega) (by omega)]; omega
    have hn := ih (i + 1) (by omega)
    have j3f : ∀ OK, OK = plainB o (bt s (i : Int)) → ¬ (bt s (i : Int) = 37 ∧ 2 ≤ ((bytesOf s).drop (i + 1)).length) → Ev (fun k => parallaxref6_of.j3 k s o (i : Int) OK false) (ofR o ((bytesOf s).drop i)) := by
      intro OK hOK hno
      rw [drop_bytes s i (by omega), ofR_cons, if_neg hno, ← hOK]
      refine Ev.step (fun _ => parallaxref6_of.j3.eq_2 ..) (Ev.neg (by simp) ?_)
      rw [hw1]
      cases OK with
      | true => exact Ev.pos rfl (hn.to (by simp))
      | false => exact Ev.neg (by simp) ((Ev.now _).to (by simp))
    have j3t : ∀ OK, bt s (i : Int) = 37 → 2 < s.size - i → Ev (fun k => parallaxref6_of.j3 k s o (i : Int) OK true) (ofR o ((bytesOf s).drop i)) := by
      intro OK h37 hz
      have e2 : (bytesOf s).drop (i + 1) = bt s ((i + 1 : Nat) : Int) :: bt s ((i + 2 : Nat) : Int) :: (bytesOf s).drop (i + 3) := by
        rw [drop_bytes s (i + 1) (by omega), drop_bytes s (i + 1 + 1) (by omega)]
      rw [drop_bytes s i (by omega), ofR_cons, if_pos ⟨h37, by omega⟩]
      obtain ⟨v1, q1⟩ := rhexb (bt_lt s ((i + 1 : Nat) : Int))
      obtain ⟨v2, q2⟩ := rhexb (bt_lt s ((i + 2 : Nat) : Int))
      have g0 : ((bytesOf s).drop (i + 1)).getD 0 0 = bt s ((i + 1 : Nat) : Int) := by rw [e2]; rfl
      have g1 : ((bytesOf s).drop (i + 1)).getD 1 0 = bt s ((i + 2 : Nat) : Int) := by rw [e2]; rfl
      rw [g0, g1]
      refine Ev.step (fun _ => parallaxref6_of.j3.eq_2 ..) (Ev.pos rfl ?_)
      rw [hw1, hw2]
      refine Ev.pos (Int.natCast_nonneg _) (Ev.pos (by omega) (Ev.bind q1 (Ev.pos (Int.natCast_nonneg _) (Ev.pos (by omega) (Ev.bind q2 ?_)))))
      cases ofB (bt s ((i + 1 : Nat) : Int)) 5 with
      | false => exact Ev.neg (by simp) ((Ev.now _).to (by simp))
      | true =>
        cases ofB (bt s ((i + 2 : Nat) : Int)) 5 with
        | false => exact Ev.pos rfl (Ev.neg (by simp) ((Ev.now _).to (by simp)))
        | true => exact Ev.pos rfl (Ev.pos rfl (hn.to (by simp)))
    have j1 : ∀ b, b = (letterB (bt s (i : Int)) || digitB (bt s (i : Int))) → Ev (fun k => parallaxref6_of.j1 k s o (i : Int) (bt s (i : Int)) b) (ofR o ((bytesOf s).drop i)) := by
      intro b hb
      refine Ev.step (fun _ => parallaxref6_of.j1.eq_2 ..) (of_in s o ho (i : Int) (bt s (i : Int)) _ (plainB o (bt s (i : Int))) ?_ o.size 0 b (by omega) (plain_is o hc b hb))
      rw [hw]
      by_cases h37' : bt s (i : Int) = 37
      · refine Ev.pos h37' ?_
        by_cases hz : 2 < s.size - i
        · rw [decide_eq_true (by omega)]
          exact j3t _ h37' hz
        · rw [decide_eq_false (by omega)]
          exact j3f _ rfl (fun h => by omega)
      · exact Ev.neg h37' (j3f _ rfl (fun h => h37' h.1))
    refine Ev.step (fun _ => parallaxref6_of.l0.eq_2 ..) (Ev.pos (by omega) (Ev.pos (Int.natCast_nonneg _) (Ev.val (letter_some hc) ?_)))
    cases hL : letterB (bt s (i : Int)) with
    | true => exact Ev.pos rfl (j1 true (by rw [hL]; rfl))
    | false => exact Ev.neg (by simp) (Ev.val (rdigit_some _) (j1 _ (by rw [hL]; rfl)))
/-- both ways to read a path's bytes are one -/
theorem ofR_signs (o : ByteArray) (h37 : plainB o 37 = false) (hh : ∀ c : Int, 0 ≤ c → c < 256 → ofB c 5 = true → plainB o c = true ∧ c ≠ 37) (d : Nat) : ∀ l : List Int, l.length ≤ d → (∀ x ∈ l, 0 ≤ x ∧ x < 256) → ofR o l = signsB o true l := by
  have plain : ∀ (c : Int) (t : List Int), plainB o c = true → ofR o (c :: t) = ofR o t := by
    intro c t h
    rw [ofR_cons, if_neg (fun e => by rw [e.1, h37] at h; cases h), h, Bool.true_and]
  induction d with
  | zero => intro l hl _; cases l with
    | nil => rfl
    | cons _ _ => simp at hl
  | succ d ih =>
    intro l hl hw
    cases l with
    | nil => rfl
    | cons c t =>
      rw [List.length_cons] at hl
      cases hp : plainB o c with
      | true => rw [signs_plain hp, plain c t hp, ih t (by omega) (fun x hx => hw x (by simp [hx]))]
      | false =>
        match t, hl, hw with
        | [], _, _ => rw [signs_short hp [] (by simp), ofR_cons, if_neg (by simp), hp]; rfl
        | [a], _, _ => rw [signs_short hp [a] (by simp), ofR_cons, if_neg (by simp), hp]; rfl
        | a :: b :: r, hl, hw =>
          rw [signs_no hp, ofR_cons]
          have ha := hw a (by simp)
          have hb := hw b (by simp)
          by_cases hc : c = 37
          · rw [if_pos ⟨hc, by simp⟩, show (c == 37) = true by simp [hc]]
            show (ofB a 5 && ofB b 5 && ofR o (a :: b :: r)) = _
            cases h1 : ofB a 5 with
            | false => simp
            | true =>
              cases h2 : ofB b 5 with
              | false => simp
              | true =>
                rw [plain a _ (hh a ha.1 ha.2 h1).1, plain b _ (hh b hb.1 hb.2 h2).1, ih r (by simp at hl; omega) (fun x hx => hw x (by simp [hx]))]
                simp
          · rw [if_neg (fun e => hc e.1), hp, show (c == 37) = false by simp [hc]]
            simp
theorem tab_inner : ∀ n : Fin 256, ofB (n.val : Int) 5 = true → plainB innerT (n.val : Int) = true ∧ (n.val : Int) ≠ 37 := by decide +kernel
theorem tab_asked : ∀ n : Fin 256, ofB (n.val : Int) 5 = true → plainB askedT (n.val : Int) = true ∧ (n.val : Int) ≠ 37 := by decide +kernel
theorem inner_ev (s : ByteArray) (hs : s.size ≤ 1000000) : Ev (fun k => parallaxref6_of.f k s innerT) (signsB innerT true (bytesOf s)) := by
  unfold parallaxref6_of.f
  refine (of_loop s innerT hs (by decide) (by decide +kernel) s.size 0 (by omega)).to ?_
  rw [List.drop_zero]
  exact ofR_signs innerT (by decide +kernel) (fun c h0 h1 h => byte_all (p := fun c => ofB c 5 = true → plainB innerT c = true ∧ c ≠ 37) tab_inner h0 h1 h) _ _ (Nat.le_refl _) (fun x hx => bytes_lt s hx)
theorem asked_ev (s : ByteArray) (hs : s.size ≤ 1000000) : Ev (fun k => parallaxref6_of.f k s askedT) (signsB askedT true (bytesOf s)) := by
  unfold parallaxref6_of.f
  refine (of_loop s askedT hs (by decide) (by decide +kernel) s.size 0 (by omega)).to ?_
  rw [List.drop_zero]
  exact ofR_signs askedT (by decide +kernel) (fun c h0 h1 h => byte_all (p := fun c => ofB c 5 = true → plainB askedT c = true ∧ c ≠ 37) tab_asked h0 h1 h) _ _ (Nat.le_refl _) (fun x hx => bytes_lt s hx)
theorem data_nil {s : ByteArray} (h : s.size = 0) : s.data.toList = [] := by
  rw [← data_length] at h; exact List.length_eq_zero_iff.mp h
theorem pref_first (s : ByteArray) (h0 : s.size ≠ 0) : prefB s (⟨#[47]⟩ : ByteArray) = (bt s 0 == 47) := by
  unfold prefB
  rw [ByteArray.toList_eq, ByteArray.toList_eq, ext_data]
  have hb := drop_bytes s 0 (by omega)
  rw [List.drop_zero] at hb
  cases hs : s.data.toList with
  | nil => rw [← data_length, hs] at h0; simp at h0
  | cons b t =>
    unfold bytesOf at hb
    rw [hs, List.map_cons, List.cons.injEq] at hb
    rw [show bt s 0 = (b.toNat : Int) from hb.1.symm]
    show ([b] == [47]) = _
    rw [Bool.eq_iff_iff, beq_iff_eq, beq_iff_eq]
    constructor
    · intro e
      have : b = 47 := by simpa using e
      rw [this]; rfl
    · intro e
      have : b = 47 := UInt8.toNat_inj.mp (show b.toNat = 47 by omega)
      rw [this]
theorem pref_nil (s : ByteArray) (h0 : s.size = 0) : prefB s (⟨#[47]⟩ : ByteArray) = false := by
  unfold prefB
  rw [ByteArray.toList_eq, ByteArray.toList_eq, ext_data, data_nil h0]
  rfl
theorem rpath_ev (s : ByteArray) (hs : s.size ≤ 1000000) : Ev (fun k => parallaxref6_Path.f k s) (pathB s) := by
  unfold parallaxref6_Path.f pathB
  by_cases h0 : s.size = 0
  · rw [pref_nil s h0]
    exact Ev.pos ((nil_size s).mpr h0) (Ev.now _)
  · rw [pref_first s h0]
    refine Ev.neg (fun e => h0 ((nil_size s).mp e)) (Ev.pos (by omega) ?_)
    by_cases h : bt s 0 = 47
    · rw [h]
      exact Ev.pos rfl (Ev.bind (inner_ev s hs) ((Ev.now _).to (by simp)))
    · rw [show (bt s 0 == 47) = false by simp [h]]
      exact Ev.neg h ((Ev.now _).to (by simp))
theorem rquery_ev (s : ByteArray) (hs : s.size ≤ 1000000) : Ev (fun k => parallaxref6_Query.f k s) (queryB s) := by
  unfold parallaxref6_Query.f
  exact Ev.bind (asked_ev s hs) (Ev.now _)
def hostS : ByteArray := ⟨#[45, 46, 95, 126]⟩
theorem tab_host : ∀ n : Fin 256, plainB hostS (n.val : Int) = (letterB (n.val : Int) || (digitB (n.val : Int) || (decide ((n.val : Int) = 45) || (decide ((n.val : Int) = 46) || (decide ((n.val : Int) = 95) || decide ((n.val : Int) = 126)))))) := by decide +kernel
theorem host_is {c : Int} (h : 0 ≤ c ∧ c < 256) : plainB hostS c = (letterB c || (digitB c || (decide (c = 45) || (decide (c = 46) || (decide (c = 95) || decide (c = 126)))))) := byte_all (p := fun c => plainB hostS c = (letterB c || (digitB c || (decide (c = 45) || (decide (c = 46) || (decide (c = 95) || decide (c = 126))))))) tab_host h.1 h.2
theorem hl_loop (l : List ByteArray) (s : ByteArray) (hl : 0 < l.length) (h0 : rdOf ByteArray.empty l 0 = s) (hs : s.size ≤ 1000000) (R : Bool) (hR : Ev (fun k => if (l.length : Int) = 1 then (some true) else (if 1 < (l.length : Int) then ((parallaxref1_Dec.f k (rdOf ByteArray.empty l 1) 65535).bind fun bt232 => (if bt232.2 = 0 then (some (decide (((rdOf ByteArray.empty l 1).size : Int) ≤ 5))) else (some false))) else (none))) R) (d : Nat) : ∀ i : Nat, i + d = s.size →
    Ev (fun k => parallaxref6_Host.l0 k l (i : Int)) (((bytesOf s).drop i).all (plainB hostS) && R) := by
  induction d with
  | zero =>
    intro i hi
    rw [List.drop_of_length_le (by rw [bytesOf_length]; omega)]
    refine Ev.step (fun _ => parallaxref6_Host.l0.eq_2 ..) ?_
    rw [h0]
    exact Ev.pos (by omega) (Ev.neg (by omega) (hR.to (by simp)))
  | succ d ih =>
    intro i hi
    have hc := bt_lt s (i : Int)
    have hn := ih (i + 1) (by omega)
    refine Ev.step (fun _ => parallaxref6_Host.l0.eq_2 ..) ?_
    rw [h0, wrap_nat (by omega), drop_bytes s i (by omega), List.all_cons, host_is hc]
    refine Ev.pos (by omega) (Ev.pos (by omega) (Ev.pos (by omega) (Ev.val (letter_some hc) ?_)))
    cases letterB (bt s (i : Int)) with
    | true => exact Ev.pos rfl (hn.to (by simp))
    | false =>
      refine Ev.neg (by simp) (Ev.val (rdigit_some _) ?_)
      cases digitB (bt s (i : Int)) with
      | true => exact Ev.pos rfl (hn.to (by simp))
      | false =>
        refine Ev.neg (by simp) ?_
        by_cases c1 : bt s (i : Int) = 45
        · exact Ev.pos c1 (hn.to (by simp [c1]))
        · by_cases c2 : bt s (i : Int) = 46
          · exact Ev.neg c1 (Ev.pos c2 (hn.to (by simp [c2])))
          · by_cases c3 : bt s (i : Int) = 95
            · exact Ev.neg c1 (Ev.neg c2 (Ev.pos c3 (hn.to (by simp [c3]))))
            · by_cases c4 : bt s (i : Int) = 126
              · exact Ev.neg c1 (Ev.neg c2 (Ev.neg c3 (Ev.pos c4 (hn.to (by simp [c4])))))
              · exact Ev.neg c1 (Ev.neg c2 (Ev.neg c3 (Ev.neg c4 ((Ev.now _).to (by simp [c1, c2, c3, c4])))))
theorem parts_cut (s : ByteArray) (h : (58 : UInt8) ∈ s.data.toList) : parts 58 s = beforeB 58 s :: parts 58 (afterB 58 s) ∧ hasC 58 s = true := by
  obtain ⟨a, r, e, hn⟩ := List.eq_append_cons_of_mem h
  obtain ⟨t1, t2⟩ := take_at 58 a r hn
  refine ⟨?_, decide_eq_true h⟩
  unfold parts beforeB afterB
  rw [e, t1, t2, splitU_at 58 a r hn, List.map_cons, List.drop_one, List.tail_cons, data_BA]
theorem parts_whole (s : ByteArray) (h : (58 : UInt8) ∉ s.data.toList) : parts 58 s = [s] ∧ hasC 58 s = false ∧ beforeB 58 s = s := by
  obtain ⟨t1, _⟩ := take_no 58 _ h
  refine ⟨?_, decide_eq_false h, ?_⟩
  · unfold parts; rw [splitU_none 58 _ h, List.map_cons, List.map_nil, BA_data]
  · unfold beforeB; rw [t1, BA_data]
theorem read_bad (s : ByteArray) (h : (58 : UInt8) ∈ s.data.toList) : (readB s 10 65535 4).2 = 22 := by
  have : allB s [4] = false := by
    rw [Bool.eq_false_iff]
    intro e
    unfold allB at e
    have := List.all_eq_true.mp e 58 (List.mem_map.mpr ⟨58, h, rfl⟩)
    exact absurd this (by decide +kernel)
  unfold readB
  rw [if_pos (.inr this)]
theorem rhost_ev (s : ByteArray) (hs : s.size ≤ 1000000) : Ev (fun k => parallaxref6_Host.f k s) (hostB s) := by
  have hb := before_size 58 s
  have ha := after_size 58 s
  have sp : Ev (fun k => parallaxref1_Split.f k s 58) (parts 58 s) := rsplit_ev 58 s (by omega)
  unfold parallaxref6_Host.f
  refine Ev.bind sp ?_
  have main : ∀ (l : List ByteArray) (b : ByteArray) (R : Bool), 0 < l.length → l.length ≤ 2 → rdOf ByteArray.empty l 0 = b → b.size ≤ 1000000 → Ev (fun k => if (l.length : Int) = 1 then (some true) else (if 1 < (l.length : Int) then ((parallaxref1_Dec.f k (rdOf ByteArray.empty l 1) 65535).bind fun bt232 => (if bt232.2 = 0 then (some (decide (((rdOf ByteArray.empty l 1).size : Int) ≤ 5))) else (some false))) else (none))) R →
      Ev (fun k => if (l.length : Int) > 2 then (parallaxref6_Host.j0 k l true) else (if 0 < (l.length : Int) then (if ((rdOf ByteArray.empty l 0).size : Int) < 1 then (parallaxref6_Host.j0 k l true) else (parallaxref6_Host.j0 k l (decide (((rdOf ByteArray.empty l 0).size : Int) > 255)))) else (none))) (R && (decide (0 < b.size) && (decide (b.size ≤ 255) && signsB hostS false (bytesOf b)))) := by
    intro l b R h1 h2 h0 hz hR
    have bad : Ev (fun k => parallaxref6_Host.j0 k l true) false := Ev.step (fun _ => parallaxref6_Host.j0.eq_2 ..) (Ev.pos rfl (Ev.now _))
    rw [h0]
    refine Ev.neg (by omega) (Ev.pos (by omega) ?_)
    by_cases z0 : b.size = 0
    · exact Ev.pos (by omega) (bad.to (by simp [z0]))
    · refine Ev.neg (by omega) ?_
      by_cases z1 : b.size ≤ 255
      · rw [decide_eq_false (by omega)]
        refine Ev.step (fun _ => parallaxref6_Host.j0.eq_2 ..) (Ev.neg (by simp) ((hl_loop l b h1 h0 hz R hR b.size 0 (by omega)).to ?_))
        rw [List.drop_zero, signs_flat, decide_eq_true (by omega : 0 < b.size), decide_eq_true z1, Bool.true_and, Bool.true_and, Bool.and_comm]
      · rw [decide_eq_true (by omega)]
        exact bad.to (by rw [decide_eq_false z1]; simp)
  by_cases h1 : (58 : UInt8) ∈ s.data.toList
  · obtain ⟨p1, p2⟩ := parts_cut s h1
    unfold hostB
    rw [p2, if_pos rfl, p1]
    by_cases h2 : (58 : UInt8) ∈ (afterB 58 s).data.toList
    · obtain ⟨p3, _⟩ := parts_cut _ h2
      have hlen : 0 < (parts 58 (afterB 58 (afterB 58 s))).length := by rw [parts_len]; omega
      rw [p3, read_bad _ h2]
      exact Ev.pos (by simp only [List.length_cons]; omega) (Ev.step (fun _ => parallaxref6_Host.j0.eq_2 ..) (Ev.pos rfl ((Ev.now _).to (by simp))))
    · rw [(parts_whole _ h2).1]
      refine main [beforeB 58 s, afterB 58 s] (beforeB 58 s) _ (by simp) (by simp) rfl (by omega) ?_
      refine Ev.neg (by simp) (Ev.pos (by simp) (Ev.bind (rdec_ev (afterB 58 s) 65535 (by decide) (by omega)) ?_))
      by_cases h0 : (readB (afterB 58 s) 10 65535 4).2 = 0
      · refine Ev.pos h0 ((Ev.now _).to ?_)
        rw [h0]
        show decide (((afterB 58 s).size : Int) ≤ 5) = _
        by_cases h5 : (afterB 58 s).size ≤ 5
        · rw [decide_eq_true h5, decide_eq_true (by omega)]; rfl
        · rw [decide_eq_false h5, decide_eq_false (by omega)]; rfl
      · exact Ev.neg h0 ((Ev.now _).to (by simp [h0]))
  · obtain ⟨p1, p2, p3⟩ := parts_whole s h1
    unfold hostB
    rw [p2, if_neg (by simp), p1, p3]
    exact main [s] s true (by simp) (by simp) rfl hs (Ev.pos rfl (Ev.now _))
theorem rport_ev (s : ByteArray) (hs : s.size ≤ 1000000) : Ev (fun k => parallaxref6_port.f k s) (hasC 58 s) := by
  unfold parallaxref6_port.f
  have key : ∀ d i : Nat, i + d = s.size → Ev (fun k => parallaxref6_port.l0 k s (i : Int)) (((bytesOf s).drop i).any fun c => c == 58) := by
    intro d
    induction d with
    | zero =>
      intro i hi
      rw [List.drop_of_length_le (by rw [bytesOf_length]; omega)]
      exact Ev.step (fun _ => parallaxref6_port.l0.eq_2 ..) (Ev.neg (by omega) (Ev.now _))
    | succ d ih =>
      intro i hi
      rw [drop_bytes s i (by omega), List.any_cons]
      refine Ev.step (fun _ => parallaxref6_port.l0.eq_2 ..) (Ev.pos (by omega) (Ev.pos (by omega) ?_))
      rw [wrap_nat (by omega)]
      by_cases h : bt s (i : Int) = 58
      · exact Ev.pos h ((Ev.now _).to (by simp [h]))
      · exact Ev.neg h ((ih (i + 1) (by omega)).to (by simp [h]))
  refine (key s.size 0 (by omega)).to ?_
  rw [List.drop_zero]
  unfold hasC
  rw [Bool.eq_iff_iff, decide_eq_true_eq, List.any_eq_true]
  constructor
  · rintro ⟨b, hb, he⟩
    obtain ⟨u, hu, rfl⟩ := List.mem_map.mp hb
    have he' : (u.toNat : Int) = 58 := by simpa using he
    have : u = 58 := UInt8.toNat_inj.mp (show u.toNat = 58 by omega)
    rw [← this]; exact hu
  · intro h
    exact ⟨58, List.mem_map.mpr ⟨58, h, rfl⟩, by decide⟩
/-- the document's path and query -/
theorem rorigin_ev (s : ByteArray) (hs : s.size ≤ 1000000) : Ev (fun k => parallaxref6_origin.f k s) (0, (⟨#[]⟩ : ByteArray), beforeB 63 s, afterB 63 s, hasC 63 s, (pathB (beforeB 63 s) && queryB (afterB 63 s))) := by
  unfold parallaxref6_origin.f
  have fin : ∀ (p q : ByteArray) (a : Bool), p.size ≤ 1000000 → q.size ≤ 1000000 → Ev (fun k => (parallaxref6_Path.f k p).bind fun t => (if t = true then ((parallaxref6_Query.f k q).bind fun t253 => (some ((0 : Int), (⟨#[]⟩ : ByteArray), p, q, a, t253))) else (some (0, (⟨#[]⟩ : ByteArray), p, q, a, false)))) (0, (⟨#[]⟩ : ByteArray), p, q, a, (pathB p && queryB q)) := by
    intro p q a hp hq
    refine Ev.bind (rpath_ev p hp) ?_
    cases pathB p with
    | false => exact Ev.neg (by simp) ((Ev.now _).to (by simp))
    | true => exact Ev.pos rfl (Ev.bind (rquery_ev q hq) ((Ev.now _).to (by simp)))
  have key : ∀ d i : Nat, i + d = s.size → (∀ j, j < i → bt s (j : Int) ≠ ((63 : UInt8).toNat : Int)) → Ev (fun k => parallaxref6_origin.l0 k s (i : Int) 0 (⟨#[]⟩ : ByteArray) s (⟨#[]⟩ : ByteArray) false) (0, (⟨#[]⟩ : ByteArray), beforeB 63 s, afterB 63 s, hasC 63 s, (pathB (beforeB 63 s) && queryB (afterB 63 s))) := by
    intro d
    induction d with
    | zero =>
      intro i hi hno
      obtain ⟨e1, _, e3, e4⟩ := cut_no 63 s (fun j hj => hno j (by omega))
      rw [e1, e3, e4]
      exact Ev.step (fun _ => parallaxref6_origin.l0.eq_2 ..) (Ev.neg (by omega) (fin s (⟨#[]⟩ : ByteArray) false hs (by decide)))
    | succ d ih =>
      intro i hi hno
      refine Ev.step (fun _ => parallaxref6_origin.l0.eq_2 ..) (Ev.pos (by omega) (Ev.pos (by omega) ?_))
      rw [wrap_nat (by omega), Int.toNat_natCast, Int.toNat_natCast]
      by_cases h : bt s (i : Int) = 63
      · obtain ⟨e1, _, e3, e4⟩ := cut_yes 63 s i (by omega) h hno
        rw [e1, e3, e4]
        exact Ev.pos h (Ev.pos (by omega) (Ev.pos (by omega) (Ev.pos (by omega) (fin _ _ true (by rw [ByteArray.size_extract]; omega) (by rw [ByteArray.size_extract]; omega)))))
      · refine Ev.neg h (ih (i + 1) (by omega) (fun j hj => ?_))
        by_cases e : j = i
        · subst e; exact h
        · exact hno j (by omega)
  exact key s.size 0 (by omega) (fun j hj => absurd hj (Nat.not_lt_zero _))
theorem rputT_ev (form : Int) (h p q : ByteArray) (a : Bool) (hh : h.size < 1000000000000) (hp : p.size < 1000000000000) (hq : q.size < 1000000000000) : Ev (fun k => parallaxref6_Put.f k form h p q a) (putT form h p q a) := by
  unfold parallaxref6_Put.f putT
  have main : ∀ y : ByteArray, y.size < 1000000000001 → Ev (fun k => parallaxref6_Put.j0 k y form h p q a) (if form = 1 then p ++ y else if form = 2 then (((⟨#[104, 116, 116, 112, 58, 47, 47]⟩ : ByteArray) ++ h) ++ p) ++ y else if form = 3 then h else if form = 4 then (⟨#[42]⟩ : ByteArray) else (⟨#[]⟩ : ByteArray)) := by
    intro y hy
    refine Ev.step (fun _ => parallaxref6_Put.j0.eq_2 ..) (Ev.cond (fun _ => Ev.pos (by omega) (Ev.now _)) (fun _ => Ev.cond (fun _ => Ev.pos (by omega) (Ev.pos ?_ (Ev.pos ?_ (Ev.now _)))) (fun _ => Ev.cond (fun _ => Ev.now _) (fun _ => Ev.cond (fun _ => Ev.now _) (fun _ => Ev.now _)))))
    · rw [ByteArray.size_append]; show 7 + _ + _ ≤ _; omega
    · rw [ByteArray.size_append, ByteArray.size_append]; show 7 + _ + _ + _ ≤ _; omega
  cases a with
  | true => exact Ev.pos rfl (Ev.pos (by omega) (main _ (by rw [ByteArray.size_append]; show 1 + _ < _; omega)))
  | false => exact Ev.neg (by simp) (main _ (by decide))
/-- where the first of some signs stands -/
theorem any_split (cs l : List UInt8) (h : 0 ≤ Lib.indexAny l cs) : ∃ a x r, l = a ++ x :: r ∧ (∀ y ∈ a, cs.contains y = false) ∧ cs.contains x = true ∧ Lib.indexAny l cs = (a.length : Nat) := by
  induction l with
  | nil => simp [Lib.indexAny] at h
  | cons b l ih =>
    have hg := Lib.indexAny_ge cs l
    unfold Lib.indexAny at h ⊢
    by_cases hb : cs.contains b = true
    · rw [if_pos hb]
      exact ⟨[], b, l, rfl, by simp, hb, rfl⟩
    · rw [if_neg hb] at h ⊢
      by_cases h1 : (Lib.indexAny l cs == -1) = true
      · simp only [h1, if_true] at h
        omega
      · have h1' : ¬ Lib.indexAny l cs = -1 := by simpa using h1
        simp only [if_neg h1]
        obtain ⟨a, x, r, e1, e2, e3, e4⟩ := ih (by omega)
        refine ⟨b :: a, x, r, by rw [e1]; rfl, ?_, e3, by rw [e4]; simp⟩
        intro y hy
        rcases List.mem_cons.mp hy with rfl | hy
        · simpa using hb
        · exact e2 y hy
theorem contains_is (y : UInt8) : ([47, 63] : List UInt8).contains y = true ↔ y = 47 ∨ y = 63 := by simp
theorem host_split (R : ByteArray) : ∃ A X : List Int, bytesOf R = A ++ X ∧ A.length = hostEnd R ∧ (∀ x ∈ A, x ≠ 47 ∧ x ≠ 63) ∧ (∀ x t, X = x :: t → x = 47 ∨ x = 63) := by
  obtain ⟨h0, h1⟩ := hostEnd_le R
  obtain ⟨a, x, r, e1, e2, e3, e4⟩ := any_split [47, 63] _ h0
  have hn : hostEnd R = a.length := by unfold hostEnd; rw [e4]; simp
  rw [data_app] at e1
  have e1' : R.data.toList ++ [47] = a ++ x :: r := e1
  have ha : R.data.toList.take a.length = a := by
    have : (R.data.toList ++ [47]).take a.length = a := by rw [e1']; simp
    rw [List.take_append_of_le_length (by rw [data_length]; omega)] at this
    exact this
  have hR : R.data.toList = a ++ R.data.toList.drop a.length := by
    conv => lhs; rw [← List.take_append_drop a.length R.data.toList, ha]
  refine ⟨a.map fun b => (b.toNat : Int), (R.data.toList.drop a.length).map fun b => (b.toNat : Int), ?_, by rw [List.length_map, hn], ?_, ?_⟩
  · unfold bytesOf
    rw [← List.map_append, ← hR]
  · intro z hz
    obtain ⟨y, hy, rfl⟩ := List.mem_map.mp hz
    have := e2 y hy
    have h47 : y ≠ 47 := fun e => by rw [e] at this; exact absurd this (by decide)
    have h63 : y ≠ 63 := fun e => by rw [e] at this; exact absurd this (by decide)
    exact ⟨fun e => h47 (UInt8.toNat_inj.mp (show y.toNat = 47 by omega)), fun e => h63 (UInt8.toNat_inj.mp (show y.toNat = 63 by omega))⟩
  · intro z t hz
    cases hd : R.data.toList.drop a.length with
    | nil => rw [hd] at hz; cases hz
    | cons y ys =>
      rw [hd, List.map_cons, List.cons.injEq] at hz
      rw [hd] at hR
      rw [hR, List.append_assoc] at e1'
      have := List.append_cancel_left e1'
      rw [List.cons_append, List.cons.injEq] at this
      rw [← hz.1]
      rcases (contains_is x).mp e3 with e | e
      · left; rw [this.1, e]; rfl
      · right; rw [this.1, e]; rfl
theorem scan_ev (s : ByteArray) (hs : s.size ≤ 1000000) (r : Int × ByteArray × ByteArray × ByteArray × Bool × Int) (n : Nat) (X : List Int) (hX : ∀ x t, X = x :: t → x = 47 ∨ x = 63) : ∀ (A : List Int) (i : Nat), (∀ x ∈ A, x ≠ 47 ∧ x ≠ 63) → i + A.length = n → n ≤ s.size → (bytesOf s).drop i = A ++ X → Ev (fun k => parallaxref6_Target.j3 k s (n : Int)) r → Ev (fun k => parallaxref6_Target.l0 k s (i : Int)) r := by
  intro A
  induction A with
  | nil =>
    intro i _ hn hle hd hr
    have e : i = n := by simpa using hn
    subst e
    have hlen := congrArg List.length hd
    rw [List.length_drop, bytesOf_length] at hlen
    cases X with
    | nil =>
      have : s.size ≤ i := by simp at hlen; omega
      exact Ev.step (fun _ => parallaxref6_Target.l0.eq_2 ..) (Ev.neg (by omega) hr)
    | cons x t =>
      have hlt : i < s.size := by simp at hlen; omega
      rw [drop_bytes s i hlt, List.nil_append, List.cons.injEq] at hd
      refine Ev.step (fun _ => parallaxref6_Target.l0.eq_2 ..) (Ev.pos (by omega) (Ev.pos (by omega) ?_))
      rcases hX x t rfl with e | e
      · exact Ev.pos (hd.1.trans e) hr
      · exact Ev.neg (by rw [hd.1, e]; decide) (Ev.pos (hd.1.trans e) hr)
  | cons a A ih =>
    intro i hA hn hle hd hr
    rw [List.length_cons] at hn
    have hlt : i < s.size := by omega
    rw [drop_bytes s i hlt, List.cons_append, List.cons.injEq] at hd
    have h2 := hA a (by simp)
    refine Ev.step (fun _ => parallaxref6_Target.l0.eq_2 ..) (Ev.pos (by omega) (Ev.pos (by omega) (Ev.neg (by rw [hd.1]; exact h2.1) (Ev.neg (by rw [hd.1]; exact h2.2) ?_))))
    rw [wrap_nat (by omega)]
    exact ih (i + 1) (fun x hx => hA x (by simp [hx])) (by omega) hle hd.2 hr
theorem bt_zero {s : ByteArray} {b : UInt8} {t : List UInt8} (h : s.data.toList = b :: t) : bt s 0 = (b.toNat : Int) := by
  have h0 : s.size ≠ 0 := by rw [← data_length, h]; simp
  have hb := drop_bytes s 0 (by omega)
  rw [List.drop_zero] at hb
  unfold bytesOf at hb
  rw [h, List.map_cons, List.cons.injEq] at hb
  exact hb.1.symm
theorem u8_eq {b : UInt8} {n : Nat} (hn : n < 256) : (b.toNat : Int) = (n : Int) ↔ b = UInt8.ofNat n := by
  constructor
  · intro e
    apply UInt8.toNat_inj.mp
    rw [UInt8.toNat_ofNat_of_lt' (by exact hn)]
    omega
  · intro e
    rw [e, UInt8.toNat_ofNat_of_lt' (by exact hn)]
/-- a text that begins with a question mark has no path -/
theorem first_before {z : ByteArray} (h0 : z.size ≠ 0) : (beforeB 63 z).size = 0 ↔ bt z 0 = 63 := by
  cases hz : z.data.toList with
  | nil => exact absurd (by rw [← data_length, hz]; rfl) h0
  | cons b t =>
    rw [bt_zero hz]
    unfold beforeB
    rw [size_BA, hz, List.takeWhile_cons]
    by_cases hb : b = 63
    · rw [hb]; simp
    · have : (b != 63) = true := by simp [hb]
      rw [if_pos this, List.length_cons]
      constructor
      · intro h; omega
      · intro h
        exact absurd ((u8_eq (n := 63) (by decide)).mp h) hb
theorem slash_cut (z : ByteArray) : beforeB 63 ((⟨#[47]⟩ : ByteArray) ++ z) = (⟨#[47]⟩ : ByteArray) ++ beforeB 63 z ∧ afterB 63 ((⟨#[47]⟩ : ByteArray) ++ z) = afterB 63 z ∧ hasC 63 ((⟨#[47]⟩ : ByteArray) ++ z) = hasC 63 z := by
  have e : ((⟨#[47]⟩ : ByteArray) ++ z).data.toList = 47 :: z.data.toList := by rw [data_app]; rfl
  have t1 : (47 :: z.data.toList).takeWhile (· != (63 : UInt8)) = 47 :: z.data.toList.takeWhile (· != 63) := by rw [List.takeWhile_cons, if_pos (by decide)]
  have t2 : (47 :: z.data.toList).dropWhile (· != (63 : UInt8)) = z.data.toList.dropWhile (· != 63) := by rw [List.dropWhile_cons, if_pos (by decide)]
  refine ⟨?_, ?_, ?_⟩
  · apply ba_inj
    unfold beforeB
    rw [e, t1, data_BA, data_app, data_BA]; rfl
  · unfold afterB; rw [e, t2]
  · unfold hasC; rw [e]; simp
theorem ror_case (form : Int) (h p q : ByteArray) (a b : Bool) : (if b = true then (form, h, p, q, a, 0) else badT) = (if b = true then (form, h, p, q, a, (0 : Int)) else badT) := rfl
theorem j4_ev (z h : ByteArray) (hz : z.size ≤ 100000) (b : Bool) (hb : b = true ↔ (beforeB 63 z).size = 0) : Ev (fun k => parallaxref6_Target.j4 k z 2 h b) (originB 2 h z) := by
  unfold originB
  cases hbb : b with
  | true =>
    have h0 := hb.mp hbb
    have hn : beforeB 63 z = (⟨#[]⟩ : ByteArray) := ba_inj (by rw [data_nil h0])
    obtain ⟨c1, c2, c3⟩ := slash_cut z
    have hpo : pathOf 2 z = (⟨#[47]⟩ : ByteArray) := if_pos ⟨rfl, h0⟩
    have hc1 : beforeB 63 ((⟨#[47]⟩ : ByteArray) ++ z) = (⟨#[47]⟩ : ByteArray) := by rw [c1, hn]; rfl
    have hsz : ((⟨#[47]⟩ : ByteArray) ++ z).size = 1 + z.size := by rw [ByteArray.size_append]; rfl
    have ho := rorigin_ev ((⟨#[47]⟩ : ByteArray) ++ z) (by omega)
    rw [hc1, c2, c3] at ho
    rw [hpo]
    refine Ev.step (fun _ => parallaxref6_Target.j4.eq_2 ..) (Ev.pos rfl (Ev.pos (by omega) (Ev.bind ho ?_)))
    exact Ev.cond (fun _ => Ev.now _) (fun _ => Ev.now _)
  | false =>
    have h0 : ¬ (beforeB 63 z).size = 0 := fun e => by have := hb.mpr e; rw [hbb] at this; cases this
    have hpo : pathOf 2 z = beforeB 63 z := if_neg (fun e => h0 e.2)
    rw [hpo]
    refine Ev.step (fun _ => parallaxref6_Target.j4.eq_2 ..) (Ev.neg (by simp) (Ev.bind (rorigin_ev z (by omega)) ?_))
    exact Ev.cond (fun _ => Ev.now _) (fun _ => Ev.now _)
theorem j3_ev (s : ByteArray) (hs : s.size ≤ 1000) (n : Nat) (h7 : 7 ≤ n) (hn : n ≤ s.size) : Ev (fun k => parallaxref6_Target.j3 k s (n : Int)) (if hostB (s.extract 7 n) = true then originB 2 (s.extract 7 n) (s.extract n s.size) else badT) := by
  refine Ev.step (fun _ => parallaxref6_Target.j3.eq_2 ..) (Ev.pos (by omega) (Ev.pos (by omega) (Ev.pos (by omega) ?_)))
  rw [Int.toNat_natCast]
  have z1 : (s.extract 7 n).size ≤ 1000 := by rw [ByteArray.size_extract]; omega
  have z2 : (s.extract n s.size).size ≤ 1000 := by rw [ByteArray.size_extract]; omega
  generalize s.extract 7 n = h at z1
  generalize s.extract n s.size = z at z2
  refine Ev.bind (rhost_ev h (by omega)) ?_
  cases hostB h with
  | false => exact Ev.neg (by simp) (Ev.now _)
  | true =>
    rw [if_pos rfl]
    refine Ev.pos rfl ?_
    by_cases h0 : z.size = 0
    · refine Ev.pos ((nil_size z).mpr h0) (j4_ev z h (by omega) true ⟨fun _ => ?_, fun _ => rfl⟩)
      have := before_size 63 z; omega
    · refine Ev.neg (fun e => h0 ((nil_size z).mp e)) (Ev.pos (by omega) (j4_ev z h (by omega) _ ?_))
      rw [first_before h0, beq_iff_eq]
theorem pref_before (s : ByteArray) (h : prefB s (⟨#[47]⟩ : ByteArray) = false) : prefB (beforeB 63 s) (⟨#[47]⟩ : ByteArray) = false := by
  cases hs : s.data.toList with
  | nil =>
    apply pref_nil
    have := before_size 63 s
    have h0 : s.size = 0 := by rw [← data_length, hs]; rfl
    omega
  | cons b t =>
    have h0 : s.size ≠ 0 := by rw [← data_length, hs]; simp
    rw [pref_first s h0, bt_zero hs] at h
    by_cases hb : b = 63
    · apply pref_nil
      unfold beforeB
      rw [size_BA, hs, hb]; simp
    · have e : (beforeB 63 s).data.toList = b :: t.takeWhile (· != 63) := by
        unfold beforeB
        rw [data_BA, hs, List.takeWhile_cons, if_pos (by simp [hb])]
      have z : (beforeB 63 s).size ≠ 0 := by rw [← data_length, e]; simp
      rw [pref_first _ z, bt_zero e]
      exact h
theorem whole_pref (s : ByteArray) (h : wholeB s = true) : prefB s (⟨#[47]⟩ : ByteArray) = false := by
  unfold wholeB at h
  rw [Bool.and_eq_true, decide_eq_true_eq] at h
  obtain ⟨h7, h⟩ := h
  rw [LowP.same_iff] at h
  cases hs : s.data.toList with
  | nil =>
    have : s.size = 0 := by rw [← data_length, hs]; rfl
    omega
  | cons b t =>
    rw [pref_first s (by omega), bt_zero hs, beq_eq_false_iff_ne]
    intro e
    have e7 : bytesOf (s.extract 0 7) = (b.toNat : Int) :: (t.take 6).map fun b => (b.toNat : Int) := by
      unfold bytesOf; rw [ext_data, hs]; rfl
    rw [e7, e] at h
    have h' := List.cons.inj h
    exact absurd h'.1 (by decide)
theorem ext_first (s : ByteArray) (n : Nat) (h : 7 + n ≤ s.size) : (s.extract 7 s.size).extract 0 n = s.extract 7 (7 + n) := by
  apply ba_inj
  rw [ext_data, ext_data, ext_data, List.drop_zero, List.take_take, show min (n - 0) (s.size - 7) = 7 + n - 7 by omega]
theorem ext_rest (s : ByteArray) (n : Nat) : (s.extract 7 s.size).extract n (s.extract 7 s.size).size = s.extract (7 + n) s.size := by
  have hz : (s.extract 7 s.size).size = s.size - 7 := by rw [ByteArray.size_extract]; omega
  apply ba_inj
  rw [hz, ext_data, ext_data, ext_data]
  rw [List.take_of_length_le (l := s.data.toList.drop 7) (by rw [List.length_drop, data_length]; omega), List.drop_drop]
  rw [show s.size - 7 - n = s.size - (7 + n) by omega]
theorem scan_all (s : ByteArray) (hs : s.size ≤ 1000) (h7 : 7 ≤ s.size) : Ev (fun k => parallaxref6_Target.l0 k s 7) (if hostB ((s.extract 7 s.size).extract 0 (hostEnd (s.extract 7 s.size))) = true then originB 2 ((s.extract 7 s.size).extract 0 (hostEnd (s.extract 7 s.size))) ((s.extract 7 s.size).extract (hostEnd (s.extract 7 s.size)) (s.extract 7 s.size).size) else badT) := by
  have hR : bytesOf (s.extract 7 s.size) = (bytesOf s).drop 7 := by
    unfold bytesOf
    rw [ext_data, List.take_of_length_le (by rw [List.length_drop, data_length]; exact Nat.le_refl _), List.map_drop]
  obtain ⟨A, X, a1, a2, a3, a4⟩ := host_split (s.extract 7 s.size)
  have hle := (hostEnd_le (s.extract 7 s.size)).2
  have hsz : (s.extract 7 s.size).size = s.size - 7 := by rw [ByteArray.size_extract]; omega
  rw [hR] at a1
  rw [hsz] at hle
  rw [ext_rest]
  generalize hostEnd (s.extract 7 s.size) = n at a2 hle
  rw [ext_first s n (by omega)]
  exact scan_ev s (by omega) _ (7 + n) X a4 A 7 a3 (by omega) (by omega) a1 (j3_ev s hs (7 + n) (by omega) (by omega))
theorem rtarget_ev (m s : ByteArray) (hs : s.size ≤ 1000) : Ev (fun k => parallaxref6_Target.f k m s) (parseB m s) := by
  have j1t : wholeB s = true → Ev (fun k => parallaxref6_Target.l0 k s 7) (if hostB ((s.extract 7 s.size).extract 0 (hostEnd (s.extract 7 s.size))) = true then originB 2 ((s.extract 7 s.size).extract 0 (hostEnd (s.extract 7 s.size))) ((s.extract 7 s.size).extract (hostEnd (s.extract 7 s.size)) (s.extract 7 s.size).size) else badT) := by
    intro hw
    have h7 : 7 ≤ s.size := by unfold wholeB at hw; rw [Bool.and_eq_true, decide_eq_true_eq] at hw; exact hw.1
    exact scan_all s hs h7
  have j1 : ∀ b, b = wholeB s → Ev (fun k => parallaxref6_Target.j1 k s 1 (⟨#[]⟩ : ByteArray) b) (if prefB s (⟨#[47]⟩ : ByteArray) = true then originB 1 (⟨#[]⟩ : ByteArray) s else if wholeB s = true then (if hostB ((s.extract 7 s.size).extract 0 (hostEnd (s.extract 7 s.size))) = true then originB 2 ((s.extract 7 s.size).extract 0 (hostEnd (s.extract 7 s.size))) ((s.extract 7 s.size).extract (hostEnd (s.extract 7 s.size)) (s.extract 7 s.size).size) else badT) else badT) := by
    intro b hb
    refine Ev.step (fun _ => parallaxref6_Target.j1.eq_2 ..) ?_
    cases hbb : b with
    | true =>
      have hw : wholeB s = true := by rw [← hb, hbb]
      rw [if_neg (by rw [whole_pref s hw]; simp), if_pos hw]
      exact Ev.pos rfl (j1t hw)
    | false =>
      have hw : wholeB s = false := by rw [← hb, hbb]
      rw [hw, if_neg (c := (false = true)) (by simp)]
      refine Ev.neg (by simp) (Ev.bind (rorigin_ev s (by omega)) ?_)
      have hpo : pathOf 1 s = beforeB 63 s := if_neg (fun h => absurd h.1 (by decide))
      cases hp : prefB s (⟨#[47]⟩ : ByteArray) with
      | true =>
        rw [if_pos rfl]
        unfold originB
        rw [hpo]
        exact Ev.cond (fun _ => Ev.now _) (fun _ => Ev.now _)
      | false =>
        have : pathB (beforeB 63 s) = false := by unfold pathB; rw [pref_before s hp]; rfl
        rw [this, if_neg (c := (false = true)) (by simp)]
        exact Ev.neg (by simp) (Ev.now _)
  have j0 : ∀ b : Bool, Ev (fun k => parallaxref6_Target.j0 k s b) (if b = true then (4, (⟨#[]⟩ : ByteArray), (⟨#[]⟩ : ByteArray), (⟨#[]⟩ : ByteArray), false, 0) else if prefB s (⟨#[47]⟩ : ByteArray) = true then originB 1 (⟨#[]⟩ : ByteArray) s else if wholeB s = true then (if hostB ((s.extract 7 s.size).extract 0 (hostEnd (s.extract 7 s.size))) = true then originB 2 ((s.extract 7 s.size).extract 0 (hostEnd (s.extract 7 s.size))) ((s.extract 7 s.size).extract (hostEnd (s.extract 7 s.size)) (s.extract 7 s.size).size) else badT) else badT) := by
    intro b
    refine Ev.step (fun _ => parallaxref6_Target.j0.eq_2 ..) (Ev.cond (fun _ => Ev.now _) (fun _ => ?_))
    by_cases h7 : (s.size : Int) ≥ 7
    · refine Ev.pos h7 (Ev.pos (by omega) (Ev.pos (by omega) (Ev.val (rsame_some (by rw [ByteArray.size_extract]; omega) (by decide)) (j1 _ ?_))))
      unfold wholeB; rw [decide_eq_true (by omega : 7 ≤ s.size), Bool.true_and]
    · refine Ev.neg h7 (j1 false ?_)
      unfold wholeB; rw [decide_eq_false (by omega : ¬ 7 ≤ s.size), Bool.false_and]
  unfold parallaxref6_Target.f parseB
  refine Ev.cond (fun _ => Ev.bind (rhost_ev s (by omega)) ?_) (fun _ => ?_)
  · cases hostB s with
    | false => exact Ev.neg (by simp) (Ev.now _)
    | true =>
      refine Ev.pos rfl (Ev.bind (rport_ev s (by omega)) ?_)
      cases hasC 58 s with
      | false => exact Ev.neg (by simp) (Ev.now _)
      | true => exact Ev.pos rfl (Ev.now _)
  · by_cases ho : m.toList = ([79, 80, 84, 73, 79, 78, 83] : List UInt8)
    · refine Ev.pos ho ((j0 _).to ?_)
      by_cases hz : s.toList = ([42] : List UInt8)
      · exact (if_pos (by simp [hz])).trans (if_pos ⟨ho, hz⟩).symm
      · exact (if_neg (by simp [hz])).trans (if_neg (fun h => hz h.2)).symm
    · exact Ev.neg ho ((j0 false).to ((if_neg (by simp)).trans (if_neg (fun h => ho h.1)).symm))
theorem pathOf_size (form : Int) (s : ByteArray) : (pathOf form s).size ≤ s.size + 1 := by
  unfold pathOf
  have := before_size 63 s
  split
  · show 1 ≤ _; omega
  · omega
theorem origin_sizes (form : Int) (h s : ByteArray) (n : Nat) (hh : h.size ≤ n) (hs : s.size ≤ n) : (originB form h s).2.1.size ≤ n + 1 ∧ (originB form h s).2.2.1.size ≤ n + 1 ∧ (originB form h s).2.2.2.1.size ≤ n + 1 := by
  unfold originB
  have h1 := pathOf_size form s
  have h2 := after_size 63 s
  split
  · exact ⟨by show h.size ≤ _; omega, by show (pathOf form s).size ≤ _; omega, by show (afterB 63 s).size ≤ _; omega⟩
  · exact ⟨Nat.zero_le _, Nat.zero_le _, Nat.zero_le _⟩
theorem parse_sizes (m s : ByteArray) : (parseB m s).2.1.size ≤ s.size + 1 ∧ (parseB m s).2.2.1.size ≤ s.size + 1 ∧ (parseB m s).2.2.2.1.size ≤ s.size + 1 := by
  have hR : (s.extract 7 s.size).size ≤ s.size := by rw [ByteArray.size_extract]; omega
  unfold parseB
  split
  · split
    · exact ⟨by show s.size ≤ _; omega, Nat.zero_le _, Nat.zero_le _⟩
    · exact ⟨Nat.zero_le _, Nat.zero_le _, Nat.zero_le _⟩
  · split
    · exact ⟨Nat.zero_le _, Nat.zero_le _, Nat.zero_le _⟩
    · split
      · exact origin_sizes 1 _ s s.size (Nat.zero_le _) (Nat.le_refl _)
      · split
        · split
          · exact origin_sizes 2 _ _ s.size (by rw [ByteArray.size_extract]; omega) (by rw [ByteArray.size_extract]; omega)
          · exact ⟨Nat.zero_le _, Nat.zero_le _, Nat.zero_le _⟩
        · exact ⟨Nat.zero_le _, Nat.zero_le _, Nat.zero_le _⟩
theorem pr_ev (m s : ByteArray) (hs : s.size ≤ 1000000) : Ev (fun k => target_Parse.f k m s) (parseB m s) :=
  parse_ev m s (by omega) (fun _ _ => by
    unfold strings_IndexAny.f
    exact if_pos ⟨by rw [ByteArray.size_append, ByteArray.size_extract]; show _ + 1 < _; omega, by decide, by decide, by decide⟩)
theorem methods_loop (x0 x2 : ByteArray) (x3 : Int) (x : ByteArray) (hx : x.size ≤ 1000) (T : List ByteArray) (i : Nat) (hi : i < 1000) (hN : Ev (fun k => parallaxlaw7_TargetTells.l0 k x0 x2 x3 T (T.length : Int) ((i + 1 : Nat) : Int)) true) (M : List ByteArray) (hM : M.length ≤ 1000) (d : Nat) : ∀ j : Nat, j + d = M.length →
    Ev (fun k => parallaxlaw7_TargetTells.l1 k x0 x2 x3 x T (T.length : Int) (i : Int) M (M.length : Int) (j : Int)) true := by
  have j4 : Ev (fun k => parallaxlaw7_TargetTells.j4 k x0 x2 x3 T (T.length : Int) (i : Int) false) true := by
    refine Ev.step (fun _ => parallaxlaw7_TargetTells.j4.eq_2 ..) (Ev.neg (by simp) ?_)
    rw [wrap_nat (by omega)]
    exact hN
  induction d with
  | zero =>
    intro j hj
    refine Ev.step (fun _ => parallaxlaw7_TargetTells.l1.eq_2 ..) (Ev.neg (by omega) (Ev.bind (host_ev x (by omega)) (Ev.bind (rhost_ev x (by omega)) (Ev.neg (by simp) (Ev.bind (path_ev x (by omega)) (Ev.bind (rpath_ev x (by omega)) (Ev.neg (by simp) (Ev.bind (query_ev x (by omega)) (Ev.bind (rquery_ev x (by omega)) ?_)))))))))
    rw [show (queryB x != queryB x) = false by simp]
    exact j4
  | succ d ih =>
    intro j hj
    refine Ev.step (fun _ => parallaxlaw7_TargetTells.l1.eq_2 ..) (Ev.pos (by omega) (Ev.pos (by omega) (Ev.pos (by omega) ?_)))
    generalize rdOf ByteArray.empty M (j : Int) = m
    refine Ev.bind (pr_ev m x (by omega)) (Ev.bind (rtarget_ev m x hx) ?_)
    obtain ⟨z1, z2, z3⟩ := parse_sizes m x
    generalize parseB m x = r at z1 z2 z3
    refine Ev.neg (by simp) (Ev.pos rfl (Ev.bind (putT_ev r.1 r.2.1 r.2.2.1 r.2.2.2.1 r.2.2.2.2.1 (by omega) (by omega) (by omega)) (Ev.bind (rputT_ev r.1 r.2.1 r.2.2.1 r.2.2.2.1 r.2.2.2.2.1 (by omega) (by omega) (by omega)) ?_)))
    refine Ev.step (fun _ => parallaxlaw7_TargetTells.j3.eq_2 ..) (Ev.neg (by simp) ?_)
    rw [wrap_nat (by omega)]
    exact ih (j + 1) (by omega)
theorem texts_loop (x0 x2 : ByteArray) (x3 : Int) (h0 : x0.size ≤ 1000) (h2 : x2.size ≤ 1000) (T : List ByteArray) (hT : ∀ x ∈ T, x.size ≤ 1000) (hn : T.length ≤ 100) (d : Nat) : ∀ i : Nat, i + d = T.length →
    Ev (fun k => parallaxlaw7_TargetTells.l0 k x0 x2 x3 T (T.length : Int) (i : Int)) true := by
  induction d with
  | zero =>
    intro i hi
    refine Ev.step (fun _ => parallaxlaw7_TargetTells.l0.eq_2 ..) (Ev.neg (by omega) (Ev.bind (putT_ev _ x0 x2 x0 _ (by omega) (by omega) (by omega)) (Ev.bind (rputT_ev _ x0 x2 x0 _ (by omega) (by omega) (by omega)) ((Ev.now _).to (by simp)))))
  | succ d ih =>
    intro i hi
    refine Ev.step (fun _ => parallaxlaw7_TargetTells.l0.eq_2 ..) (Ev.pos (by omega) (Ev.pos (by omega) (Ev.pos (by omega) (Ev.val rfl ?_))))
    exact methods_loop x0 x2 x3 _ (hT _ (rdOf_mem T i (by omega))) T i (by omega) (ih (i + 1) (by omega)) _ (by simp) 4 0 rfl
theorem known60 : parallaxlaw7_known.f 60 = some true := by decide +kernel
theorem TargetTells : parallaxlaw7_TargetTells.Pure := by
  intro s l m a _ hl _ hw _ h3
  suffices h : Ev (fun k => parallaxlaw7_TargetTells.f k s l m a) true by
    obtain ⟨k, hk⟩ := h
    exact ⟨k, hk k (Nat.le_refl _)⟩
  have out : Ev (fun k => parallaxlaw7_TargetTells.j0 k s l m a true) true := Ev.step (fun _ => parallaxlaw7_TargetTells.j0.eq_2 ..) (Ev.pos rfl (Ev.now _))
  unfold parallaxlaw7_TargetTells.f
  refine Ev.bind (Ev.of (fun k => parallaxlaw7_known.mono k) known60) (Ev.pos rfl ?_)
  by_cases h80 : (s.size : Int) > 80
  · exact Ev.pos h80 out
  · by_cases h10 : (l.length : Int) > 10
    · exact Ev.neg h80 (Ev.pos h10 out)
    · refine Ev.neg h80 (Ev.neg h10 ?_)
      by_cases h20 : (m.size : Int) > 20
      · rw [decide_eq_true h20]; exact out
      · rw [decide_eq_false h20]
        have hs := some_ev l (by omega) (fun x hx => u8_wf (hw x hx))
        have hz := some_size l
        refine Ev.step (fun _ => parallaxlaw7_TargetTells.j0.eq_2 ..) (Ev.neg (by simp) (Ev.bind hs (Ev.bind hs (Ev.pos (by omega) (Ev.bind hs (Ev.pos (by omega) (Ev.bind hs (Ev.pos (by omega) (Ev.val rfl ?_)))))))))
        refine texts_loop s m a (by omega) (by omega) _ (fun x hx => ?_) (by simp) 5 0 rfl
        have q1 : (⟨#[47]⟩ : ByteArray).size = 1 := rfl
        have q7 : (⟨#[104, 116, 116, 112, 58, 47, 47]⟩ : ByteArray).size = 7 := rfl
        have q6 : (⟨#[104, 46, 111, 114, 103, 58]⟩ : ByteArray).size = 6 := rfl
        simp only [List.mem_cons, List.not_mem_nil, or_false] at hx
        rcases hx with rfl | rfl | rfl | rfl | rfl
        · omega
        · omega
        · rw [ByteArray.size_append, q1]; omega
        · rw [ByteArray.size_append, q7]; omega
        · rw [ByteArray.size_append, q6]; omega
end Go.Proofs.Ytnnehbbfokoklaa.Pure
