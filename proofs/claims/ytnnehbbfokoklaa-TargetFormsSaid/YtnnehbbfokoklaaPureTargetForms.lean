/- It is proved that TargetForms answers true at every input: a target's text is read back as the target it was. -/
import Derived.Test.YtnnehbbfokoklaaPTargetFormsx7
import Derived.Test.YtnnehbbfokoklaaTxtTargetForms
namespace Go.Proofs.Ytnnehbbfokoklaa.Pure
open Go.RowKit Go.Proofs.Ytnnehbbfokoklaa.PTargetForms Go.Proofs.YtnnehbbfokoklaaW.PrintWords Go.Proofs.YtnnehbbfokoklaaW.PrintLast Go.Proofs.YtnnehbbfokoklaaW.PrintMore Go.Proofs.Ytnnehbbfokoklaa.Aid Go.Proofs.Ytnnehbbfokoklaa.Parts

theorem bytes_app (s t : ByteArray) : bytesOf (s ++ t) = bytesOf s ++ bytesOf t := by
  unfold bytesOf; rw [show (s ++ t).data.toList = s.data.toList ++ t.data.toList by simp [ByteArray.data_append], List.map_append]
theorem signs_app (o : ByteArray) (d : Nat) : ∀ l m : List Int, l.length ≤ d → signsB o true l = true → signsB o true m = true → signsB o true (l ++ m) = true := by
  induction d with
  | zero => intro l m hl _ hm; cases l with
    | nil => exact hm
    | cons _ _ => simp at hl
  | succ d ih =>
    intro l m hl h hm
    cases l with
    | nil => exact hm
    | cons c t =>
      rw [List.length_cons] at hl
      cases hc : plainB o c with
      | true =>
        rw [signs_plain hc] at h
        rw [List.cons_append, signs_plain hc]
        exact ih t m (by omega) h hm
      | false =>
        match t, h, hl with
        | [], h, _ => rw [signs_short hc [] (by simp)] at h; cases h
        | [_], h, _ => rw [signs_short hc _ (by simp)] at h; cases h
        | a :: b :: r, h, hl =>
          rw [signs_no hc, Bool.and_eq_true] at h
          show signsB o true (c :: a :: b :: (r ++ m)) = true
          rw [signs_no hc, Bool.and_eq_true]
          exact ⟨h.1, ih r m (by simp at hl; omega) h.2 hm⟩
theorem tab_plain : ∀ n : Fin 256, plainB askedT (n.val : Int) = true → (n.val : Int) < 128 := by decide +kernel
theorem tab_hex : ∀ n : Fin 256, ofB (n.val : Int) 5 = true → (n.val : Int) < 128 := by decide +kernel
theorem signs_ascii (d : Nat) : ∀ l : List Int, l.length ≤ d → (∀ x ∈ l, 0 ≤ x ∧ x < 256) → signsB askedT true l = true → ∀ x ∈ l, x < 128 := by
  induction d with
  | zero => intro l hl _ _ x hx; cases l with
    | nil => cases hx
    | cons _ _ => simp at hl
  | succ d ih =>
    intro l hl hw h
    cases l with
    | nil => intro x hx; cases hx
    | cons c t =>
      rw [List.length_cons] at hl
      have hcw := hw c (by simp)
      cases hc : plainB askedT c with
      | true =>
        rw [signs_plain hc] at h
        intro x hx
        rcases List.mem_cons.mp hx with rfl | hx
        · exact byte_all (p := fun x => plainB askedT x = true → x < 128) tab_plain hcw.1 hcw.2 hc
        · exact ih t (by omega) (fun y hy => hw y (by simp [hy])) h x hx
      | false =>
        match t, h, hl, hw with
        | [], h, _, _ => rw [signs_short hc [] (by simp)] at h; cases h
        | [_], h, _, _ => rw [signs_short hc _ (by simp)] at h; cases h
        | a :: b :: r, h, hl, hw =>
          rw [signs_no hc] at h
          simp only [Bool.and_eq_true, Bool.true_and, beq_iff_eq] at h
          have ha := hw a (by simp)
          have hb := hw b (by simp)
          have ha2 := byte_all (p := fun x => ofB x 5 = true → x < 128) tab_hex ha.1 ha.2 h.1.2.1
          have hb2 := byte_all (p := fun x => ofB x 5 = true → x < 128) tab_hex hb.1 hb.2 h.1.2.2
          have hc2 := h.1.1
          intro x hx
          simp only [List.mem_cons] at hx
          rcases hx with rfl | rfl | rfl | hx
          · omega
          · exact ha2
          · exact hb2
          · exact ih r (by simp at hl; omega) (fun y hy => hw y (by simp [hy])) h.2 x hx
def pieces : List ByteArray := [(⟨#[97]⟩ : ByteArray), (⟨#[98, 47]⟩ : ByteArray), (⟨#[37, 52, 49]⟩ : ByteArray), (⟨#[46]⟩ : ByteArray), (⟨#[120, 61, 49]⟩ : ByteArray), (⟨#[58]⟩ : ByteArray)]
def slash : ByteArray := ⟨#[47]⟩
def httpT : ByteArray := ⟨#[104, 116, 116, 112, 58, 47, 47]⟩
def hostT : ByteArray := ⟨#[104, 46, 111, 114, 103, 58, 56]⟩
def connT : ByteArray := ⟨#[67, 79, 78, 78, 69, 67, 84]⟩
def starT : ByteArray := ⟨#[42]⟩
theorem tab_piece : ∀ i : Fin 6, signsB innerT true (bytesOf (rdOf ByteArray.empty pieces (i.val : Int))) = true ∧ ((bytesOf (rdOf ByteArray.empty pieces (i.val : Int))).all fun x => decide (x < 128) && decide (x ≠ 63)) = true ∧ (rdOf ByteArray.empty pieces (i.val : Int)).size ≤ 3 := by decide +kernel
/-- a path as this law makes it -/
structure PathOk (s : ByteArray) : Prop where
  signs : signsB innerT true (bytesOf s) = true
  low : ∀ x ∈ bytesOf s, x < 128 ∧ x ≠ 63
  head : ∃ t, s.data.toList = 47 :: t
theorem ok_slash : PathOk slash := ⟨by decide +kernel, by decide +kernel, ⟨[], rfl⟩⟩
theorem ok_app {s : ByteArray} (h : PathOk s) (i : Nat) (hi : i < 6) : PathOk (s ++ rdOf ByteArray.empty pieces (i : Int)) := by
  obtain ⟨p1, p2, _⟩ := tab_piece ⟨i, hi⟩
  dsimp only at p1 p2
  refine ⟨?_, ?_, ?_⟩
  · rw [bytes_app]; exact signs_app innerT _ _ _ (Nat.le_refl _) h.signs p1
  · intro x hx
    rw [bytes_app] at hx
    rcases List.mem_append.mp hx with hx | hx
    · exact h.low x hx
    · have := List.all_eq_true.mp p2 x hx
      rw [Bool.and_eq_true, decide_eq_true_eq, decide_eq_true_eq] at this
      exact this
  · obtain ⟨t, ht⟩ := h.head
    exact ⟨t ++ (rdOf ByteArray.empty pieces (i : Int)).data.toList, by rw [data_app, ht]; rfl⟩
/-- what stands behind a path -/
def tailT (q : ByteArray) (a : Bool) : ByteArray := if a = true then (⟨#[63]⟩ : ByteArray) ++ q else (⟨#[]⟩ : ByteArray)
def whole (p q : ByteArray) (a : Bool) : ByteArray := p ++ tailT q a
structure AskOk (q : ByteArray) (a : Bool) : Prop where
  query : queryB q = true
  none : a = false → q = (⟨#[]⟩ : ByteArray)
theorem ask_low {q : ByteArray} {a : Bool} (h : AskOk q a) : ∀ x ∈ bytesOf q, x < 128 := signs_ascii _ _ (Nat.le_refl _) (fun _ hx => bytes_lt _ hx) h.query
theorem whole_cut {p q : ByteArray} {a : Bool} (hp : PathOk p) (hq : AskOk q a) : beforeB 63 (whole p q a) = p ∧ afterB 63 (whole p q a) = q ∧ hasC 63 (whole p q a) = a := by
  have h63 : ∀ x ∈ bytesOf p, x ≠ ((63 : UInt8).toNat : Int) := fun x hx => (hp.low x hx).2
  cases a with
  | true =>
    have e : whole p q true = p ++ BA [63] ++ q := ba_inj (by unfold whole tailT; rw [if_pos rfl, data_app, data_app, data_app, data_app]; simp [data_BA])
    rw [e]
    exact ⟨(cut_app 63 p q h63).1, (cut_after 63 p q h63).1, (cut_after 63 p q h63).2⟩
  | false =>
    have e : whole p q false = p := ba_inj (by unfold whole tailT; rw [if_neg (by simp), data_app]; simp)
    rw [e]
    refine ⟨(cut_none 63 p h63).1, ?_, cut_has 63 p h63⟩
    have := (cut_none 63 p h63).2
    unfold restB at this
    have h2 : p.data.toList.dropWhile (· != 63) = [] := by have := congrArg (fun s : ByteArray => s.data.toList) this; simpa [data_BA] using this
    unfold afterB
    rw [h2, hq.none rfl]
    rfl
theorem pref_slash {s : ByteArray} {t : List UInt8} (h : s.data.toList = 47 :: t) : prefB s (⟨#[47]⟩ : ByteArray) = true := by
  unfold prefB
  rw [beq_iff_eq, ByteArray.toList_eq, ByteArray.toList_eq, ext_data, h]
  rfl
theorem size_pos {s : ByteArray} {c : UInt8} {t : List UInt8} (h : s.data.toList = c :: t) : s.size ≠ 0 := by
  rw [← data_length, h]; simp
theorem origin_is {p q : ByteArray} {a : Bool} (form : Int) (host : ByteArray) (hp : PathOk p) (hq : AskOk q a) : originB form host (whole p q a) = (form, host, p, q, a, 0) := by
  obtain ⟨e1, e2, e3⟩ := whole_cut hp hq
  obtain ⟨t, ht⟩ := hp.head
  have hpo : pathOf form (whole p q a) = p := by
    unfold pathOf
    rw [e1, if_neg (fun h => size_pos ht h.2)]
  unfold originB
  rw [hpo, e2, e3]
  have hpb : pathB p = true := by unfold pathB; rw [pref_slash ht, hp.signs]; rfl
  rw [hpb, hq.query]
  rfl
theorem put_one (p q : ByteArray) (a : Bool) : putT 1 (⟨#[]⟩ : ByteArray) p q a = whole p q a := by simp [putT, whole, tailT]
theorem put_two (p q : ByteArray) (a : Bool) : putT 2 hostT p q a = ((httpT ++ hostT) ++ p) ++ tailT q a := by simp [putT, tailT, httpT, hostT]
theorem whole_head {p q : ByteArray} {a : Bool} (hp : PathOk p) : ∃ t, (whole p q a).data.toList = 47 :: t := by
  obtain ⟨t, ht⟩ := hp.head
  exact ⟨t ++ (tailT q a).data.toList, by unfold whole; rw [data_app, ht]; rfl⟩
/-- the four methods -/
def methods : List ByteArray := [(⟨#[71, 69, 84]⟩ : ByteArray), (⟨#[80, 79, 83, 84]⟩ : ByteArray), (⟨#[79, 80, 84, 73, 79, 78, 83]⟩ : ByteArray), (⟨#[72, 69, 65, 68]⟩ : ByteArray)]
theorem tab_method : ∀ i : Fin 4, (rdOf ByteArray.empty methods (i.val : Int)).toList ≠ ([67, 79, 78, 78, 69, 67, 84] : List UInt8) := by decide +kernel
theorem parse_path {m p q : ByteArray} {a : Bool} (hm : m.toList ≠ ([67, 79, 78, 78, 69, 67, 84] : List UInt8)) (hp : PathOk p) (hq : AskOk q a) : parseB m (whole p q a) = (1, (⟨#[]⟩ : ByteArray), p, q, a, 0) := by
  obtain ⟨t, ht⟩ := whole_head (q := q) (a := a) hp
  unfold parseB
  rw [if_neg hm, if_neg (fun h => by have := h.2; rw [ByteArray.toList_eq, ht] at this; injection this with h1 _; exact absurd h1 (by decide)), if_pos (pref_slash ht)]
  exact origin_is 1 _ hp hq
theorem parse_conn {p q : ByteArray} {a : Bool} (hp : PathOk p) : parseB connT (whole p q a) = badT := by
  obtain ⟨t, ht⟩ := whole_head (q := q) (a := a) hp
  have hb : ∃ r, bytesOf (beforeB 58 (whole p q a)) = 47 :: r := by
    unfold beforeB bytesOf
    rw [data_BA, ht]
    exact ⟨_, rfl⟩
  obtain ⟨r, hr⟩ := hb
  have hh : hostB (whole p q a) = false := by
    unfold hostB
    rw [hr, signs_flat, List.all_cons, show plainB (⟨#[45, 46, 95, 126]⟩ : ByteArray) 47 = false by decide +kernel]
    simp
  unfold parseB
  rw [if_pos (by decide +kernel), hh]
  simp
theorem parse_host : parseB connT hostT = (3, hostT, (⟨#[]⟩ : ByteArray), (⟨#[]⟩ : ByteArray), false, 0) := by
  unfold parseB
  rw [if_pos (by decide +kernel), if_pos (by decide +kernel)]
theorem parse_bare {m : ByteArray} (hm : m.toList ≠ ([67, 79, 78, 78, 69, 67, 84] : List UInt8)) : parseB m hostT = badT := by
  unfold parseB
  rw [if_neg hm, if_neg (fun h => absurd h.2 (by decide +kernel)), if_neg (by decide +kernel), if_neg (by decide +kernel)]
theorem parse_star {m : ByteArray} (hm : m.toList ≠ ([67, 79, 78, 78, 69, 67, 84] : List UInt8)) : parseB m starT = if m.toList = ([79, 80, 84, 73, 79, 78, 83] : List UInt8) then (4, (⟨#[]⟩ : ByteArray), (⟨#[]⟩ : ByteArray), (⟨#[]⟩ : ByteArray), false, 0) else badT := by
  unfold parseB
  rw [if_neg hm]
  by_cases ho : m.toList = ([79, 80, 84, 73, 79, 78, 83] : List UInt8)
  · rw [if_pos ⟨ho, by decide +kernel⟩, if_pos ho]
  · rw [if_neg (fun h => ho h.1), if_neg ho, if_neg (by decide +kernel), if_neg (by decide +kernel)]
theorem two_data (p q : ByteArray) (a : Bool) : (((httpT ++ hostT) ++ p) ++ tailT q a).data.toList = [104, 116, 116, 112, 58, 47, 47, 104, 46, 111, 114, 103, 58, 56] ++ (whole p q a).data.toList := by
  unfold whole
  rw [data_app, data_app, data_app, data_app, List.append_assoc]
  rfl
theorem two_rest (p q : ByteArray) (a : Bool) : (((httpT ++ hostT) ++ p) ++ tailT q a).extract 7 (((httpT ++ hostT) ++ p) ++ tailT q a).size = hostT ++ whole p q a := by
  apply ba_inj
  rw [ext_data, two_data, data_app, List.take_of_length_le]
  · rfl
  · rw [List.length_drop, ← two_data, data_length]; exact Nat.le_refl _
theorem two_first (p q : ByteArray) (a : Bool) : (((httpT ++ hostT) ++ p) ++ tailT q a).extract 0 7 = httpT := by
  apply ba_inj
  rw [ext_data, two_data]
  rfl
theorem two_size (p q : ByteArray) (a : Bool) : (((httpT ++ hostT) ++ p) ++ tailT q a).size = 14 + (whole p q a).size := by
  rw [← data_length, two_data, List.length_append, data_length]; rfl
theorem two_whole (p q : ByteArray) (a : Bool) : wholeB (((httpT ++ hostT) ++ p) ++ tailT q a) = true := by
  unfold wholeB
  rw [two_first, two_size, decide_eq_true (by omega : 7 ≤ 14 + (whole p q a).size)]
  decide +kernel
theorem two_end {p : ByteArray} (q : ByteArray) (a : Bool) (hp : PathOk p) : hostEnd (hostT ++ whole p q a) = 7 := by
  obtain ⟨t, ht⟩ := whole_head (q := q) (a := a) hp
  unfold hostEnd
  rw [data_app, data_app, ht]
  show (Lib.indexAny (104 :: 46 :: 111 :: 114 :: 103 :: 58 :: 56 :: 47 :: (t ++ _)) [47, 63]).toNat = 7
  simp [Lib.indexAny]
theorem parse_two {m p q : ByteArray} {a : Bool} (hm : m.toList ≠ ([67, 79, 78, 78, 69, 67, 84] : List UInt8)) (hp : PathOk p) (hq : AskOk q a) : parseB m (((httpT ++ hostT) ++ p) ++ tailT q a) = (2, hostT, p, q, a, 0) := by
  have d := two_data p q a
  have hpre : prefB (((httpT ++ hostT) ++ p) ++ tailT q a) (⟨#[47]⟩ : ByteArray) = false := by
    unfold prefB
    rw [ByteArray.toList_eq, ByteArray.toList_eq, ext_data, d]
    rfl
  have x1 : (hostT ++ whole p q a).extract 0 7 = hostT := ba_inj (by rw [ext_data, data_app]; rfl)
  have x2 : (hostT ++ whole p q a).extract 7 (hostT ++ whole p q a).size = whole p q a := by
    apply ba_inj
    rw [ext_data, data_app, List.take_of_length_le]
    · rfl
    · rw [List.length_drop, ← data_app, data_length]; exact Nat.le_refl _
  have hh : hostB hostT = true := by decide +kernel
  unfold parseB
  rw [if_neg hm, if_neg (fun h => by have := h.2; rw [ByteArray.toList_eq, d] at this; simp at this), if_neg (by rw [hpre]; simp), if_pos (two_whole p q a), two_rest, two_end q a hp, x1, x2, if_pos hh]
  exact origin_is 2 _ hp hq
theorem low_data {s : ByteArray} (h : ∀ x ∈ bytesOf s, x < 128) : (s.data.toList.all fun b => decide (b.toNat < 128)) = true := by
  rw [List.all_eq_true]
  intro b hb
  have := h (b.toNat : Int) (List.mem_map.mpr ⟨b, hb, rfl⟩)
  exact decide_eq_true (by omega)
theorem two_any {p q : ByteArray} {a : Bool} (hp : PathOk p) (hq : AskOk q a) (hps : p.size ≤ 1000) (hqs : q.size ≤ 1000) : strings_IndexAny.f (((((httpT ++ hostT) ++ p) ++ tailT q a).extract 7 (((httpT ++ hostT) ++ p) ++ tailT q a).size) ++ (⟨#[47]⟩ : ByteArray)) (⟨#[47, 63]⟩ : ByteArray) = some (Lib.indexAny (((((httpT ++ hostT) ++ p) ++ tailT q a).extract 7 (((httpT ++ hostT) ++ p) ++ tailT q a).size) ++ (⟨#[47]⟩ : ByteArray)).data.toList [47, 63]) := by
  rw [two_rest]
  have hw : (whole p q a).size ≤ 3000 := by
    unfold whole tailT
    rw [ByteArray.size_append]
    split
    · rw [ByteArray.size_append]; show _ + (1 + _) ≤ _; omega
    · show _ + 0 ≤ _; omega
  have hlow : ((whole p q a).data.toList.all fun b => decide (b.toNat < 128)) = true := by
    have h1 := low_data (fun x hx => (hp.low x hx).1)
    have h2 := low_data (ask_low hq)
    unfold whole tailT
    rw [data_app, List.all_append, h1, Bool.true_and]
    split
    · rw [data_app, List.all_append, h2]; rfl
    · rfl
  unfold strings_IndexAny.f
  rw [if_pos]
  · refine ⟨?_, by decide, ?_, by decide⟩
    · rw [ByteArray.size_append, ByteArray.size_append]; show 7 + _ + 1 < _; omega
    · rw [data_app, data_app, List.all_append, List.all_append, hlow]; rfl
theorem no_any {s : ByteArray} (h : wholeB s = false ∨ prefB s (⟨#[47]⟩ : ByteArray) = true) {X : Prop} : wholeB s = true → prefB s (⟨#[47]⟩ : ByteArray) = false → X := by
  intro h1 h2
  rcases h with h | h
  · rw [h] at h1; cases h1
  · rw [h] at h2; cases h2
theorem j3_ev (i : Nat) (hi : i < 4) {p q : ByteArray} {a : Bool} (hp : PathOk p) (hq : AskOk q a) (hps : p.size ≤ 1000) (hqs : q.size ≤ 1000) : Ev (fun k => parallaxlaw7_TargetForms.j3 k (rdOf ByteArray.empty methods (i : Int)) 1 (⟨#[]⟩ : ByteArray) p q a) true := by
  have hm := tab_method ⟨i, hi⟩
  dsimp only at hm
  generalize rdOf ByteArray.empty methods (i : Int) = m at hm ⊢
  obtain ⟨t, ht⟩ := whole_head (q := q) (a := a) hp
  have hw : (whole p q a).size ≤ 3000 := by
    unfold whole tailT
    rw [ByteArray.size_append]
    split
    · rw [ByteArray.size_append]; show _ + (1 + _) ≤ _; omega
    · show _ + 0 ≤ _; omega
  have h2 := two_size p q a
  have v1 := putT_ev 1 (⟨#[]⟩ : ByteArray) p q a (by decide) (by omega) (by omega)
  have v2 := putT_ev 2 hostT p q a (by decide) (by omega) (by omega)
  rw [put_one] at v1
  rw [put_two] at v2
  have v3 := parse_ev m (whole p q a) (by omega) (no_any (.inr (pref_slash ht)))
  have v4 := parse_ev m (((httpT ++ hostT) ++ p) ++ tailT q a) (by omega) (fun _ _ => two_any hp hq hps hqs)
  have v5 := parse_ev connT hostT (by decide) (no_any (.inl (by decide +kernel)))
  have v6 := parse_ev connT (whole p q a) (by omega) (no_any (.inr (pref_slash ht)))
  have v7 := parse_ev m hostT (by decide) (no_any (.inl (by decide +kernel)))
  have v8 := parse_ev m starT (by decide) (no_any (.inl (by decide +kernel)))
  rw [parse_path hm hp hq] at v3
  rw [parse_two hm hp hq] at v4
  rw [parse_host] at v5
  rw [parse_conn hp] at v6
  rw [parse_bare hm] at v7
  rw [parse_star hm] at v8
  refine Ev.step (fun _ => parallaxlaw7_TargetForms.j3.eq_2 ..) (Ev.bind v1 (Ev.bind v3 (Ev.bind v2 (Ev.bind v4 (Ev.bind v5 (Ev.bind v1 (Ev.bind v6 (Ev.bind v7 (Ev.bind v8 ?_)))))))))
  refine Ev.pos rfl (Ev.pos (by simp) (Ev.pos rfl (Ev.pos (by simp [hostT]) (Ev.pos rfl (Ev.pos (by decide +kernel) (Ev.pos rfl (Ev.pos rfl (Ev.pos ?_ ?_))))))))
  · by_cases ho : m.toList = ([79, 80, 84, 73, 79, 78, 83] : List UInt8)
    · rw [if_pos ho]; simp [ho]
    · rw [if_neg ho]; simp [ho, badT]
  · by_cases ho : m.toList = ([79, 80, 84, 73, 79, 78, 83] : List UInt8)
    · rw [if_pos ho]
      exact Ev.pos rfl (Ev.step (fun _ => parallaxlaw7_TargetForms.j4.eq_2 ..) (Ev.now _))
    · rw [if_neg ho]
      exact Ev.neg (by simp [badT]) (Ev.step (fun _ => parallaxlaw7_TargetForms.j4.eq_2 ..) (Ev.now _))
theorem j2_ev {p q : ByteArray} (hp : PathOk p) (hq : queryB q = true) (hps : p.size ≤ 1000) (hqs : q.size ≤ 1000) (a : Bool) (m : Nat) : Ev (fun k => parallaxlaw7_TargetForms.j2 k q a (m : Int) p) true := by
  have hm : Int.tmod (m : Int) 4 = ((m % 4 : Nat) : Int) := by rw [Int.tmod_eq_emod_of_nonneg (by omega), Int.natCast_emod]; rfl
  have h4 : m % 4 < 4 := Nat.mod_lt _ (by decide)
  refine Ev.step (fun _ => parallaxlaw7_TargetForms.j2.eq_2 ..) (Ev.val rfl ?_)
  rw [hm]
  refine Ev.pos (by omega) (Ev.pos (by show ((m % 4 : Nat) : Int) < 4; omega) ?_)
  cases a with
  | true => exact Ev.pos rfl (j3_ev (m % 4) h4 hp ⟨hq, fun h => by cases h⟩ hps hqs)
  | false => exact Ev.neg (by simp) (j3_ev (m % 4) h4 hp ⟨by decide +kernel, fun _ => rfl⟩ hps (by decide))
theorem path_loop (l : List Int) (hl : l.length ≤ 8) (hw : ∀ x ∈ l, 0 ≤ x ∧ x < 256) (q : ByteArray) (hq : q.size ≤ 30) (a : Bool) (m : Nat) (d : Nat) : ∀ (i : Nat) (s : ByteArray), i + d = l.length → PathOk s → s.size ≤ 1 + 3 * i → Ev (fun k => parallaxlaw7_TargetForms.l0 k l q a (m : Int) s (i : Int)) true := by
  induction d with
  | zero =>
    intro i s hi hs hz
    refine Ev.step (fun _ => parallaxlaw7_TargetForms.l0.eq_2 ..) (Ev.neg (by omega) (Ev.bind (query_ev q (by omega)) ?_))
    cases hqq : queryB q with
    | true => exact Ev.pos rfl (j2_ev hs hqq (by omega) (by omega) a m)
    | false => exact Ev.neg (by simp) (j2_ev hs (by decide +kernel) (by omega) (by decide) a m)
  | succ d ih =>
    intro i s hi hs hz
    have hx : 0 ≤ rd l (i : Int) ∧ rd l (i : Int) < 256 := by
      rw [rd_nat, List.getD_eq_getElem?_getD, List.getElem?_eq_getElem (by omega), Option.getD_some]
      exact hw _ (List.getElem_mem _)
    obtain ⟨v, hv⟩ : ∃ v : Nat, rd l (i : Int) = (v : Int) := ⟨(rd l (i : Int)).toNat, by omega⟩
    have hm : Int.tmod (v : Int) 6 = ((v % 6 : Nat) : Int) := by rw [Int.tmod_eq_emod_of_nonneg (by omega), Int.natCast_emod]; rfl
    have h6 : v % 6 < 6 := Nat.mod_lt _ (by decide)
    obtain ⟨_, _, p3⟩ := tab_piece ⟨v % 6, h6⟩
    dsimp only at p3
    have hi' := ih (i + 1) (s ++ rdOf ByteArray.empty pieces ((v % 6 : Nat) : Int)) (by omega) (ok_app hs (v % 6) h6) (by rw [ByteArray.size_append]; omega)
    refine Ev.step (fun _ => parallaxlaw7_TargetForms.l0.eq_2 ..) (Ev.pos (by omega) (Ev.val rfl (Ev.pos (by omega) ?_)))
    rw [hv, hm, wrap_nat (by omega)]
    exact Ev.pos (by omega) (Ev.pos (by show ((v % 6 : Nat) : Int) < 6; omega) (Ev.pos (by show s.size + (rdOf ByteArray.empty pieces ((v % 6 : Nat) : Int)).size ≤ _; omega) hi'))
theorem TargetForms : parallaxlaw7_TargetForms.Pure := by
  intro l0 a1 a2 a3 h0 h1 hw h2 w3
  refine Ev.rounds (g := fun k => parallaxlaw7_TargetForms.f k l0 a1 a2 a3) ?_
  unfold parallaxlaw7_TargetForms.f
  have i3 := u8_wf w3
  obtain ⟨m, rfl⟩ : ∃ n : Nat, a3 = (n : Int) := ⟨a3.toNat, by omega⟩
  refine Ev.bind known_ev (Ev.pos rfl ?_)
  by_cases c0 : (l0.length : Int) > 8
  · exact Ev.pos c0 (Ev.step (fun _ => parallaxlaw7_TargetForms.j0.eq_2 ..) (Ev.pos rfl (Ev.now _)))
  refine Ev.neg c0 (Ev.step (fun _ => parallaxlaw7_TargetForms.j0.eq_2 ..) ?_)
  by_cases c1 : (a1.size : Int) > 30
  · exact Ev.pos (decide_eq_true c1) (Ev.now _)
  · exact Ev.neg (by simpa using c1) (path_loop l0 (by omega) (fun x hx => u8_wf (hw x hx)) a1 (by omega) a2 m l0.length 0 slash (by omega) ok_slash (by decide))
end Go.Proofs.Ytnnehbbfokoklaa.Pure
