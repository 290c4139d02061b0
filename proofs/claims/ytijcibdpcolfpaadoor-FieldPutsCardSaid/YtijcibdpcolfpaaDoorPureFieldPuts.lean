/- It is proved that FieldPuts answers true at every input: fields that may be, written one behind another, are read again, line by line. -/
import Derived.Test.YtijcibdpcolfpaaDoorPFieldPutsx5
import Derived.Test.YtijcibdpcolfpaaDoorTxtFieldPuts
namespace Go.Proofs.YtijcibdpcolfpaaDoor.Pure
open Go.RowKit Go.Proofs.YtijcibdpcolfpaaDoor.PFieldPuts Go.Proofs.YtijcibdpcolfpaaDoorW.PrintWords Go.Proofs.YtijcibdpcolfpaaDoorW.PrintLast Go.Proofs.YtijcibdpcolfpaaDoorW.PrintMore Go.Proofs.YtijcibdpcolfpaaDoor.Aid Go.Proofs.YtijcibdpcolfpaaDoor.Parts

/-- may a field be read? -/
def rightF (n v : ByteArray) : Bool := decide (0 < n.size) && (allB n [1] && (allB v [6] && ((Trim.trimB Trim.blankB v).toList == v.toList)))
theorem before_no (c : UInt8) (s : ByteArray) : c ∉ (beforeB c s).data.toList := by
  unfold beforeB
  rw [data_BA]
  intro hm
  have := TrimP.all_take hm
  simp at this
theorem toList_inj {a b : ByteArray} (h : (a.toList == b.toList) = true) : a = b := by
  have := beq_iff_eq.mp h
  rw [ByteArray.toList_eq, ByteArray.toList_eq] at this
  exact ba_inj this
theorem fright_eq (n v : ByteArray) (hs : n.size + v.size < 1000000000000) : Ev (fun k => field_Right.f k n v) (rightF n v) := by
  unfold field_Right.f
  have hsz : (n ++ (⟨#[58]⟩ : ByteArray)).size = n.size + 1 := by rw [ByteArray.size_append]; rfl
  refine Ev.pos (by omega) (Ev.pos (by rw [hsz]; omega) ?_)
  have hp := fparse_ev ((n ++ (⟨#[58]⟩ : ByteArray)) ++ v) (by rw [ByteArray.size_append, hsz]; omega) 0 (by decide)
  simp only [hasB_zero] at hp
  refine Ev.bind hp ?_
  have e0 : (n ++ (⟨#[58]⟩ : ByteArray)) ++ v = n ++ BA [58] ++ v := rfl
  rw [e0]
  by_cases hc : (58 : UInt8) ∈ n.data.toList
  · have hn : allB n [1] = false := by
      rw [Bool.eq_false_iff]; intro e
      exact (tok_at e (List.mem_map.mpr ⟨58, hc, rfl⟩ : ((58 : UInt8).toNat : Int) ∈ bytesOf n)).1 rfl
    have hr : rightF n v = false := by unfold rightF; rw [hn]; simp
    rw [hr]
    by_cases h0 : (parseG (n ++ BA [58] ++ v) false false false false false).2.2.2 = 0
    · obtain ⟨_, _, _, _, f5⟩ := strict_all _ h0
      rw [f5]
      refine Ev.pos rfl (Ev.pos rfl ((Ev.now _).to ?_))
      rw [Bool.and_eq_false_iff]
      refine .inl (Bool.eq_false_iff.mpr fun e => ?_)
      have this : beforeB 58 (n ++ BA [58] ++ v) = n := toList_inj e
      exact before_no 58 (n ++ BA [58] ++ v) (by rw [this]; exact hc)
    · refine Ev.cond (r := false) (s := false) (fun _ => Ev.neg h0 (Ev.now _)) (fun _ => Ev.now _) |>.to (by simp)
  · have hno : ∀ x ∈ bytesOf n, x ≠ ((58 : UInt8).toNat : Int) := by
      intro x hx e
      obtain ⟨b, hb, hbx⟩ := List.mem_map.mp hx
      have : b = 58 := by
        have : (b.toNat : Int) = ((58 : UInt8).toNat : Int) := by rw [hbx, e]
        exact UInt8.toNat_inj.mp (by omega)
      rw [this] at hb; exact hc hb
    obtain ⟨c1, _⟩ := cut_app 58 n v hno
    obtain ⟨c3, c4⟩ := cut_after 58 n v hno
    have e1 : nameF (n ++ BA [58] ++ v) false = n := by unfold nameF; rw [if_neg (by simp), c1]
    have e2 : valueF (n ++ BA [58] ++ v) = Trim.trimB Trim.blankB v := by unfold valueF; rw [c3]
    have hG : parseG (n ++ BA [58] ++ v) false false false false false = if n.size = 0 then outF false else if (allB n [1] && allB (Trim.trimB Trim.blankB v) [6]) = true then (n, Trim.trimB Trim.blankB v, true, 0) else outF false := by
      unfold parseG; rw [e1, e2, if_pos c4, Bool.false_or, Bool.false_or]
    rw [hG]
    unfold rightF
    by_cases h0 : n.size = 0
    · rw [if_pos h0, decide_eq_false (by omega)]
      exact Ev.neg (by simp [outF]) (Ev.now _)
    rw [if_neg h0, decide_eq_true (show 0 < n.size by omega), Bool.true_and]
    cases h1 : allB n [1] with
    | false => exact Ev.neg (by simp [outF]) ((Ev.now _).to (by simp))
    | true =>
      rw [Bool.true_and, Bool.true_and]
      by_cases ht : Trim.trimB Trim.blankB v = v
      · rw [ht]
        cases h2 : allB v [6] with
        | false => exact Ev.neg (by simp [outF]) ((Ev.now _).to (by simp))
        | true => exact Ev.pos rfl (Ev.pos rfl ((Ev.now _).to (by simp)))
      · have hne : ((Trim.trimB Trim.blankB v).toList == v.toList) = false := Bool.eq_false_iff.mpr fun e => ht (toList_inj e)
        rw [hne, Bool.and_false]
        cases h2 : allB (Trim.trimB Trim.blankB v) [6] with
        | false => exact Ev.neg (by simp [outF]) (Ev.now _)
        | true => exact Ev.pos rfl (Ev.pos rfl ((Ev.now _).to (by show (_ && ((Trim.trimB Trim.blankB v).toList == v.toList)) = false; rw [hne, Bool.and_false])))
theorem line_cut (n v : ByteArray) : (lineB ⟨n, v⟩).extract 0 ((lineB ⟨n, v⟩).size - 2) = n ++ BA [58] ++ ((⟨#[32]⟩ : ByteArray) ++ v) := by
  apply ba_inj
  rw [ext_data, List.drop_zero, Nat.sub_zero]
  have e : (lineB ⟨n, v⟩).data.toList = (n ++ BA [58] ++ ((⟨#[32]⟩ : ByteArray) ++ v)).data.toList ++ [13, 10] := by
    unfold lineB
    rw [data_app, data_app, data_app, data_app, data_app, data_app, data_BA]
    simp
  have hs : (lineB ⟨n, v⟩).size = (n ++ BA [58] ++ ((⟨#[32]⟩ : ByteArray) ++ v)).data.toList.length + 2 := by
    rw [← data_length (lineB ⟨n, v⟩), e, List.length_append]; rfl
  rw [e, hs, Nat.add_sub_cancel, List.take_left']
  rfl

/-- a field that may be written -/
def Good (f : S25) : Prop := 0 < f.f0.size ∧ f.f0.size ≤ 10 ∧ allB f.f0 [1] = true ∧ f.f1.size ≤ 60 ∧ allB f.f1 [6] = true ∧ Trim.trimB Trim.blankB f.f1 = f.f1
theorem kinds13 : ∀ n : Fin 256, (ofB (n.val : Int) 1 = true ∨ ofB (n.val : Int) 6 = true) → (n.val : Int) ≠ 13 := by decide +kernel
theorem not13 {s : ByteArray} {k : Int} (hk : k = 1 ∨ k = 6) (h : allB s [k] = true) : ∀ x ∈ bytesOf s, x ≠ 13 := by
  intro x hx
  have h1 := allB_mem h hx
  have h2 := bytes_lt s hx
  refine byte_all (p := fun x => (ofB x 1 = true ∨ ofB x 6 = true) → x ≠ 13) kinds13 h2.1 h2.2 ?_
  rcases hk with rfl | rfl
  · exact .inl h1
  · exact .inr h1
theorem bytes_app (s t : ByteArray) : bytesOf (s ++ t) = bytesOf s ++ bytesOf t := by unfold bytesOf; rw [data_app, List.map_append]
/-- a line, but for its end -/
def headB (f : S25) : ByteArray := (f.f0 ++ (⟨#[58, 32]⟩ : ByteArray)) ++ f.f1
theorem line_head (f : S25) : lineB f = headB f ++ (⟨#[13, 10]⟩ : ByteArray) := rfl
theorem head_size (f : S25) : (headB f).size = f.f0.size + 2 + f.f1.size := by unfold headB; rw [ByteArray.size_append, ByteArray.size_append]; rfl
theorem head13 {f : S25} (h : Good f) : ∀ x ∈ bytesOf (headB f), x ≠ 13 := by
  intro x hx
  unfold headB at hx
  rw [bytes_app, bytes_app] at hx
  rcases List.mem_append.mp hx with h1 | h1
  · rcases List.mem_append.mp h1 with h2 | h2
    · exact not13 (.inl rfl) h.2.2.1 x h2
    · rw [show bytesOf (⟨#[58, 32]⟩ : ByteArray) = [58, 32] from by decide +kernel] at h2
      simp at h2
      omega
  · exact not13 (.inr rfl) h.2.2.2.2.1 x h1
theorem bt_l (s t : ByteArray) (i : Nat) (h : i < s.size) : bt (s ++ t) (i : Int) = bt s (i : Int) := by
  rw [← rd_bytesOf, ← rd_bytesOf, bytes_app, rd_nat, rd_nat, List.getD_eq_getElem?_getD, List.getD_eq_getElem?_getD, List.getElem?_append_left (by rw [bytesOf_length]; exact h)]
theorem bt_r (s t : ByteArray) (i : Nat) : bt (s ++ t) ((s.size + i : Nat) : Int) = bt t (i : Int) := by
  rw [← rd_bytesOf, ← rd_bytesOf, bytes_app, rd_nat, rd_nat, List.getD_eq_getElem?_getD, List.getD_eq_getElem?_getD, List.getElem?_append_right (by rw [bytesOf_length]; omega), bytesOf_length, show s.size + i - s.size = i by omega]
theorem bt_mem (s : ByteArray) (i : Nat) (h : i < s.size) : bt s (i : Int) ∈ bytesOf s := by
  rw [← rd_bytesOf, rd_nat, List.getD_eq_getElem?_getD, List.getElem?_eq_getElem (by rw [bytesOf_length]; exact h)]; exact List.getElem_mem _
theorem app_assoc (a b c : ByteArray) : a ++ b ++ c = a ++ (b ++ c) := ba_inj (by rw [data_app, data_app, data_app, data_app, List.append_assoc])
theorem app_nil (a : ByteArray) : (⟨#[]⟩ : ByteArray) ++ a = a := ba_inj (by rw [data_app]; rfl)
theorem put_acc (l : List S25) : ∀ a : ByteArray, l.foldl (fun a f => a ++ lineB f) a = a ++ putB l := by
  induction l with
  | nil => intro a; exact (ba_inj (by rw [data_app]; show _ = a.data.toList ++ []; rw [List.append_nil]; rfl))
  | cons x l ih =>
    intro a
    have e : putB (x :: l) = lineB x ++ putB l := by unfold putB; rw [List.foldl_cons, ih, app_nil]; rfl
    rw [List.foldl_cons, ih, e, app_assoc]
theorem put_app (l m : List S25) : putB (l ++ m) = putB l ++ putB m := by
  show (l ++ m).foldl _ _ = _
  rw [List.foldl_append, put_acc m]; rfl
theorem put_cons (x : S25) (l : List S25) : putB (x :: l) = lineB x ++ putB l := put_app [x] l |>.trans (by rw [put_one])
theorem line_size (f : S25) : (lineB f).size = (headB f).size + 2 := by rw [line_head, ByteArray.size_append]; rfl

/-- what stands at the k-th line -/
structure At (fs : List S25) (n : Nat) (f : S25) : Prop where
  val : rd_T25 fs (n : Int) = f
  good : Good f
  whole : putB fs = putB (fs.take n) ++ (lineB f ++ putB (fs.drop (n + 1)))
  next : (putB (fs.take (n + 1))).size = (putB (fs.take n)).size + (lineB f).size
theorem at_of (fs : List S25) (hg : ∀ f ∈ fs, Good f) (n : Nat) (h : n < fs.length) : At fs n (rd_T25 fs (n : Int)) := by
  have e := drop_rdT fs n h
  refine ⟨rfl, hg _ (rdT_mem fs n h), ?_, ?_⟩
  · conv => lhs; rw [← List.take_append_drop n fs, put_app, e, put_cons]
  · have e2 : fs.take (n + 1) = fs.take n ++ [rd_T25 fs (n : Int)] := by
      unfold rd_T25
      rw [List.take_succ_eq_append_getElem h]; simp [List.getD_eq_getElem?_getD, h]
    rw [e2, put_app, ByteArray.size_append, put_one]

theorem puts_match (fs : List S25) (hl : fs.length ≤ 10) (n p : Nat) (f : S25) (ha : At fs n f) (hn : n < fs.length) (hp : p = (putB (fs.take n)).size) (hz : (putB fs).size ≤ 100000) (i : Nat) (hi : i = p + (headB f).size + 1) {R : Bool}
    (h : Ev (fun k => parallaxlaw9_FieldPuts.l1 k fs (putB fs) ((n + 1 : Nat) : Int) ((i + 1 : Nat) : Int) ((i + 1 : Nat) : Int)) R) :
    Ev (fun k => parallaxlaw9_FieldPuts.l1 k fs (putB fs) (n : Int) (p : Int) (i : Int)) R := by
  obtain ⟨hv, hg, hw, _⟩ := ha
  obtain ⟨g0, g1, g2, g3, g4, g5⟩ := hg
  have hhs := head_size f
  have hws : (putB fs).size = p + ((headB f).size + 2 + (putB (fs.drop (n + 1))).size) := by rw [hw, ByteArray.size_append, ByteArray.size_append, line_size, hp]
  have b13 : bt (putB fs) ((i - 1 : Nat) : Int) = 13 := by
    rw [hw, show i - 1 = (putB (fs.take n)).size + (headB f).size by omega, bt_r, bt_l _ _ _ (by rw [line_size]; omega), line_head, show (headB f).size = (headB f).size + 0 from rfl, bt_r]; rfl
  have b10 : bt (putB fs) (i : Int) = 10 := by
    rw [hw, show i = (putB (fs.take n)).size + ((headB f).size + 1) by omega, bt_r, bt_l _ _ _ (by rw [line_size]; omega), line_head, bt_r]; rfl
  have ew : wrap64 ((i : Int) - 1) = ((i - 1 : Nat) : Int) := by rw [wrap_in (by omega) (by omega)]; omega
  have hx : (putB fs).extract p (i - 1) = f.f0 ++ BA [58] ++ ((⟨#[32]⟩ : ByteArray) ++ f.f1) := by
    have e1 : (lineB f).extract 0 ((lineB f).size - 2) = f.f0 ++ BA [58] ++ ((⟨#[32]⟩ : ByteArray) ++ f.f1) := line_cut f.f0 f.f1
    rw [← e1]
    apply ba_inj
    rw [ext_data, ext_data, hw, data_app, data_app, List.drop_append_of_le_length (by rw [data_length]; omega), List.drop_of_length_le (by rw [data_length]; omega), List.nil_append, List.take_append_of_le_length (by rw [data_length, line_size]; omega), List.drop_zero, line_size]
    congr 1; omega
  refine Ev.step (fun _ => parallaxlaw9_FieldPuts.l1.eq_2 ..) (Ev.pos (by omega) ?_)
  rw [ew]
  refine Ev.pos (by omega) (Ev.pos (by omega) (Ev.pos b13 (Ev.pos (by omega) ?_)))
  rw [b10]
  refine Ev.step (fun _ => parallaxlaw9_FieldPuts.j5.eq_2 ..) (Ev.neg (by decide) ?_)
  rw [ew]
  refine Ev.pos (by omega) (Ev.pos (by omega) (Ev.pos (by omega) ?_))
  rw [Int.toNat_natCast, Int.toNat_natCast, hx]
  have hr := fparse_ev (f.f0 ++ BA [58] ++ ((⟨#[32]⟩ : ByteArray) ++ f.f1)) (by rw [ByteArray.size_append, ByteArray.size_append, ByteArray.size_append]; show _ + 1 + (1 + _) < _; omega) 0 (by decide)
  rw [parse_made _ _ g0 g2 (by rw [trimB_sp, g5]; exact g4), trimB_sp, g5] at hr
  refine Ev.bind hr (Ev.pos rfl (Ev.pos rfl (Ev.neg (by omega) (Ev.pos (by omega) (Ev.pos (by omega) ?_)))))
  rw [hv]
  refine Ev.step (fun _ => parallaxlaw9_FieldPuts.j6.eq_2 ..) (Ev.neg (by simp) ?_)
  refine Ev.step (fun _ => parallaxlaw9_FieldPuts.j7.eq_2 ..) ?_
  rw [wrap_nat (by omega), wrap_nat (by omega)]
  exact h
theorem puts_skip (fs : List S25) (s : ByteArray) (hz : s.size ≤ 100000) (n p i : Nat) (h0 : 1 ≤ i) (hi : i < s.size) (hb : bt s ((i - 1 : Nat) : Int) ≠ 13) {R : Bool}
    (h : Ev (fun k => parallaxlaw9_FieldPuts.l1 k fs s (n : Int) (p : Int) ((i + 1 : Nat) : Int)) R) : Ev (fun k => parallaxlaw9_FieldPuts.l1 k fs s (n : Int) (p : Int) (i : Int)) R := by
  have ew : wrap64 ((i : Int) - 1) = ((i - 1 : Nat) : Int) := by rw [wrap_in (by omega) (by omega)]; omega
  refine Ev.step (fun _ => parallaxlaw9_FieldPuts.l1.eq_2 ..) (Ev.pos (by omega) ?_)
  rw [ew]
  refine Ev.pos (by omega) (Ev.pos (by omega) (Ev.neg hb ?_))
  refine Ev.step (fun _ => parallaxlaw9_FieldPuts.j5.eq_2 ..) (Ev.pos rfl ?_)
  refine Ev.step (fun _ => parallaxlaw9_FieldPuts.j7.eq_2 ..) ?_
  rw [wrap_nat (by omega)]
  exact h
theorem puts_line (fs : List S25) (hl : fs.length ≤ 10) (n p : Nat) (f : S25) (ha : At fs n f) (hn : n < fs.length) (hp : p = (putB (fs.take n)).size) (hz : (putB fs).size ≤ 100000) {R : Bool}
    (h : Ev (fun k => parallaxlaw9_FieldPuts.l1 k fs (putB fs) ((n + 1 : Nat) : Int) ((p + (headB f).size + 2 : Nat) : Int) ((p + (headB f).size + 2 : Nat) : Int)) R) (d : Nat) :
    ∀ i : Nat, i + d = p + (headB f).size + 1 → p < i → Ev (fun k => parallaxlaw9_FieldPuts.l1 k fs (putB fs) (n : Int) (p : Int) (i : Int)) R := by
  have hws : (putB fs).size = p + ((headB f).size + 2 + (putB (fs.drop (n + 1))).size) := by rw [ha.whole, ByteArray.size_append, ByteArray.size_append, line_size, hp]
  induction d with
  | zero =>
    intro i hi _
    refine puts_match fs hl n p f ha hn hp hz i (by omega) ?_
    rw [show i + 1 = p + (headB f).size + 2 by omega]; exact h
  | succ d ih =>
    intro i hi hpi
    refine puts_skip fs (putB fs) hz n p i (by omega) (by omega) ?_ (ih (i + 1) (by omega) (by omega))
    rw [ha.whole, show i - 1 = (putB (fs.take n)).size + (i - 1 - p) by omega, bt_r, bt_l _ _ _ (by rw [line_size]; omega), line_head, bt_l _ _ _ (by omega)]
    exact head13 ha.good _ (bt_mem _ _ (by omega))
theorem puts_loop (fs : List S25) (hl : fs.length ≤ 10) (hg : ∀ f ∈ fs, Good f) (hz : (putB fs).size ≤ 100000) (d : Nat) : ∀ (n i : Nat), n + d = fs.length → 1 ≤ i → (i = (putB (fs.take n)).size ∧ bt (putB fs) ((i - 1 : Nat) : Int) ≠ 13 ∨ i = (putB (fs.take n)).size + 1) →
    Ev (fun k => parallaxlaw9_FieldPuts.l1 k fs (putB fs) (n : Int) (((putB (fs.take n)).size : Nat) : Int) (i : Int)) true := by
  induction d with
  | zero =>
    intro n i hn h1 hi
    have e : fs.take n = fs := List.take_of_length_le (by omega)
    rw [e] at hi ⊢
    refine Ev.step (fun _ => parallaxlaw9_FieldPuts.l1.eq_2 ..) (Ev.neg (by omega) (Ev.pos (by omega) ((Ev.now _).to ?_)))
    simp
  | succ d ih =>
    intro n i hn h1 hi
    have ha := at_of fs hg n (by omega)
    generalize rd_T25 fs (n : Int) = f at ha
    have hws : (putB fs).size = (putB (fs.take n)).size + ((headB f).size + 2 + (putB (fs.drop (n + 1))).size) := by rw [ha.whole, ByteArray.size_append, ByteArray.size_append, line_size]
    have hhs := head_size f
    have g0 := ha.good.1
    have hnx := ha.next
    rw [line_size] at hnx
    have b10 : bt (putB fs) (((putB (fs.take n)).size + (headB f).size + 1 : Nat) : Int) = 10 := by
      rw [ha.whole, show (putB (fs.take n)).size + (headB f).size + 1 = (putB (fs.take n)).size + ((headB f).size + 1) by omega, bt_r, bt_l _ _ _ (by rw [line_size]; omega), line_head, bt_r]; rfl
    have nx := ih (n + 1) ((putB (fs.take n)).size + (headB f).size + 2) (by omega) (by omega) (.inl ⟨by omega, by rw [show (putB (fs.take n)).size + (headB f).size + 2 - 1 = (putB (fs.take n)).size + (headB f).size + 1 by omega, b10]; decide⟩)
    rw [show (putB (fs.take (n + 1))).size = (putB (fs.take n)).size + (headB f).size + 2 by omega] at nx
    have line := puts_line fs hl n _ f ha (by omega) rfl hz nx
    rcases hi with ⟨e, hb⟩ | e
    · exact puts_skip fs (putB fs) hz n _ i h1 (by omega) hb (line ((putB (fs.take n)).size + (headB f).size + 1 - (i + 1)) (i + 1) (by omega) (by omega))
    · exact line ((putB (fs.take n)).size + (headB f).size + 1 - i) i (by omega) (by omega)
theorem puts_size (fs : List S25) (hg : ∀ f ∈ fs, Good f) (k : Nat) : (putB (fs.take k)).size ≤ 80 * k := by
  induction k with
  | zero => rw [List.take_zero]; decide
  | succ k ih =>
    by_cases h : k < fs.length
    · have ha := at_of fs hg k h
      have := ha.next
      have h2 := ha.good
      rw [line_size, head_size] at this
      have := h2.2.1; have := h2.2.2.2.1
      omega
    · rw [List.take_of_length_le (by omega)] at ih ⊢; omega
theorem puts_end (fs : List S25) (hl : fs.length ≤ 10) (hg : ∀ f ∈ fs, Good f) : Ev (fun k => parallaxlaw9_FieldPuts.l1 k fs (putB fs) 0 0 1) true := by
  have hz := puts_size fs hg fs.length
  rw [List.take_length] at hz
  exact puts_loop fs hl hg (by omega) fs.length 0 1 (by omega) (by omega) (.inr rfl)
def namesP : List ByteArray := [(⟨#[65]⟩ : ByteArray), (⟨#[72, 111, 115, 116]⟩ : ByteArray), (⟨#[120, 45, 121]⟩ : ByteArray), (⟨#[33, 126]⟩ : ByteArray)]
def valuesP : List ByteArray := [(⟨#[]⟩ : ByteArray), (⟨#[98]⟩ : ByteArray), (⟨#[99, 32, 100]⟩ : ByteArray), (⟨#[195, 169, 58, 44]⟩ : ByteArray)]
theorem names_good : ∀ n : Fin 4, 0 < (rdOf ByteArray.empty namesP (n.val : Int)).size ∧ (rdOf ByteArray.empty namesP (n.val : Int)).size ≤ 10 ∧ allB (rdOf ByteArray.empty namesP (n.val : Int)) [1] = true := by decide +kernel
theorem values_good : ∀ n : Fin 4, (rdOf ByteArray.empty valuesP (n.val : Int)).size ≤ 60 ∧ allB (rdOf ByteArray.empty valuesP (n.val : Int)) [6] = true ∧ Trim.trimB Trim.blankB (rdOf ByteArray.empty valuesP (n.val : Int)) = rdOf ByteArray.empty valuesP (n.val : Int) := by decide +kernel
theorem rdS_mem (l : List S51) (j : Nat) (h : j < l.length) : rd_T51 l (j : Int) ∈ l := by
  unfold rd_T51; simp [List.getD_eq_getElem?_getD, h]
theorem puts_l0 (l0 : List S51) (h0 : l0.length ≤ 10) (hw : ∀ x ∈ l0, (0 ≤ x.f0 ∧ x.f0 < 256) ∧ 0 ≤ x.f1 ∧ x.f1 < 256) (l1 : List ByteArray) (d : Nat) : ∀ (i : Nat) (fs : List S25), i + d = l0.length → fs.length = i → (∀ f ∈ fs, Good f) →
    Ev (fun k => parallaxlaw9_FieldPuts.l0 k l0 l1 fs (i : Int)) true := by
  induction d with
  | zero =>
    intro i fs hi hf hg
    refine Ev.step (fun _ => parallaxlaw9_FieldPuts.l0.eq_2 ..) (Ev.neg (by omega) ?_)
    refine Ev.val (fput_some fs (by omega) (fun x hx => ?_)) (puts_end fs (by omega) hg)
    have := hg x hx
    exact ⟨by have := this.2.1; omega, by have := this.2.2.2.1; omega⟩
  | succ d ih =>
    intro i fs hi hf hg
    have hx := hw _ (rdS_mem l0 i (by omega))
    obtain ⟨⟨p0, p1⟩, p2, p3⟩ := hx
    have e0 : Int.tmod ((rd_T51 l0 (i : Int)).f0) 4 = (((rd_T51 l0 (i : Int)).f0.toNat % 4 : Nat) : Int) := by rw [Int.tmod_eq_emod_of_nonneg p0]; omega
    have e1 : Int.tmod ((rd_T51 l0 (i : Int)).f1) 4 = (((rd_T51 l0 (i : Int)).f1.toNat % 4 : Nat) : Int) := by rw [Int.tmod_eq_emod_of_nonneg p2]; omega
    have m0 : (rd_T51 l0 (i : Int)).f0.toNat % 4 < 4 := Nat.mod_lt _ (by decide)
    have m1 : (rd_T51 l0 (i : Int)).f1.toNat % 4 < 4 := Nat.mod_lt _ (by decide)
    refine Ev.step (fun _ => parallaxlaw9_FieldPuts.l0.eq_2 ..) (Ev.pos (by omega) (Ev.val rfl (Ev.pos (by omega) ?_)))
    rw [e0, e1]
    generalize (rd_T51 l0 (i : Int)).f0.toNat % 4 = c0 at m0
    generalize (rd_T51 l0 (i : Int)).f1.toNat % 4 = c1 at m1
    have n0 := names_good ⟨c0, m0⟩
    have v0 := values_good ⟨c1, m1⟩
    simp only at n0 v0
    refine Ev.pos (by omega) (Ev.pos (by simp; omega) (Ev.val rfl (Ev.pos (by omega) (Ev.pos (by simp; omega) ?_))))
    have j3 : ∀ v : ByteArray, v.size ≤ 60 → allB v [6] = true → Trim.trimB Trim.blankB v = v → Ev (fun k => parallaxlaw9_FieldPuts.j3 k l0 l1 fs (i : Int) (rdOf ByteArray.empty namesP (c0 : Int)) v) true := by
      intro v q0 q1 q2
      refine Ev.step (fun _ => parallaxlaw9_FieldPuts.j3.eq_2 ..) (Ev.pos (by omega) ?_)
      rw [wrap_nat (by omega)]
      refine ih (i + 1) _ (by omega) (by simp; omega) (fun f hfm => ?_)
      rcases List.mem_append.mp hfm with h | h
      · exact hg f h
      · rw [List.mem_singleton.mp h]; exact ⟨n0.1, n0.2.1, n0.2.2, q0, q1, q2⟩
    have j2f : Ev (fun k => parallaxlaw9_FieldPuts.j2 k l0 l1 fs (i : Int) false (rdOf ByteArray.empty namesP (c0 : Int)) (rdOf ByteArray.empty valuesP (c1 : Int))) true :=
      Ev.step (fun _ => parallaxlaw9_FieldPuts.j2.eq_2 ..) (Ev.neg (by decide) (j3 _ v0.1 v0.2.1 v0.2.2))
    by_cases c2 : (i : Int) < (l1.length : Int)
    · refine Ev.pos c2 ?_
      by_cases c3 : ((rdOf ByteArray.empty l1 (i : Int)).size : Int) < 40
      · refine Ev.pos c3 (Ev.bind (fright_eq _ _ (by show 1 + _ < _; omega)) ?_)
        cases hr : rightF (⟨#[65]⟩ : ByteArray) (rdOf ByteArray.empty l1 (i : Int)) with
        | false => exact j2f
        | true =>
          unfold rightF at hr
          rw [Bool.and_eq_true, Bool.and_eq_true, Bool.and_eq_true] at hr
          exact Ev.step (fun _ => parallaxlaw9_FieldPuts.j2.eq_2 ..) (Ev.pos rfl (Ev.pos (by omega) (Ev.pos c2 (j3 _ (by omega) hr.2.2.1 (toList_inj hr.2.2.2)))))
      · exact Ev.neg c3 j2f
    · exact Ev.neg c2 j2f
theorem FieldPuts : parallaxlaw9_FieldPuts.Pure := by
  intro l0 l1 h0 _
  refine Ev.rounds (g := fun k => parallaxlaw9_FieldPuts.f k l0 l1) ?_
  unfold parallaxlaw9_FieldPuts.f
  have far : ∀ b : Bool, b = true → Ev (fun k => parallaxlaw9_FieldPuts.j0 k l0 l1 b) true := fun b hb => Ev.step (fun _ => parallaxlaw9_FieldPuts.j0.eq_2 ..) (Ev.pos hb (Ev.now _))
  refine Ev.bind known_ev (Ev.pos rfl ?_)
  by_cases c0 : (l0.length : Int) > 10
  · exact Ev.pos c0 (far _ rfl)
  refine Ev.neg c0 ?_
  by_cases c1 : (l1.length : Int) > 10
  · exact far _ (decide_eq_true c1)
  refine Ev.step (fun _ => parallaxlaw9_FieldPuts.j0.eq_2 ..) (Ev.neg (by rw [decide_eq_true_eq]; exact c1) ?_)
  exact puts_l0 l0 (by omega) (fun x hx => ⟨u8_wf (h0.2 x hx).1, u8_wf (h0.2 x hx).2⟩) l1 l0.length 0 [] (by omega) rfl (fun f hf => by cases hf)
end Go.Proofs.YtijcibdpcolfpaaDoor.Pure
