/- What the printed functions of the text layer come to. -/
import Derived.Test.YtijcibdpcolfpaaDoorPFieldTellsx
import Derived.Test.YtijcibdpcolfpaaDoorParts
import Derived.Test.YtijcibdpcolfpaaDoorLowP
import Derived.Test.YtijcibdpcolfpaaDoorTrimP
import Derived.Test.YtijcibdpcolfpaaDoorHex
namespace Go.Proofs.YtijcibdpcolfpaaDoor.PFieldTells
open Go.RowKit Go.Proofs.YtijcibdpcolfpaaDoorW.PrintWords Go.Proofs.YtijcibdpcolfpaaDoorW.PrintLast Go.Proofs.YtijcibdpcolfpaaDoorW.PrintMore Go.Proofs.YtijcibdpcolfpaaDoor.Aid Go.Proofs.YtijcibdpcolfpaaDoor.Parts
set_option linter.unusedVariables false
set_option linter.unusedSimpArgs false

theorem rdOf_mem (l : List ByteArray) (j : Nat) (h : j < l.length) : rdOf ByteArray.empty l (j : Int) ∈ l := by
  unfold rdOf; simp [List.getD_eq_getElem?_getD, h]
theorem trim_some {s : ByteArray} (h : s.size ≤ 9223372036854775807) : text_Trim.f s = some (Trim.trimB Trim.blankB s) := by unfold text_Trim.f; rw [if_pos h]
theorem rin_loop (t : ByteArray) (c : Int) (ht : t.size < 9223372036854775807) (d : Nat) : ∀ i : Nat, i + d = t.size → Ev (fun k => parallaxref1_in.l0 k c t (i : Int)) (((bytesOf t).drop i).any fun b => b == c) := by
  induction d with
  | zero =>
    intro i hi
    refine Ev.step (fun _ => parallaxref1_in.l0.eq_2 ..) (Ev.neg (by omega) ((Ev.now _).to ?_))
    rw [List.drop_of_length_le (by rw [bytesOf_length]; omega)]; rfl
  | succ d ih =>
    intro i hi
    have h9 : i < 9223372036854775807 := by omega
    rw [drop_bytes t i (by omega), List.any_cons]
    refine Ev.step (fun _ => parallaxref1_in.l0.eq_2 ..) (Ev.pos (by omega) (Ev.pos (by omega) ?_))
    by_cases h : bt t (i : Int) = c
    · exact Ev.pos h ((Ev.now _).to (by simp [h]))
    · refine Ev.neg h ?_
      rw [wrap_nat h9]
      exact (ih (i + 1) (by omega)).to (by simp [h])
theorem inB_any (t : ByteArray) (c : Int) (hc : 0 ≤ c ∧ c < 256) : Trim.inB t c = (bytesOf t).any fun b => b == c := by
  unfold Trim.inB
  rw [Bool.eq_iff_iff, decide_eq_true_eq, index_nil_iff, List.any_eq_true]
  unfold bytesOf
  constructor
  · intro h
    refine ⟨c, List.mem_map.mpr ⟨_, h, ?_⟩, by simp⟩
    rw [show c.toNat.toUInt8 = UInt8.ofNat c.toNat from rfl, UInt8.toNat_ofNat_of_lt' (by show c.toNat < 256; omega)]; omega
  · rintro ⟨x, hx, he⟩
    obtain ⟨b, hb, rfl⟩ := List.mem_map.mp hx
    have : (b.toNat : Int) = c := by simpa using he
    have e : c.toNat.toUInt8 = b := by rw [← this]; simp
    rw [e]; exact hb
theorem rin_ev (t : ByteArray) (c : Int) (hc : 0 ≤ c ∧ c < 256) (ht : t.size < 9223372036854775807) : Ev (fun k => parallaxref1_in.f k c t) (Trim.inB t c) := by
  unfold parallaxref1_in.f
  exact (rin_loop t c ht t.size 0 (by omega)).to (by rw [List.drop_zero, inB_any t c hc])
theorem rtrim_l1 (t : ByteArray) (ht : t.size < 9223372036854775807) (n : Nat) : ∀ s : ByteArray, s.size = n → s.size < 9223372036854775807 → Ev (fun k => parallaxref1_TrimOf.l1 k s t) (Trim.trimR (Trim.inB t) s) := by
  induction n with
  | zero =>
    intro s hs _
    have e : s = ByteArray.empty := ByteArray.size_eq_zero_iff.mp hs
    refine Ev.step (fun _ => parallaxref1_TrimOf.l1.eq_2 ..) (Ev.pos (by rw [e, ByteArray.toList_eq]; rfl) ((Ev.now _).to ?_))
    apply ba_inj; rw [TrimP.trimR_data, e]; rfl
  | succ n ih =>
    intro s hs hb
    have hne : ¬ s.toList = [] := by rw [ByteArray.toList_eq]; intro h; have := data_length s; rw [h] at this; simp at this; omega
    have hw : wrap64 ((s.size : Int) - 1) = ((n : Nat) : Int) := by rw [wrap_in (i := (s.size : Int) - 1) (by omega) (by omega)]; omega
    have hn9 : n < s.size := by omega
    have hbt := bt_lt s (n : Int)
    obtain ⟨b, hb1, hb2⟩ : ∃ b : UInt8, s.data.toList = s.data.toList.take n ++ [b] ∧ bt s (n : Int) = (b.toNat : Int) := by
      have hl : n < s.data.toList.length := by rw [data_length]; exact hn9
      refine ⟨s.data.toList[n], ?_, ?_⟩
      · rw [← List.take_succ_eq_append_getElem hl, List.take_of_length_le (by rw [data_length]; omega)]
      · rw [bt_nat s n hn9]; rfl
    refine Ev.step (fun _ => parallaxref1_TrimOf.l1.eq_2 ..) (Ev.neg hne ?_)
    rw [hw]
    refine Ev.pos (by omega) (Ev.pos (by omega) (Ev.bind (rin_ev t _ hbt ht) ?_))
    have hrd : s.data.toList.reverse.dropWhile (TrimP.asU (Trim.inB t)) = if Trim.inB t (bt s (n : Int)) = true then (s.data.toList.take n).reverse.dropWhile (TrimP.asU (Trim.inB t)) else s.data.toList.reverse := by
      conv => lhs; rw [hb1]
      rw [List.reverse_append, List.reverse_singleton, List.singleton_append, List.dropWhile_cons]
      have e : TrimP.asU (Trim.inB t) b = Trim.inB t (bt s (n : Int)) := by unfold TrimP.asU; rw [hb2]
      rw [e]
      by_cases h : Trim.inB t (bt s (n : Int)) = true
      · rw [if_pos h, if_pos h]
      · rw [if_neg h, if_neg h]
        conv => rhs; rw [hb1]
        rw [List.reverse_append, List.reverse_singleton, List.singleton_append]
    by_cases h : Trim.inB t (bt s (n : Int)) = true
    · refine Ev.pos h (Ev.pos (by omega) ?_)
      rw [Int.toNat_natCast]
      refine (ih (s.extract 0 n) (by rw [Trim.ext_size _ _ _ (by omega)]; omega) (by rw [Trim.ext_size _ _ _ (by omega)]; omega)).to ?_
      apply ba_inj
      rw [TrimP.trimR_data, TrimP.trimR_data, hrd, if_pos h, ext_data, List.drop_zero, Nat.sub_zero]
    · refine Ev.neg h ((Ev.now _).to ?_)
      apply ba_inj
      rw [TrimP.trimR_data, hrd, if_neg h, List.reverse_reverse]
theorem rtrim_l0 (t : ByteArray) (ht : t.size < 9223372036854775807) (n : Nat) : ∀ s : ByteArray, s.size = n → s.size < 9223372036854775807 → Ev (fun k => parallaxref1_TrimOf.l0 k s t) (Trim.trimB (Trim.inB t) s) := by
  induction n with
  | zero =>
    intro s hs hb
    have e : s = ByteArray.empty := ByteArray.size_eq_zero_iff.mp hs
    refine Ev.step (fun _ => parallaxref1_TrimOf.l0.eq_2 ..) (Ev.pos (by rw [e, ByteArray.toList_eq]; rfl) (Ev.step (fun _ => parallaxref1_TrimOf.j1.eq_2 ..) ?_))
    refine (rtrim_l1 t ht 0 s hs hb).to ?_
    apply ba_inj; unfold Trim.trimB; rw [TrimP.trimR_data, TrimP.trimR_data, TrimP.trimL_data, e]; rfl
  | succ n ih =>
    intro s hs hb
    have hne : ¬ s.toList = [] := by rw [ByteArray.toList_eq]; intro h; have := data_length s; rw [h] at this; simp at this; omega
    have hbt := bt_lt s (((0 : Nat) : Int))
    have h0 : (0 : Nat) < s.size := by omega
    obtain ⟨b, l, hb1, hb2⟩ : ∃ (b : UInt8) (l : List UInt8), s.data.toList = b :: l ∧ bt s ((0 : Nat) : Int) = (b.toNat : Int) := by
      cases hd : s.data.toList with
      | nil => have := data_length s; rw [hd] at this; simp at this; omega
      | cons b l =>
        refine ⟨b, l, rfl, ?_⟩
        rw [bt_nat s 0 h0]
        have : s[0] = s.data.toList[0]'(by rw [data_length]; exact h0) := rfl
        rw [this]; simp [hd]
    have e : TrimP.asU (Trim.inB t) b = Trim.inB t (bt s ((0 : Nat) : Int)) := by unfold TrimP.asU; rw [hb2]
    have hx : (s.extract 1 s.size).data.toList = l := by rw [ext_data, hb1]; simp; rw [List.take_of_length_le]; have := data_length s; rw [hb1] at this; simp at this; omega
    refine Ev.step (fun _ => parallaxref1_TrimOf.l0.eq_2 ..) (Ev.neg hne (Ev.pos (by omega) (Ev.bind (rin_ev t _ hbt ht) ?_)))
    by_cases h : Trim.inB t (bt s ((0 : Nat) : Int)) = true
    · refine Ev.pos h (Ev.pos (by omega) ?_)
      refine (ih (s.extract 1 s.size) (by rw [Trim.ext_size _ _ _ (Nat.le_refl _)]; omega) (by rw [Trim.ext_size _ _ _ (Nat.le_refl _)]; omega)).to ?_
      rw [TrimP.trimB_eq, TrimP.trimB_eq, hx, hb1]
      congr 1
      unfold TrimP.trimU
      rw [List.dropWhile_cons, if_pos (by rw [e]; exact h)]
    · refine Ev.neg h (Ev.step (fun _ => parallaxref1_TrimOf.j1.eq_2 ..) ?_)
      refine (rtrim_l1 t ht (n + 1) s hs hb).to ?_
      apply ba_inj; unfold Trim.trimB
      rw [TrimP.trimR_data, TrimP.trimR_data, TrimP.trimL_data, hb1, List.dropWhile_cons, if_neg (by rw [e]; exact h)]
theorem rtrimOf_ev (s t : ByteArray) (hs : s.size < 9223372036854775807) (ht : t.size < 9223372036854775807) : Ev (fun k => parallaxref1_TrimOf.f k s t) (Trim.trimB (Trim.inB t) s) := by
  unfold parallaxref1_TrimOf.f; exact rtrim_l0 t ht s.size s rfl hs
theorem blank_in : Trim.inB (⟨#[32, 9]⟩ : ByteArray) = fun c => Trim.inB (⟨#[32, 9]⟩ : ByteArray) c := rfl
theorem blank_eq : ∀ n : Fin 256, Trim.inB (⟨#[32, 9]⟩ : ByteArray) (n.val : Int) = Trim.blankB (n.val : Int) := by decide +kernel
theorem trimB_congr (p q : Int → Bool) (s : ByteArray) (h : ∀ c : Int, 0 ≤ c → c < 256 → p c = q c) : Trim.trimB p s = Trim.trimB q s := by
  have e : TrimP.asU p = TrimP.asU q := by
    funext b; unfold TrimP.asU; have := b.toNat_lt; exact h _ (by omega) (by omega)
  rw [TrimP.trimB_eq, TrimP.trimB_eq, e]
theorem rtrim_ev (s : ByteArray) (hs : s.size < 9223372036854775807) : Ev (fun k => parallaxref1_Trim.f k s) (Trim.trimB Trim.blankB s) := by
  unfold parallaxref1_Trim.f
  refine Ev.bind (rtrimOf_ev s _ hs (by decide)) ((Ev.now _).to ?_)
  exact trimB_congr _ _ s (fun c h0 h1 => byte_all (p := fun c => Trim.inB (⟨#[32, 9]⟩ : ByteArray) c = Trim.blankB c) blank_eq h0 h1)
theorem rdT_mem (l : List S25) (j : Nat) (h : j < l.length) : rd_T25 l (j : Int) ∈ l := by
  unfold rd_T25; simp [List.getD_eq_getElem?_getD, h]
theorem drop_rdT (l : List S25) (i : Nat) (h : i < l.length) : l.drop i = rd_T25 l (i : Int) :: l.drop (i + 1) := by
  unfold rd_T25; rw [List.drop_eq_getElem_cons h]; simp [List.getD_eq_getElem?_getD, h]
/-- are the two fields one and the same -/
def fieldB (a b : S25) : Bool := (a.f0.toList == b.f0.toList) && (a.f1.toList == b.f1.toList)
def fieldsB : List S25 → List S25 → Bool
  | [], [] => true
  | a :: l, b :: m => fieldB a b && fieldsB l m
  | _, _ => false
theorem fieldB_iff (a b : S25) : fieldB a b = true ↔ a = b := by
  unfold fieldB
  rw [Bool.and_eq_true, beq_iff_eq, beq_iff_eq, ByteArray.toList_eq, ByteArray.toList_eq, ByteArray.toList_eq, ByteArray.toList_eq]
  constructor
  · rintro ⟨h1, h2⟩
    cases a; cases b; simp only at h1 h2; rw [ba_inj h1, ba_inj h2]
  · rintro rfl; exact ⟨rfl, rfl⟩
theorem fieldsB_iff (a b : List S25) : fieldsB a b = true ↔ a = b := by
  induction a generalizing b with
  | nil => cases b <;> simp [fieldsB]
  | cons x l ih => cases b with
    | nil => simp [fieldsB]
    | cons y m => simp [fieldsB, fieldB_iff, ih]
theorem fieldsB_len {a b : List S25} (h : a.length ≠ b.length) : fieldsB a b = false := by
  rw [Bool.eq_false_iff]; intro e; exact h (congrArg _ ((fieldsB_iff a b).mp e))
theorem fieldB_cond (a b : S25) : (!((a.f0.toList == b.f0.toList)) || !((a.f1.toList == b.f1.toList))) = !(fieldB a b) := by
  unfold fieldB; rw [Bool.not_and]
theorem hfields_loop (l : List S25) (hn : l.length ≤ 20) (d : Nat) : ∀ i : Nat, i + d = l.length → ∃ b : Bool, Ev (fun k => parallaxhelp_Fields.l0 k l (i : Int)) b := by
  induction d with
  | zero => intro i hi; exact ⟨true, Ev.step (fun _ => parallaxhelp_Fields.l0.eq_2 ..) (Ev.neg (by omega) (Ev.now _))⟩
  | succ d ih =>
    intro i hi
    have h9 : i < 9223372036854775807 := by omega
    obtain ⟨b, hb⟩ := ih (i + 1) (by omega)
    by_cases h : (wrap64 ((((rd_T25 l (i : Int)).f0).size : Int) + (((rd_T25 l (i : Int)).f1).size : Int))) > 120
    · exact ⟨false, Ev.step (fun _ => parallaxhelp_Fields.l0.eq_2 ..) (Ev.pos (by omega) (Ev.pos (by omega) (Ev.pos h (Ev.now _))))⟩
    · refine ⟨b, Ev.step (fun _ => parallaxhelp_Fields.l0.eq_2 ..) (Ev.pos (by omega) (Ev.pos (by omega) (Ev.neg h ?_)))⟩
      rw [wrap_nat h9]; exact hb
theorem hfields_ev (l : List S25) : ∃ b : Bool, Ev (fun k => parallaxhelp_Fields.f k l) b ∧ (b = true → l.length ≤ 20) := by
  unfold parallaxhelp_Fields.f
  by_cases h : (l.length : Int) > 20
  · exact ⟨false, Ev.pos h (Ev.now _), fun e => by cases e⟩
  · obtain ⟨b, hb⟩ := hfields_loop l (by omega) l.length 0 (by omega)
    exact ⟨b, Ev.neg h hb, fun _ => by omega⟩
theorem hfields2_loop (l : List S25) (hn : l.length ≤ 20) (hz : ∀ x ∈ l, x.f0.size ≤ 140737488351232 ∧ x.f1.size ≤ 140737488351232) (d : Nat) : ∀ i : Nat, i + d = l.length → ∃ b : Bool, Ev (fun k => parallaxhelp_Fields.l0 k l (i : Int)) b ∧ (b = true → ∀ x ∈ l.drop i, x.f0.size + x.f1.size ≤ 120) := by
  induction d with
  | zero => intro i hi; exact ⟨true, Ev.step (fun _ => parallaxhelp_Fields.l0.eq_2 ..) (Ev.neg (by omega) (Ev.now _)), fun _ x hx => by rw [List.drop_of_length_le (by omega)] at hx; cases hx⟩
  | succ d ih =>
    intro i hi
    have h9 : i < 9223372036854775807 := by omega
    obtain ⟨b, hb, hp⟩ := ih (i + 1) (by omega)
    obtain ⟨z0, z1⟩ := hz _ (rdT_mem l i (by omega))
    by_cases h : (wrap64 ((((rd_T25 l (i : Int)).f0).size : Int) + (((rd_T25 l (i : Int)).f1).size : Int))) > 120
    · exact ⟨false, Ev.step (fun _ => parallaxhelp_Fields.l0.eq_2 ..) (Ev.pos (by omega) (Ev.pos (by omega) (Ev.pos h (Ev.now _)))), fun e => by cases e⟩
    · refine ⟨b, Ev.step (fun _ => parallaxhelp_Fields.l0.eq_2 ..) (Ev.pos (by omega) (Ev.pos (by omega) (Ev.neg h ?_))), fun e x hx => ?_⟩
      · rw [wrap_nat h9]; exact hb
      · rw [drop_rdT l i (by omega)] at hx
        rcases List.mem_cons.mp hx with rfl | hx
        · rw [wrap_in (i := (((rd_T25 l (i : Int)).f0).size : Int) + (((rd_T25 l (i : Int)).f1).size : Int)) (by omega) (by omega)] at h; omega
        · exact hp e x hx
/-- fields that may be asked: few, and short -/
theorem hfields2_ev (l : List S25) (hz : ∀ x ∈ l, x.f0.size ≤ 140737488351232 ∧ x.f1.size ≤ 140737488351232) : ∃ b : Bool, Ev (fun k => parallaxhelp_Fields.f k l) b ∧ (b = true → l.length ≤ 20 ∧ ∀ x ∈ l, x.f0.size + x.f1.size ≤ 120) := by
  unfold parallaxhelp_Fields.f
  by_cases h : (l.length : Int) > 20
  · exact ⟨false, Ev.pos h (Ev.now _), fun e => by cases e⟩
  · obtain ⟨b, hb, hp⟩ := hfields2_loop l (by omega) hz l.length 0 (by omega)
    exact ⟨b, Ev.neg h hb, fun e => ⟨by omega, by simpa using hp e⟩⟩
/-- is a byte of a kind? -/
def ofB (c kind : Int) : Bool := (octet_of.f c kind).getD false
/-- is each byte of a text of one of some kinds? -/
def allB (s : ByteArray) (l : List Int) : Bool := (bytesOf s).all fun c => l.any (ofB c)


theorem of_k (kind : Fin 8) : ∀ n : Fin 256, octet_of.f (n.val : Int) (kind.val : Int) = some (ofB (n.val : Int) (kind.val : Int)) := by
  revert kind; decide +kernel

theorem of_far {c kind : Int} (h : ¬ (1 ≤ kind ∧ kind ≤ 6)) : octet_of.f c kind = some false := by
  unfold octet_of.f
  rw [if_neg (by omega), if_neg (by omega), if_neg (by omega), if_neg (by omega), if_neg (by omega), if_neg (by omega)]

theorem of_some {c : Int} (h0 : 0 ≤ c) (h1 : c < 256) (kind : Int) : octet_of.f c kind = some (ofB c kind) := by
  by_cases hk : 0 ≤ kind ∧ kind < 8
  · have := byte_all (p := fun c => octet_of.f c kind = some (ofB c kind)) (fun n => by
      have := of_k ⟨kind.toNat, by omega⟩ n
      rwa [show ((⟨kind.toNat, by omega⟩ : Fin 8).val : Int) = kind by simp; omega] at this) h0 h1
    exact this
  · have := of_far (c := c) (kind := kind) (by omega)
    unfold ofB; rw [this]; rfl

/-- one text's byte against the kinds from the j-th on -/
theorem own_in (s : ByteArray) (l : List Int) (hl : l.length < 9223372036854775807) (hs : s.size < 9223372036854775807) (i : Nat) (hi : i < s.size) (R : Bool)
    (hR : Ev (fun k => octet_All.l0 k s l (s.size : Int) ((i + 1 : Nat) : Int)) R) (d : Nat) : ∀ (j : Nat) (b : Bool), j + d = l.length →
    Ev (fun k => octet_All.l1 k s l (i : Int) b (s.size : Int) (i : Int) l (l.length : Int) (j : Int)) (if (b || (l.drop j).any (ofB (bt s (i : Int)))) = true then R else false) := by
  induction d with
  | zero =>
    intro j b hj
    refine Ev.step (fun _ => octet_All.l1.eq_2 ..) (Ev.neg (by omega) ?_)
    rw [List.drop_of_length_le (by omega), List.any_nil, Bool.or_false, wrap_nat (by omega)]
    exact Ev.cond (fun _ => hR) (fun _ => Ev.now _)
  | succ d ih =>
    intro j b hj
    have hw : wrap64 ((j : Int) + 1) = ((j + 1 : Nat) : Int) := wrap_nat (by omega)
    refine Ev.step (fun _ => octet_All.l1.eq_2 ..) (Ev.pos (by omega) (Ev.pos (by omega) (Ev.pos (by omega) ?_)))
    rw [drop_rd l j (by omega), List.any_cons, hw]
    cases b with
    | true => exact Ev.pos rfl ((ih (j + 1) true (by omega)).to (by simp))
    | false =>
      refine Ev.neg (by simp) (Ev.pos (by omega) (Ev.pos (by omega) ?_))
      have := bt_lt s (i : Int)
      exact Ev.val (of_some this.1 this.2 _) ((ih (j + 1) _ (by omega)).to (by rw [Bool.false_or]))

theorem own_out (s : ByteArray) (l : List Int) (hl : l.length < 9223372036854775807) (hs : s.size < 9223372036854775807) (d : Nat) : ∀ (i : Nat), i + d = s.size →
    Ev (fun k => octet_All.l0 k s l (s.size : Int) (i : Int)) (((bytesOf s).drop i).all fun c => l.any (ofB c)) := by
  induction d with
  | zero =>
    intro i hi
    refine Ev.step (fun _ => octet_All.l0.eq_2 ..) (Ev.neg (by omega) ?_)
    rw [List.drop_of_length_le (by rw [bytesOf_length]; omega)]; exact Ev.now _
  | succ d ih =>
    intro i hi
    refine Ev.step (fun _ => octet_All.l0.eq_2 ..) (Ev.pos (by omega) ?_)
    refine (own_in s l hl hs i (by omega) _ (ih (i + 1) (by omega)) l.length 0 false (by omega)).to ?_
    rw [drop_bytes s i (by omega), List.all_cons, List.drop_zero, Bool.false_or]
    cases l.any (ofB (bt s (i : Int))) <;> simp

theorem own_ev (s : ByteArray) (l : List Int) (hl : l.length < 9223372036854775807) (hs : s.size < 9223372036854775807) : Ev (fun k => octet_All.f k s l) (allB s l) :=
  (own_out s l hl hs s.size 0 (by omega)).to (by rw [List.drop_zero]; rfl)

theorem all_app (s t : ByteArray) (l : List Int) : allB (s ++ t) l = (allB s l && allB t l) := by
  unfold allB bytesOf
  rw [show (s ++ t).data.toList = s.data.toList ++ t.data.toList by simp [ByteArray.data_append], List.map_append, List.all_append]
/-- a text put together of pieces, by numbers -/
def someB (p : List ByteArray) (acc : ByteArray) (l : List Int) : ByteArray := l.foldl (fun a x => a ++ p.getD (x.toNat % p.length) ByteArray.empty) acc
theorem someB_size (p : List ByteArray) (m : Nat) (hm : ∀ x ∈ p, x.size ≤ m) (l : List Int) : ∀ acc, (someB p acc l).size ≤ acc.size + m * l.length := by
  induction l with
  | nil => intro acc; exact Nat.le_add_right _ _
  | cons x l ih =>
    intro acc
    have := ih (acc ++ p.getD (x.toNat % p.length) ByteArray.empty)
    have hp : (p.getD (x.toNat % p.length) ByteArray.empty).size ≤ m := by
      rw [List.getD_eq_getElem?_getD]
      cases h : p[x.toNat % p.length]? with
      | none => exact Nat.zero_le _
      | some y => exact hm y (List.mem_of_getElem? h)
    rw [ByteArray.size_append] at this
    show (someB p (acc ++ p.getD (x.toNat % p.length) ByteArray.empty) l).size ≤ _
    rw [List.length_cons, Nat.mul_succ]; omega
theorem some_loop (p : List ByteArray) (m : Nat) (hp0 : 0 < p.length) (hp1 : p.length ≤ 1000) (hm : ∀ x ∈ p, x.size ≤ m) (l : List Int) (hl : l.length ≤ 1000000) (hw : ∀ x ∈ l, 0 ≤ x ∧ x < 256) (d : Nat) : ∀ (i : Nat) (acc : ByteArray), i + d = l.length → acc.size + m * d ≤ 9223372036854775807 →
    Ev (fun k => parallaxlaw9_some.l0 k l p acc (i : Int)) (someB p acc (l.drop i)) := by
  induction d with
  | zero =>
    intro i acc hi ha
    refine Ev.step (fun _ => parallaxlaw9_some.l0.eq_2 ..) (Ev.neg (by omega) ((Ev.now _).to ?_))
    rw [List.drop_of_length_le (by omega)]; rfl
  | succ d ih =>
    intro i acc hi ha
    have h9 : i < 9223372036854775807 := by omega
    have hx := hw (rd l (i : Int)) (by rw [rd_nat, List.getD_eq_getElem?_getD, List.getElem?_eq_getElem (by omega : i < l.length)]; exact List.getElem_mem _)
    rw [drop_rd l i (by omega)]
    have hq : Int.tmod (wrap64 (rd l (i : Int))) (p.length : Int) = (((rd l (i : Int)).toNat % p.length : Nat) : Int) := by
      rw [wrap_in (by omega) (by omega), Int.tmod_eq_emod_of_nonneg (by omega)]
      have e : rd l (i : Int) = (((rd l (i : Int)).toNat : Nat) : Int) := by omega
      rw [e, ← Int.natCast_emod, Int.toNat_natCast]
    have hmod : (rd l (i : Int)).toNat % p.length < p.length := Nat.mod_lt _ hp0
    refine Ev.step (fun _ => parallaxlaw9_some.l0.eq_2 ..) (Ev.pos (by omega) (Ev.pos (by omega) (Ev.neg (by omega) ?_)))
    rw [hq, wrap_nat h9]
    have he : rdOf ByteArray.empty p (((rd l (i : Int)).toNat % p.length : Nat) : Int) = p.getD ((rd l (i : Int)).toNat % p.length) ByteArray.empty := rfl
    have hs := hm _ (rdOf_mem p _ hmod)
    rw [he] at hs
    rw [he]
    rw [Nat.mul_succ] at ha
    refine Ev.pos (by omega) (Ev.pos (by omega) (Ev.pos (by omega) ?_))
    exact ih (i + 1) _ (by omega) (by rw [ByteArray.size_append]; omega)
def someP : List ByteArray := ([(⟨#[65]⟩ : ByteArray), (⟨#[45]⟩ : ByteArray), (⟨#[58]⟩ : ByteArray), (⟨#[32]⟩ : ByteArray), (⟨#[9]⟩ : ByteArray), (⟨#[98]⟩ : ByteArray), (⟨#[0]⟩ : ByteArray), (⟨#[128]⟩ : ByteArray), (⟨#[40]⟩ : ByteArray), (⟨#[72, 111, 115, 116]⟩ : ByteArray), (⟨#[58, 32]⟩ : ByteArray), (⟨#[127]⟩ : ByteArray), (⟨#[]⟩ : ByteArray)] : List ByteArray)
theorem some_ev (l : List Int) (hl : l.length ≤ 1000000) (hw : ∀ x ∈ l, 0 ≤ x ∧ x < 256) : Ev (fun k => parallaxlaw9_some.f k l) (someB someP ByteArray.empty l) := by
  unfold parallaxlaw9_some.f
  refine (some_loop someP 4 (by decide) (by decide) (by decide) l hl hw l.length 0 ByteArray.empty (by omega) ?_).to (by rw [List.drop_zero])
  show 0 + 4 * l.length ≤ _; omega
theorem some_size (l : List Int) : (someB someP ByteArray.empty l).size ≤ 4 * l.length := by
  have := someB_size someP 4 (by decide) l ByteArray.empty
  simpa using this
theorem bits_and32 (a b : Nat) (ha : a < 4294967296) (hb : b < 4294967296) : Go.bits .and .u32 (a : Int) (b : Int) = ((a &&& b : Nat) : Int) :=
  (Go.bits_nat .u32 32 (by decide) (fun n h0 h1 => by rw [IntKind.wrap_u32]; omega) a b ha hb).1
theorem bits_or32 (a b : Nat) (ha : a < 4294967296) (hb : b < 4294967296) : Go.bits .or .u32 (a : Int) (b : Int) = ((a ||| b : Nat) : Int) :=
  (Go.bits_nat .u32 32 (by decide) (fun n h0 h1 => by rw [IntKind.wrap_u32]; omega) a b ha hb).2
theorem bits_shr32 (a c : Nat) (hc : c ≤ 32) : shr .u32 (a : Int) (c : Int) = ((a >>> c : Nat) : Int) := by
  unfold shr
  rw [Int.toNat_natCast, show min c IntKind.u32.bits = c from Nat.min_eq_left hc, Nat.shiftRight_eq_div_pow]
  simp
theorem shr_le (a c : Nat) : a >>> c ≤ a := by rw [Nat.shiftRight_eq_div_pow]; exact Nat.div_le_self _ _
/-- is a bit set? -/
theorem bit_at (a c : Nat) (ha : a < 4294967296) (hc : c ≤ 32) : (Go.bits .and .u32 (shr .u32 (a : Int) (c : Int)) 1 == 1) = a.testBit c := by
  have := shr_le a c
  rw [bits_shr32 a c hc, show (1 : Int) = ((1 : Nat) : Int) from rfl, bits_and32 _ _ (by omega) (by omega)]
  unfold Nat.testBit
  rw [Nat.and_comm]
  have h : 1 &&& (a >>> c) = 0 ∨ 1 &&& (a >>> c) = 1 := by rw [Nat.and_comm, Nat.and_one_is_mod]; omega
  rcases h with h | h <;> rw [h] <;> rfl
/-- is a clause in a profile? -/
def hasB (n : Nat) (c : Int) : Bool := decide (0 ≤ c ∧ c < 30) && n.testBit c.toNat
theorem hasB_far {n : Nat} {c : Int} (h : ¬ (0 ≤ c ∧ c < 30)) : hasB n c = false := by unfold hasB; rw [decide_eq_false h]; rfl
theorem hasB_nat (n c : Nat) (h : c < 30) : hasB n (c : Int) = n.testBit c := by unfold hasB; rw [decide_eq_true (by omega)]; simp
theorem mask30 (a : Nat) : a &&& 1073741823 = a % 1073741824 := Nat.and_two_pow_sub_one_eq_mod a 30
theorem bits_mask32 (a : Nat) (ha : a < 4294967296) : Go.bits .and .u32 (a : Int) 1073741823 = ((a % 1073741824 : Nat) : Int) := by
  rw [← mask30]; exact bits_and32 a 1073741823 ha (by decide)
theorem bit_beyond {n c : Nat} (hn : n < 1073741824) (hc : 30 ≤ c) : n.testBit c = false :=
  Nat.testBit_lt_two_pow (Nat.lt_of_lt_of_le hn (Nat.pow_le_pow_right (n := 2) (by decide) hc))
theorem qknown (c : Int) : quirks_known.f c = some (decide (0 ≤ c ∧ c < 30)) := by
  unfold quirks_known.f
  by_cases h : c ≥ 0
  · rw [if_pos h]; congr 1; simp; omega
  · rw [if_neg h]; congr 1; simp; omega
theorem qhas_some (n : Nat) (hn : n < 4294967296) (c : Int) : quirks_Has.f (n : Int) c = some (hasB n c) := by
  unfold quirks_Has.f
  rw [qknown, Option.bind_some]
  by_cases h : 0 ≤ c ∧ c < 30
  · obtain ⟨m, rfl⟩ : ∃ m : Nat, c = (m : Int) := ⟨c.toNat, by omega⟩
    rw [if_pos (decide_eq_true h), if_pos h.1, bit_at n m hn (by omega), hasB_nat n m (by omega)]
  · rw [if_neg (by simpa using h), hasB_far h]
/-- the profile of clauses -/
def profB (l : List Int) (n : Nat) : Nat := l.foldl (fun p c => if 0 ≤ c ∧ c < 30 then p ||| 2 ^ c.toNat else p) n
theorem or_lt {a b : Nat} (ha : a < 1073741824) (hb : b < 1073741824) : a ||| b < 1073741824 := Nat.or_lt_two_pow (n := 30) ha hb
theorem pow_lt30 {c : Nat} (h : c < 30) : 2 ^ c < 1073741824 := Nat.pow_lt_pow_right (by decide) h
theorem profB_lt (l : List Int) : ∀ n, n < 1073741824 → profB l n < 1073741824 := by
  induction l with
  | nil => intro n h; exact h
  | cons c l ih =>
    intro n h
    refine ih _ ?_
    show (if 0 ≤ c ∧ c < 30 then n ||| 2 ^ c.toNat else n) < 1073741824
    by_cases hc : 0 ≤ c ∧ c < 30
    · rw [if_pos hc]; exact or_lt h (pow_lt30 (by omega))
    · rw [if_neg hc]; exact h
theorem profB_bit (l : List Int) : ∀ (n i : Nat), (profB l n).testBit i = (n.testBit i || l.any fun c => decide (0 ≤ c ∧ c < 30 ∧ c.toNat = i)) := by
  induction l with
  | nil => intro n i; simp [profB]
  | cons c l ih =>
    intro n i
    show (profB l (if 0 ≤ c ∧ c < 30 then n ||| 2 ^ c.toNat else n)).testBit i = _
    rw [ih, List.any_cons, ← Bool.or_assoc]
    congr 1
    by_cases hc : 0 ≤ c ∧ c < 30
    · rw [if_pos hc, Nat.testBit_or, Nat.testBit_two_pow]
      congr 1
      have e : (0 ≤ c ∧ c < 30 ∧ c.toNat = i) ↔ c.toNat = i := ⟨fun h => h.2.2, fun h => ⟨hc.1, hc.2, h⟩⟩
      rw [decide_eq_decide.mpr e]
    · rw [if_neg hc, decide_eq_false (fun h => hc ⟨h.1, h.2.1⟩), Bool.or_false]
theorem bits_shl32 (c : Nat) (h : c < 30) : shl .u32 1 (c : Int) = ((2 ^ c : Nat) : Int) := by
  have h1 := pow_lt30 h
  unfold shl
  rw [Int.toNat_natCast, show min c IntKind.u32.bits = c from Nat.min_eq_left (by show c ≤ 32; omega), IntKind.wrap_u32, Int.one_mul, show ((2 : Int) ^ c) = ((2 ^ c : Nat) : Int) by simp]
  generalize 2 ^ c = q at h1 ⊢
  omega
theorem take_at (c : UInt8) (a r : List UInt8) (h : c ∉ a) : (a ++ c :: r).takeWhile (· != c) = a ∧ (a ++ c :: r).dropWhile (· != c) = c :: r := by
  induction a with
  | nil => simp
  | cons b a ih =>
    have hb : (b != c) = true := by simp only [bne_iff_ne]; intro e; exact h (by simp [e])
    obtain ⟨h1, h2⟩ := ih (fun hm => h (by simp [hm]))
    rw [List.cons_append, List.takeWhile_cons, List.dropWhile_cons, if_pos hb, if_pos hb, h1, h2]
    exact ⟨rfl, rfl⟩
theorem take_no (c : UInt8) (l : List UInt8) (h : c ∉ l) : l.takeWhile (· != c) = l ∧ l.dropWhile (· != c) = [] := by
  induction l with
  | nil => simp
  | cons b a ih =>
    have hb : (b != c) = true := by simp only [bne_iff_ne]; intro e; exact h (by simp [e])
    obtain ⟨h1, h2⟩ := ih (fun hm => h (by simp [hm]))
    rw [List.takeWhile_cons, List.dropWhile_cons, if_pos hb, if_pos hb, h1, h2]
    exact ⟨rfl, rfl⟩
/-- what stands ahead of a byte, what stands from it on, what stands behind it; is it there? -/
def beforeB (c : UInt8) (s : ByteArray) : ByteArray := BA (s.data.toList.takeWhile (· != c))
def restB (c : UInt8) (s : ByteArray) : ByteArray := BA (s.data.toList.dropWhile (· != c))
def afterB (c : UInt8) (s : ByteArray) : ByteArray := BA ((s.data.toList.dropWhile (· != c)).drop 1)
def hasC (c : UInt8) (s : ByteArray) : Bool := decide (c ∈ s.data.toList)
theorem before_size (c : UInt8) (s : ByteArray) : (beforeB c s).size ≤ s.size := by
  unfold beforeB; rw [size_BA, ← data_length s]; exact (List.takeWhile_sublist _).length_le
theorem rest_size (c : UInt8) (s : ByteArray) : (restB c s).size ≤ s.size := by
  unfold restB; rw [size_BA, ← data_length s]; exact (List.dropWhile_sublist _).length_le
theorem after_size (c : UInt8) (s : ByteArray) : (afterB c s).size ≤ s.size := by
  unfold afterB; rw [size_BA, ← data_length s, List.length_drop]; have := (List.dropWhile_sublist (l := s.data.toList) (· != c)).length_le; omega
theorem rest_ext (c : UInt8) (s : ByteArray) : s.extract (beforeB c s).size s.size = restB c s := by
  apply ba_inj
  unfold beforeB restB
  rw [ext_data, data_BA, size_BA, ← data_length s]
  rw [TrimP.drop_take_while, List.take_of_length_le]
  rw [← TrimP.drop_take_while, List.length_drop]
  exact Nat.le_refl _
theorem cut_yes (c : UInt8) (s : ByteArray) (i : Nat) (hi : i < s.size) (hc : bt s (i : Int) = (c.toNat : Int)) (hno : ∀ j, j < i → bt s (j : Int) ≠ (c.toNat : Int)) :
    beforeB c s = s.extract 0 i ∧ restB c s = s.extract i s.size ∧ afterB c s = s.extract (i + 1) s.size ∧ hasC c s = true := by
  have hl : i < s.data.toList.length := by rw [data_length]; exact hi
  have hci : s.data.toList[i] = c := by
    rw [bt_nat s i hi] at hc
    have : (s[i]'hi) = c := by apply UInt8.toNat_inj.mp; omega
    exact this
  have hnm : c ∉ s.data.toList.take i := by
    intro hm
    obtain ⟨n, hn, he⟩ := List.mem_iff_getElem.mp hm
    rw [List.length_take, data_length] at hn
    rw [List.getElem_take] at he
    have h1 := hno n (by omega)
    rw [bt_nat s n (by omega)] at h1
    exact h1 (congrArg (fun z : UInt8 => (z.toNat : Int)) he)
  have e : s.data.toList = s.data.toList.take i ++ c :: s.data.toList.drop (i + 1) := by
    conv => lhs; rw [← List.take_append_drop i s.data.toList, List.drop_eq_getElem_cons hl, hci]
  obtain ⟨t1, t2⟩ := take_at c _ (s.data.toList.drop (i + 1)) hnm
  rw [← e] at t1 t2
  unfold beforeB restB afterB hasC
  rw [t1, t2]
  refine ⟨?_, ?_, ?_, ?_⟩
  · rw [ext_BA, List.drop_zero, Nat.sub_zero]
  · rw [ext_BA, ← hci, ← List.drop_eq_getElem_cons hl, List.take_of_length_le (by rw [List.length_drop, data_length]; omega)]
  · rw [ext_BA, List.take_of_length_le (by rw [List.length_drop, data_length]; omega)]; rfl
  · rw [decide_eq_true_eq, e]; simp
theorem cut_no (c : UInt8) (s : ByteArray) (hno : ∀ j, j < s.size → bt s (j : Int) ≠ (c.toNat : Int)) : beforeB c s = s ∧ restB c s = BA [] ∧ afterB c s = BA [] ∧ hasC c s = false := by
  have hnm : c ∉ s.data.toList := by
    intro hm
    obtain ⟨n, hn, he⟩ := List.mem_iff_getElem.mp hm
    rw [data_length] at hn
    have h1 := hno n hn
    rw [bt_nat s n hn] at h1
    exact h1 (congrArg (fun z : UInt8 => (z.toNat : Int)) he)
  obtain ⟨t1, t2⟩ := take_no c _ hnm
  unfold beforeB restB afterB hasC
  rw [t1, t2, BA_data]
  exact ⟨rfl, rfl, rfl, decide_eq_false hnm⟩
theorem cut_app (c : UInt8) (a s : ByteArray) (h : ∀ x ∈ bytesOf a, x ≠ (c.toNat : Int)) : beforeB c (a ++ BA [c] ++ s) = a ∧ restB c (a ++ BA [c] ++ s) = BA [c] ++ s := by
  have hn : c ∉ a.data.toList := fun hm => h _ (List.mem_map.mpr ⟨c, hm, rfl⟩) rfl
  have e : (a ++ BA [c] ++ s).data.toList = a.data.toList ++ c :: s.data.toList := by rw [data_app, data_app, data_BA]; simp
  obtain ⟨t1, t2⟩ := take_at c _ s.data.toList hn
  unfold beforeB restB
  rw [e, t1, t2, BA_data]
  refine ⟨rfl, ?_⟩
  apply ba_inj; rw [data_app, data_BA, data_BA]; rfl
theorem cut_none (c : UInt8) (a : ByteArray) (h : ∀ x ∈ bytesOf a, x ≠ (c.toNat : Int)) : beforeB c a = a ∧ restB c a = BA [] := by
  have hn : c ∉ a.data.toList := fun hm => h _ (List.mem_map.mpr ⟨c, hm, rfl⟩) rfl
  obtain ⟨t1, t2⟩ := take_no c _ hn
  unfold beforeB restB
  rw [t1, t2, BA_data]; exact ⟨rfl, rfl⟩
theorem cut_after (c : UInt8) (a s : ByteArray) (h : ∀ x ∈ bytesOf a, x ≠ (c.toNat : Int)) : afterB c (a ++ BA [c] ++ s) = s ∧ hasC c (a ++ BA [c] ++ s) = true := by
  have hn : c ∉ a.data.toList := fun hm => h _ (List.mem_map.mpr ⟨c, hm, rfl⟩) rfl
  have e : (a ++ BA [c] ++ s).data.toList = a.data.toList ++ c :: s.data.toList := by rw [data_app, data_app, data_BA]; simp
  obtain ⟨t1, t2⟩ := take_at c _ s.data.toList hn
  unfold afterB hasC
  rw [e, t2]
  exact ⟨by rw [List.drop_one, List.tail_cons, BA_data], decide_eq_true (by simp)⟩
theorem cut_has (c : UInt8) (a : ByteArray) (h : ∀ x ∈ bytesOf a, x ≠ (c.toNat : Int)) : hasC c a = false := by
  have hn : c ∉ a.data.toList := fun hm => h _ (List.mem_map.mpr ⟨c, hm, rfl⟩) rfl
  exact decide_eq_false hn
theorem cut_some (c : UInt8) (s : ByteArray) (hs : s.size < 4611686018427387904) : strings_Cut.f s (BA [c]) = some (beforeB c s, afterB c s, hasC c s) := by
  have h1 : (BA [c]).size = 1 := rfl
  have hI : stringslite_Index.f s (BA [c]) = some (Lib.indexByte s.data.toList c) := by
    unfold stringslite_Index.f; rw [if_pos h1, data_BA]; rfl
  unfold strings_Cut.f stringslite_Cut.f
  rw [hI, Option.bind_some]
  rcases Int.lt_or_le (Lib.indexByte s.data.toList c) 0 with x | x
  · have hn := index_no c _ x
    obtain ⟨t1, t2⟩ := take_no c _ hn
    rw [if_neg (by omega), Option.bind_some]
    unfold beforeB afterB hasC
    rw [t1, t2, decide_eq_false hn, BA_data]; rfl
  · obtain ⟨a, r, e, hn, hi⟩ := index_yes c _ x
    obtain ⟨t1, t2⟩ := take_at c a r hn
    have hsz : s.size = a.length + (r.length + 1) := by rw [← data_length s, e]; simp
    have hw : wrap64 (Lib.indexByte s.data.toList c + ((BA [c]).size : Int)) = ((a.length + 1 : Nat) : Int) := by
      rw [hi, h1]; exact wrap_nat (by omega)
    rw [if_pos x, if_pos x, hw, hi, if_pos (by omega), if_pos (by omega), if_pos (by omega), Option.bind_some]
    unfold beforeB afterB hasC
    rw [e, t1, t2, decide_eq_true (by simp), Int.toNat_natCast, Int.toNat_natCast]
    have e1 : s.extract 0 a.length = BA a := by rw [ext_BA, e]; simp
    have e2 : s.extract (a.length + 1) s.size = BA r := by
      rw [ext_BA, e, show (a ++ c :: r).drop (a.length + 1) = r by simp, List.take_of_length_le (by omega)]
    rw [e1, e2]; rfl
theorem ris_k (kind : Fin 8) : ∀ n : Fin 256, parallaxref1_is.f 40 (n.val : Int) (kind.val : Int) = some (ofB (n.val : Int) (kind.val : Int)) := by
  revert kind; decide +kernel
theorem ris_ev {c : Int} (h : 0 ≤ c ∧ c < 256) (kind : Int) (hk : 0 ≤ kind ∧ kind < 8) : Ev (fun k => parallaxref1_is.f k c kind) (ofB c kind) :=
  Ev.of (fun k => parallaxref1_is.mono _ _ k) (k := 40) (byte_all (p := fun c => parallaxref1_is.f 40 c kind = some (ofB c kind)) (fun n => by
    have := ris_k ⟨kind.toNat, by omega⟩ n
    rwa [show ((⟨kind.toNat, by omega⟩ : Fin 8).val : Int) = kind by simp; omega] at this) h.1 h.2)
theorem rall_in (s : ByteArray) (l : List Int) (hk : ∀ x ∈ l, 0 ≤ x ∧ x < 8) (hl : l.length < 9223372036854775807) (hs : s.size < 9223372036854775807) (i : Nat) (hi : i < s.size) (R : Bool)
    (hR : Ev (fun k => parallaxref1_All.l0 k s l ((i + 1 : Nat) : Int)) R) (d : Nat) : ∀ (j : Nat) (b : Bool), j + d = l.length →
    Ev (fun k => parallaxref1_All.l1 k s l (i : Int) b (j : Int)) (if (b || (l.drop j).any (ofB (bt s (i : Int)))) = true then R else false) := by
  induction d with
  | zero =>
    intro j b hj
    refine Ev.step (fun _ => parallaxref1_All.l1.eq_2 ..) (Ev.neg (by omega) ?_)
    rw [List.drop_of_length_le (by omega), List.any_nil, Bool.or_false, wrap_nat (by omega)]
    exact Ev.cond (fun _ => hR) (fun _ => Ev.now _)
  | succ d ih =>
    intro j b hj
    have hw : wrap64 ((j : Int) + 1) = ((j + 1 : Nat) : Int) := wrap_nat (by omega)
    refine Ev.step (fun _ => parallaxref1_All.l1.eq_2 ..) (Ev.pos (by omega) ?_)
    rw [drop_rd l j (by omega), List.any_cons, hw]
    cases b with
    | true => exact Ev.pos rfl ((ih (j + 1) true (by omega)).to (by simp))
    | false =>
      have hm := hk (rd l (j : Int)) (by rw [rd_nat, List.getD_eq_getElem?_getD, List.getElem?_eq_getElem (by omega : j < l.length)]; exact List.getElem_mem _)
      refine Ev.neg (by simp) (Ev.pos (by omega) (Ev.pos (by omega) (Ev.pos (by omega) ?_)))
      exact Ev.bind (ris_ev (bt_lt s (i : Int)) _ hm) ((ih (j + 1) _ (by omega)).to (by rw [Bool.false_or]))
theorem rall_out (s : ByteArray) (l : List Int) (hk : ∀ x ∈ l, 0 ≤ x ∧ x < 8) (hl : l.length < 9223372036854775807) (hs : s.size < 9223372036854775807) (d : Nat) : ∀ (i : Nat), i + d = s.size →
    Ev (fun k => parallaxref1_All.l0 k s l (i : Int)) (((bytesOf s).drop i).all fun c => l.any (ofB c)) := by
  induction d with
  | zero =>
    intro i hi
    refine Ev.step (fun _ => parallaxref1_All.l0.eq_2 ..) (Ev.neg (by omega) ?_)
    rw [List.drop_of_length_le (by rw [bytesOf_length]; omega)]; exact Ev.now _
  | succ d ih =>
    intro i hi
    refine Ev.step (fun _ => parallaxref1_All.l0.eq_2 ..) (Ev.pos (by omega) ?_)
    refine (rall_in s l hk hl hs i (by omega) _ (ih (i + 1) (by omega)) l.length 0 false (by omega)).to ?_
    rw [drop_bytes s i (by omega), List.all_cons, List.drop_zero, Bool.false_or]
    cases l.any (ofB (bt s (i : Int))) <;> simp
theorem rall_ev (s : ByteArray) (l : List Int) (hk : ∀ x ∈ l, 0 ≤ x ∧ x < 8) (hl : l.length < 9223372036854775807) (hs : s.size < 9223372036854775807) : Ev (fun k => parallaxref1_All.f k s l) (allB s l) :=
  (rall_out s l hk hl hs s.size 0 (by omega)).to (by rw [List.drop_zero]; rfl)
theorem rhas_some (n : Nat) (hn : n < 4294967296) (c : Int) : parallaxref4_Has.f (n : Int) c = some (hasB n c) := by
  unfold parallaxref4_Has.f
  by_cases h0 : c ≥ 0
  · by_cases h1 : c < 30
    · obtain ⟨m, rfl⟩ : ∃ m : Nat, c = (m : Int) := ⟨c.toNat, by omega⟩
      rw [if_pos h0, if_pos h1, if_pos h0, bit_at n m hn (by omega), hasB_nat n m (by omega)]
    · rw [if_pos h0, if_neg h1, hasB_far (by omega)]
  · rw [if_neg h0, hasB_far (by omega)]
theorem rof_loop (l : List Int) (hl : l.length < 9223372036854775807) (d : Nat) : ∀ (i n : Nat), n < 1073741824 → i + d = l.length → Ev (fun k => parallaxref4_Of.l0 k l (n : Int) (i : Int)) ((profB (l.drop i) n : Nat) : Int) := by
  induction d with
  | zero =>
    intro i n hn hi
    refine Ev.step (fun _ => parallaxref4_Of.l0.eq_2 ..) (Ev.neg (by omega) ((Ev.now _).to ?_))
    rw [List.drop_of_length_le (by omega)]; rfl
  | succ d ih =>
    intro i n hn hi
    have h9 : i < 9223372036854775807 := by omega
    rw [drop_rd l i (by omega)]
    refine Ev.step (fun _ => parallaxref4_Of.l0.eq_2 ..) (Ev.pos (by omega) (Ev.pos (by omega) ?_))
    rw [wrap_nat h9]
    have hskip : ¬ (0 ≤ rd l (i : Int) ∧ rd l (i : Int) < 30) → Ev (fun k => parallaxref4_Of.l0 k l (n : Int) ((i + 1 : Nat) : Int)) ((profB (rd l (i : Int) :: l.drop (i + 1)) n : Nat) : Int) := by
      intro hc
      refine (ih (i + 1) n hn (by omega)).to ?_
      show _ = ((profB (l.drop (i + 1)) (if _ then _ else _) : Nat) : Int)
      rw [if_neg hc]
    by_cases h0 : rd l (i : Int) ≥ 0
    · refine Ev.pos h0 ?_
      by_cases h1 : rd l (i : Int) < 30
      · refine Ev.pos h1 (Ev.pos h0 ?_)
        obtain ⟨m, hm⟩ : ∃ m : Nat, rd l (i : Int) = (m : Int) := ⟨(rd l (i : Int)).toNat, by omega⟩
        have hp := pow_lt30 (c := m) (by omega)
        have e : profB (rd l (i : Int) :: l.drop (i + 1)) n = profB (l.drop (i + 1)) (n ||| 2 ^ m) := by
          show profB (l.drop (i + 1)) (if _ then _ else _) = _
          rw [if_pos ⟨h0, h1⟩, hm, Int.toNat_natCast]
        rw [e, hm, bits_shl32 m (by omega), bits_or32 n (2 ^ m) (by omega) (by omega)]
        exact ih (i + 1) _ (or_lt hn hp) (by omega)
      · exact Ev.neg h1 (hskip (by omega))
    · exact Ev.neg h0 (hskip (by omega))
theorem rof_ev (l : List Int) (hl : l.length < 9223372036854775807) : Ev (fun k => parallaxref4_Of.f k l) ((profB l 0 : Nat) : Int) := by
  unfold parallaxref4_Of.f
  exact (rof_loop l hl l.length 0 0 (by decide) (by omega)).to (by rw [List.drop_zero])
theorem profile_ev (a b : Nat) (ha : a < 4294967296) : ∃ p : Nat, p < 1073741824 ∧ Ev (fun k => parallaxseat_Profile.f k (a : Int) (b : Int)) (p : Int) := by
  unfold parallaxseat_Profile.f
  have hm := bits_mask32 a ha
  have hlt : a % 1073741824 < 1073741824 := Nat.mod_lt _ (by decide)
  by_cases h0 : Int.tmod (b : Int) 4 = 0
  · exact ⟨_, profB_lt _ 0 (by decide), Ev.pos h0 (Ev.bind (rof_ev _ (by simp)) (Ev.now _))⟩
  by_cases h1 : Int.tmod (b : Int) 4 = 1
  · exact ⟨_, profB_lt _ 0 (by decide), Ev.neg h0 (Ev.pos h1 (Ev.bind (rof_ev _ (by simp)) (Ev.now _)))⟩
  rw [hm]
  by_cases h2 : Int.tmod (b : Int) 4 = 2
  · refine ⟨(a % 1073741824 &&& (a % 1073741824 / 128)) &&& (a % 1073741824 / 8192), ?_, Ev.neg h0 (Ev.neg h1 (Ev.pos h2 ((Ev.now _).to ?_)))⟩
    · exact Nat.lt_of_le_of_lt Nat.and_le_left (Nat.lt_of_le_of_lt Nat.and_le_left hlt)
    · have d1 : a % 1073741824 / 128 ≤ a % 1073741824 := Nat.div_le_self _ _
      have d2 : a % 1073741824 / 8192 ≤ a % 1073741824 := Nat.div_le_self _ _
      have d3 : a % 1073741824 &&& (a % 1073741824 / 128) ≤ a % 1073741824 := Nat.and_le_left
      rw [show ((a % 1073741824 : Nat) : Int) / 128 = ((a % 1073741824 / 128 : Nat) : Int) by simp, show ((a % 1073741824 : Nat) : Int) / 8192 = ((a % 1073741824 / 8192 : Nat) : Int) by simp, bits_and32 _ _ (by omega) (by omega), bits_and32 _ _ (by omega) (by omega)]
  · exact ⟨_, hlt, Ev.neg h0 (Ev.neg h1 (Ev.neg h2 (Ev.now _)))⟩
theorem bits_andnot32 (a b : Nat) (ha : a < 4294967296) (hb : b < 4294967296) : ∃ r : Nat, Go.bits .andNot .u32 (a : Int) (b : Int) = (r : Int) ∧ r ≤ a ∧ ∀ i, i < 32 → r.testBit i = (a.testBit i && !(b.testBit i)) := by
  refine ⟨(BitVec.ofInt 32 (a : Int) &&& ~~~BitVec.ofInt 32 (b : Int)).toNat, ?_, ?_, fun i hi => ?_⟩
  · show IntKind.u32.wrap (((BitVec.ofInt 32 (a : Int) &&& ~~~BitVec.ofInt 32 (b : Int)).toNat : Nat) : Int) = _
    rw [IntKind.wrap_u32]
    have := (BitVec.ofInt 32 (a : Int) &&& ~~~BitVec.ofInt 32 (b : Int)).isLt
    omega
  · rw [BitVec.toNat_and, BitVec.ofInt_natCast, BitVec.toNat_ofNat]
    exact Nat.le_trans Nat.and_le_left (Nat.mod_le _ _)
  · rw [BitVec.testBit_toNat, BitVec.getLsbD_and, BitVec.getLsbD_not, BitVec.ofInt_natCast, BitVec.ofInt_natCast, BitVec.getLsbD_ofNat, BitVec.getLsbD_ofNat]
    simp [hi]
theorem bit_or_set (a k : Nat) : (a ||| 2 ^ k).testBit k = true := by rw [Nat.testBit_or, Nat.testBit_two_pow]; simp
theorem bit_or_other (a k i : Nat) (h : k ≠ i) : (a ||| 2 ^ k).testBit i = a.testBit i := by rw [Nat.testBit_or, Nat.testBit_two_pow]; simp [h]
/-- a profile without a clause, and with it -/
theorem clause_off (a k : Nat) (ha : a < 4294967296) (hk : k < 30) : ∃ r : Nat, r < 1073741824 ∧ Go.bits .andNot .u32 (Go.bits .and .u32 (a : Int) 1073741823) (shl .u32 1 (k : Int)) = (r : Int) ∧ Go.bits .or .u32 (r : Int) (shl .u32 1 (k : Int)) = ((r ||| 2 ^ k : Nat) : Int) ∧ r ||| 2 ^ k < 1073741824 ∧ hasB r (k : Int) = false ∧ hasB (r ||| 2 ^ k) (k : Int) = true ∧ ∀ c : Nat, c < 30 → c ≠ k → hasB (r ||| 2 ^ k) (c : Int) = hasB r (c : Int) := by
  have hm : a % 1073741824 < 1073741824 := Nat.mod_lt _ (by decide)
  have hp : 2 ^ k < 1073741824 := Nat.pow_lt_pow_right (by decide) hk
  obtain ⟨r, h1, h2, h3⟩ := bits_andnot32 (a % 1073741824) (2 ^ k) (by omega) (by omega)
  have hs : shl .u32 1 (k : Int) = ((2 ^ k : Nat) : Int) := by
    unfold shl
    rw [Int.toNat_natCast, show min k IntKind.u32.bits = k from Nat.min_eq_left (by show k ≤ 32; omega), IntKind.wrap_u32, Int.one_mul, show ((2 : Int) ^ k) = ((2 ^ k : Nat) : Int) by simp]
    generalize 2 ^ k = q at hp ⊢
    omega
  have hor : r ||| 2 ^ k < 1073741824 := Nat.or_lt_two_pow (n := 30) (show r < 2 ^ 30 by omega) hp
  refine ⟨r, by omega, ?_, ?_, hor, ?_, ?_, fun c hc hne => ?_⟩
  · rw [bits_mask32 a ha, hs]; exact h1
  · rw [hs]; exact bits_or32 r (2 ^ k) (by omega) (by omega)
  · rw [hasB_nat _ _ hk, h3 k (by omega), Nat.testBit_two_pow]; simp
  · rw [hasB_nat _ _ hk]; exact bit_or_set r k
  · rw [hasB_nat _ _ hc, hasB_nat _ _ hc]; exact bit_or_other r k c (fun e => hne e.symm)
/-- a line that is left out, or is wrong -/
def outF (b : Bool) : ByteArray × ByteArray × Bool × Int := ((⟨#[]⟩ : ByteArray), (⟨#[]⟩ : ByteArray), false, if b = true then 0 else 400)
/-- the name that a line has, as a clause has it -/
def nameF (s : ByteArray) (cs : Bool) : ByteArray := if cs = true then (⟨(Lib.trimRightS (beforeB 58 s).data.toList [32, 9]).toArray⟩ : ByteArray) else beforeB 58 s
def valueF (s : ByteArray) : ByteArray := Trim.trimB Trim.blankB (afterB 58 s)
/-- the field that a line is: by five clauses -/
def parseG (s : ByteArray) (cs nb nc nn vb : Bool) : ByteArray × ByteArray × Bool × Int :=
  if hasC 58 s = true then (if (nameF s cs).size = 0 then outF nn else if ((nb || allB (nameF s cs) [1]) && (vb || allB (valueF s) [6])) = true then (nameF s cs, valueF s, true, 0) else outF false) else outF nc
theorem out_some (p : Nat) (hp : p < 4294967296) (c : Int) : field_out.f (p : Int) c = some (outF (hasB p c)) := by
  unfold field_out.f
  rw [qhas_some p hp, Option.bind_some]
  unfold outF
  cases hasB p c <;> rfl
theorem trimRightS_size (l t : List UInt8) : (Lib.trimRightS l t).length ≤ l.length := by
  unfold Lib.trimRightS
  first | exact (List.rdropWhile_sublist ..).length_le | (rw [List.length_reverse]; exact Nat.le_trans (List.dropWhile_sublist _).length_le (by simp)) | simp
theorem nameF_size (s : ByteArray) (cs : Bool) : (nameF s cs).size ≤ s.size := by
  unfold nameF
  have hb := before_size 58 s
  cases cs with
  | true =>
    rw [if_pos rfl]
    have := trimRightS_size (beforeB 58 s).data.toList [32, 9]
    rw [data_length] at this
    exact Nat.le_trans (by show (Lib.trimRightS _ _).toArray.size ≤ _; simpa using this) hb
  | false => exact hb
theorem trimB_le2 (s : ByteArray) : (Trim.trimB Trim.blankB s).size ≤ s.size := by
  unfold Trim.trimB Trim.trimR Trim.trimL
  rw [ByteArray.size_extract, ByteArray.size_extract]; omega
theorem fparse_j0 (p : Nat) (hp : p < 4294967296) (n v : ByteArray) (hn : n.size < 4611686018427387904) (hv : v.size < 4611686018427387904) :
    Ev (fun k => field_Parse.j0 k (p : Int) n v) (if n.size = 0 then outF (hasB p 12) else if ((hasB p 10 || allB n [1]) && (hasB p 14 || allB (Trim.trimB Trim.blankB v) [6])) = true then (n, Trim.trimB Trim.blankB v, true, 0) else outF false) := by
  refine Ev.step (fun _ => field_Parse.j0.eq_2 ..) ?_
  have hz : n.toList = ([] : List UInt8) ↔ n.size = 0 := by
    rw [ByteArray.toList_eq, ← data_length n, List.length_eq_zero_iff]
  have ht := trimB_le2 v
  by_cases h : n.size = 0
  · rw [if_pos h]
    exact Ev.pos (hz.mpr h) (Ev.val (out_some p hp 12) (Ev.now _))
  · rw [if_neg h]
    refine Ev.neg (fun e => h (hz.mp e)) (Ev.val (trim_some (by omega)) (Ev.val (qhas_some p hp 10) ?_))
    have last : Ev (fun k => (quirks_Has.f (p : Int) 14).bind fun t140 => (if t140 = true then (some (n, Trim.trimB Trim.blankB v, true, 0)) else ((octet_All.f k (Trim.trimB Trim.blankB v) (([6] : List Int))).bind fun t144 => (if t144 = true then (some (n, Trim.trimB Trim.blankB v, true, (0 : Int))) else (some ((⟨#[]⟩ : ByteArray), (⟨#[]⟩ : ByteArray), false, 400)))))) (if (hasB p 14 || allB (Trim.trimB Trim.blankB v) [6]) = true then (n, Trim.trimB Trim.blankB v, true, 0) else outF false) := by
      refine Ev.val (qhas_some p hp 14) ?_
      cases h14 : hasB p 14 with
      | true => exact Ev.pos rfl ((Ev.now _).to (by simp))
      | false =>
        refine Ev.neg (by simp) (Ev.bind (own_ev _ [6] (by decide) (by omega)) ?_)
        cases ha : allB (Trim.trimB Trim.blankB v) [6] with
        | true => exact Ev.pos rfl ((Ev.now _).to (by simp))
        | false => exact Ev.neg (by simp) ((Ev.now _).to (by simp [outF]))
    cases h10 : hasB p 10 with
    | true => exact Ev.pos rfl (last.to (by simp))
    | false =>
      refine Ev.neg (by simp) (Ev.bind (own_ev n [1] (by decide) (by omega)) ?_)
      cases ha : allB n [1] with
      | true => exact Ev.pos rfl (last.to (by simp))
      | false => exact Ev.neg (by simp) ((Ev.now _).to (by simp [outF]))
theorem fparse_ev (s : ByteArray) (hs : s.size < 4611686018427387904) (p : Nat) (hp : p < 4294967296) : Ev (fun k => field_Parse.f k s (p : Int)) (parseG s (hasB p 9) (hasB p 10) (hasB p 11) (hasB p 12) (hasB p 14)) := by
  unfold field_Parse.f parseG
  have hb := before_size 58 s
  have ha := after_size 58 s
  refine Ev.val (cut_some 58 s hs) ?_
  simp only
  cases hc : hasC 58 s with
  | false => exact Ev.neg (by simp) (Ev.val (out_some p hp 11) ((Ev.now _).to (by simp)))
  | true =>
    refine Ev.pos rfl (Ev.val (qhas_some p hp 9) ?_)
    rw [if_pos rfl]
    have hns := nameF_size s
    cases h9 : hasB p 9 with
    | true =>
      refine Ev.pos rfl (Ev.val (x := nameF s true) ?_ (fparse_j0 p hp _ _ (by have := hns true; omega) (by omega)))
      unfold strings_TrimRight.f nameF
      rw [if_pos ⟨by omega, by decide, by decide⟩]; rfl
    | false => exact Ev.neg (by simp) (fparse_j0 p hp _ _ (by omega) (by omega))
theorem trimU_parts (q : UInt8 → Bool) (l : List UInt8) : ∃ a b : List UInt8, l = a ++ TrimP.trimU q l ++ b ∧ (∀ x ∈ a, q x = true) ∧ ∀ x ∈ b, q x = true := by
  refine ⟨l.takeWhile q, ((l.dropWhile q).reverse.takeWhile q).reverse, ?_, fun x hx => TrimP.all_take hx, fun x hx => TrimP.all_take (List.mem_reverse.mp hx)⟩
  unfold TrimP.trimU
  rw [List.append_assoc, ← List.reverse_append, List.takeWhile_append_dropWhile, List.reverse_reverse, List.takeWhile_append_dropWhile]
theorem trimU_again (q : UInt8 → Bool) (l : List UInt8) : TrimP.trimU q (TrimP.trimU q l) = TrimP.trimU q l := by
  obtain ⟨a, b, h, ha, hb⟩ := trimU_parts q l
  have : TrimP.trimU q l = TrimP.trimU q (a ++ TrimP.trimU q l ++ b) := congrArg _ h
  rw [TrimP.trimU_right hb, TrimP.trimU_left ha] at this
  exact this.symm
theorem trimB_again (s : ByteArray) : Trim.trimB Trim.blankB (Trim.trimB Trim.blankB s) = Trim.trimB Trim.blankB s := by
  rw [TrimP.trimB_eq, TrimP.trimB_eq, data_BA, trimU_again]
theorem trimB_sp (s : ByteArray) : Trim.trimB Trim.blankB ((⟨#[32]⟩ : ByteArray) ++ s) = Trim.trimB Trim.blankB s := by
  rw [TrimP.trimB_eq, TrimP.trimB_eq, data_app, TrimP.trimU_left]
  intro b hb
  have : b = 32 := by simpa using hb
  subst this; decide
theorem tok_not : ∀ n : Fin 256, ofB (n.val : Int) 1 = true → (n.val : Int) ≠ 58 ∧ (n.val : Int) ≠ 32 ∧ (n.val : Int) ≠ 9 := by decide +kernel
theorem allB_mem {s : ByteArray} {k x : Int} (h : allB s [k] = true) (hx : x ∈ bytesOf s) : ofB x k = true := by
  unfold allB at h
  have := List.all_eq_true.mp h x hx
  simpa using this
theorem tok_at {s : ByteArray} (h : allB s [1] = true) {x : Int} (hx : x ∈ bytesOf s) : x ≠ 58 ∧ x ≠ 32 ∧ x ≠ 9 := by
  have h2 := bytes_lt s hx
  exact byte_all (p := fun x => ofB x 1 = true → x ≠ 58 ∧ x ≠ 32 ∧ x ≠ 9) tok_not h2.1 h2.2 (allB_mem h hx)
theorem name_plain {n : ByteArray} (h : allB n [1] = true) : (⟨(Lib.trimRightS n.data.toList [32, 9]).toArray⟩ : ByteArray) = n := by
  unfold Lib.trimRightS
  have : n.data.toList.reverse.dropWhile (([32, 9] : List UInt8).contains ·) = n.data.toList.reverse := by
    refine TrimP.dropWhile_none (fun b hb => ?_)
    have hm := tok_at h (List.mem_map.mpr ⟨b, List.mem_reverse.mp hb, rfl⟩ : (b.toNat : Int) ∈ bytesOf n)
    rw [Bool.eq_false_iff]
    intro e
    have e2 : b = 32 ∨ b = 9 := by simpa using e
    rcases e2 with rfl | rfl
    · exact hm.2.1 rfl
    · exact hm.2.2 rfl
  rw [this, List.reverse_reverse]
theorem nameF_plain {s : ByteArray} (h : allB (beforeB 58 s) [1] = true) (cs : Bool) : nameF s cs = beforeB 58 s := by
  unfold nameF
  cases cs with
  | true => rw [if_pos rfl]; exact name_plain h
  | false => exact if_neg (by simp)
/-- what the strict reader takes all take -/
theorem strict_all (s : ByteArray) (h : (parseG s false false false false false).2.2.2 = 0) : hasC 58 s = true ∧ 0 < (beforeB 58 s).size ∧ allB (beforeB 58 s) [1] = true ∧ allB (valueF s) [6] = true ∧ ∀ cs nb nc nn vb : Bool, parseG s cs nb nc nn vb = (beforeB 58 s, valueF s, true, 0) := by
  have hn0 : nameF s false = beforeB 58 s := rfl
  have hout : (outF false).2.2.2 ≠ 0 := by decide
  unfold parseG at h
  rw [hn0] at h
  by_cases hc : hasC 58 s = true
  · rw [if_pos hc] at h
    by_cases hz : (beforeB 58 s).size = 0
    · rw [if_pos hz] at h; exact absurd h hout
    · rw [if_neg hz] at h
      by_cases ha : ((false || allB (beforeB 58 s) [1]) && (false || allB (valueF s) [6])) = true
      · rw [Bool.false_or, Bool.false_or, Bool.and_eq_true] at ha
        refine ⟨hc, by omega, ha.1, ha.2, fun cs nb nc nn vb => ?_⟩
        unfold parseG
        rw [nameF_plain ha.1, if_pos hc, if_neg hz, if_pos (by rw [ha.1, ha.2, Bool.or_true, Bool.or_true]; rfl)]
      · rw [if_neg ha] at h; exact absurd h hout
  · rw [if_neg hc] at h; exact absurd h hout
/-- a line that is made of a name and a value -/
theorem parse_made (n w : ByteArray) (h0 : 0 < n.size) (hn : allB n [1] = true) (hv : allB (Trim.trimB Trim.blankB w) [6] = true) (cs nb nc nn vb : Bool) : parseG (n ++ BA [58] ++ w) cs nb nc nn vb = (n, Trim.trimB Trim.blankB w, true, 0) := by
  have hno : ∀ x ∈ bytesOf n, x ≠ ((58 : UInt8).toNat : Int) := fun x hx => (tok_at hn hx).1
  obtain ⟨c1, _⟩ := cut_app 58 n w hno
  obtain ⟨c3, c4⟩ := cut_after 58 n w hno
  unfold parseG
  have e1 : nameF (n ++ BA [58] ++ w) cs = n := by rw [nameF_plain (by rw [c1]; exact hn), c1]
  have e2 : valueF (n ++ BA [58] ++ w) = Trim.trimB Trim.blankB w := by unfold valueF; rw [c3]
  rw [e1, e2, if_pos c4, if_neg (by omega), if_pos (by rw [hn, hv, Bool.or_true, Bool.or_true]; rfl)]
theorem hasB_zero (c : Int) : hasB 0 c = false := by unfold hasB; simp
theorem fright_ev (n v : ByteArray) (h0 : 0 < n.size) (hn : allB n [1] = true) (hv : allB v [6] = true) (ht : Trim.trimB Trim.blankB v = v) (hs : n.size + v.size < 1000000000000) : Ev (fun k => field_Right.f k n v) true := by
  unfold field_Right.f
  have hsz : (n ++ (⟨#[58]⟩ : ByteArray)).size = n.size + 1 := by rw [ByteArray.size_append]; rfl
  refine Ev.pos (by omega) (Ev.pos (by rw [hsz]; omega) ?_)
  have hp := fparse_ev ((n ++ (⟨#[58]⟩ : ByteArray)) ++ v) (by rw [ByteArray.size_append, hsz]; omega) 0 (by decide)
  have hm := parse_made n v h0 hn (by rw [ht]; exact hv) (hasB 0 9) (hasB 0 10) (hasB 0 11) (hasB 0 12) (hasB 0 14)
  rw [ht] at hm
  exact Ev.bind (hp.to hm) (Ev.pos rfl (Ev.pos rfl ((Ev.now _).to (by simp))))
theorem fput_some (l : List S25) (hl : l.length ≤ 1000) (hz : ∀ x ∈ l, x.f0.size ≤ 1000000000 ∧ x.f1.size ≤ 1000000000) : field_Put.f l = some (putB l) := by
  unfold field_Put.f; rw [if_pos ⟨hz, hl⟩]
theorem put_one (f : S25) : putB [f] = lineB f := by
  unfold putB
  rw [List.foldl_cons, List.foldl_nil]
  apply ba_inj; rw [data_app]; rfl
theorem pick_some (y : List ByteArray) (h0 : 0 < y.length) (h : y.length ≤ 1000) (hy : ∀ x ∈ y, x.size ≤ 60) (a : Int) (ha : 0 ≤ a ∧ a < 256) : ∃ t : ByteArray, t.size ≤ 60 ∧ (if (y.length : Int) = 0 then (none) else (if 0 ≤ (Int.tmod (wrap64 (a)) (y.length : Int)) then (if (Int.tmod (wrap64 (a)) (y.length : Int)) < (y.length : Int) then (some (rdOf ByteArray.empty y (Int.tmod (wrap64 (a)) (y.length : Int)))) else (none)) else (none))) = some t := by
  have hw : wrap64 a = ((a.toNat : Nat) : Int) := by rw [wrap_in (by omega) (by omega)]; omega
  have hlt : a.toNat % y.length < y.length := Nat.mod_lt _ h0
  have ht : Int.tmod ((a.toNat : Nat) : Int) (y.length : Int) = ((a.toNat % y.length : Nat) : Int) := by rw [Int.tmod_eq_emod_of_nonneg (by omega)]; rfl
  rw [hw, ht]
  exact ⟨_, hy _ (rdOf_mem y _ hlt), by rw [if_neg (by omega), if_pos (by omega), if_pos (by omega)]⟩
theorem seat_field (a b : Int) (hb : 0 ≤ b ∧ b < 256) : ∃ t : ByteArray, t.size ≤ 60 ∧ parallaxseat_Field.f a b = some t := by
  unfold parallaxseat_Field.f
  simp only [Option.bind_some]
  by_cases h : a < 150
  · rw [if_pos h]; exact pick_some _ (by decide) (by decide) (by decide +kernel) b hb
  · rw [if_neg h]; exact pick_some _ (by decide) (by decide) (by decide +kernel) b hb
/-- does a line go on? -/
def goesF (s : ByteArray) (f : Bool) : Bool := f && (decide (0 < s.size) && Trim.blankB (bt s 0))
theorem nil_iff (s : ByteArray) : s.toList = ([] : List UInt8) ↔ s.size = 0 := by rw [ByteArray.toList_eq, ← data_length s, List.length_eq_zero_iff]
theorem oblank : ∀ n : Fin 256, octet_Blank.f (n.val : Int) = some (Trim.blankB (n.val : Int)) := by decide +kernel
theorem fgoes_some (s : ByteArray) (p : Nat) (hp : p < 4294967296) : field_Goes.f s (p : Int) = some (goesF s (hasB p 13)) := by
  unfold field_Goes.f goesF
  rw [qhas_some p hp, Option.bind_some]
  have hb := bt_lt s 0
  have he : octet_Blank.f (bt s 0) = some (Trim.blankB (bt s 0)) := byte_all (p := fun x => octet_Blank.f x = some (Trim.blankB x)) oblank hb.1 hb.2
  cases hasB p 13 with
  | false => rfl
  | true =>
    rw [if_pos rfl]
    by_cases h : s.size = 0
    · rw [if_pos ((nil_iff s).mpr h), decide_eq_false (by omega)]; rfl
    · rw [if_neg (fun e => h ((nil_iff s).mp e)), if_pos (by omega), he, decide_eq_true (show 0 < s.size by omega)]; rfl
theorem rblank : ∀ n : Fin 256, parallaxref1_Blank.f (n.val : Int) = some (Trim.blankB (n.val : Int)) := by decide +kernel
theorem rblank_some {c : Int} (h : 0 ≤ c ∧ c < 256) : parallaxref1_Blank.f c = some (Trim.blankB c) := byte_all (p := fun x => parallaxref1_Blank.f x = some (Trim.blankB x)) rblank h.1 h.2
theorem rgoes_some (s : ByteArray) (p : Nat) (hp : p < 4294967296) : parallaxref9_Goes.f s (p : Int) = some (goesF s (hasB p 13)) := by
  unfold parallaxref9_Goes.f goesF
  rw [rhas_some p hp, Option.bind_some]
  cases hasB p 13 with
  | false => rfl
  | true =>
    rw [if_pos rfl]
    by_cases h : s.size = 0
    · rw [if_pos ((nil_iff s).mpr h), decide_eq_false (by omega)]; rfl
    · rw [if_neg (fun e => h ((nil_iff s).mp e)), if_pos (by omega), rblank_some (bt_lt s 0), decide_eq_true (show 0 < s.size by omega)]; rfl
theorem join_ev (a b z : ByteArray) (ha : b.size ≤ 1000000000) (hz : z.size ≤ 1000000000) : ∃ r : ByteArray, field_Join.f a b z = some (a, r) ∧ Ev (fun k => parallaxref9_Join.f k a b z) (a, r) := by
  have ht : (Trim.trimB Trim.blankB z).size ≤ z.size := by
    unfold Trim.trimB Trim.trimR Trim.trimL
    rw [ByteArray.size_extract, ByteArray.size_extract]; omega
  have h1 : ((⟨#[32]⟩ : ByteArray) ++ Trim.trimB Trim.blankB z).size = 1 + (Trim.trimB Trim.blankB z).size := by rw [ByteArray.size_append]; rfl
  have h2 : (b ++ (⟨#[32]⟩ : ByteArray)).size = b.size + 1 := by rw [ByteArray.size_append]; rfl
  refine ⟨b ++ ((⟨#[32]⟩ : ByteArray) ++ Trim.trimB Trim.blankB z), ?_, ?_⟩
  · unfold field_Join.f
    rw [trim_some (by omega), Option.bind_some, if_pos (by omega), if_pos (by rw [h1]; omega)]
  · unfold parallaxref9_Join.f
    refine Ev.pos (by omega) (Ev.bind (rtrim_ev z (by omega)) (Ev.pos (by rw [h2]; omega) ((Ev.now _).to ?_)))
    congr 1
    apply ba_inj; rw [data_app, data_app, data_app, data_app, List.append_assoc]
/-- may a field be read? -/
def rightF (n v : ByteArray) : Bool := decide (0 < n.size) && (allB n [1] && (allB v [6] && ((Trim.trimB Trim.blankB v).toList == v.toList)))
theorem rright_ev (n v : ByteArray) (hs : n.size + v.size < 1000000000000) : Ev (fun k => parallaxref9_Right.f k n v) (rightF n v) := by
  unfold parallaxref9_Right.f rightF
  have hz : n.toList = ([] : List UInt8) ↔ n.size = 0 := by rw [ByteArray.toList_eq, ← data_length n, List.length_eq_zero_iff]
  by_cases h : n.size = 0
  · exact Ev.pos (hz.mpr h) ((Ev.now _).to (by rw [decide_eq_false (by omega)]; rfl))
  refine Ev.neg (fun e => h (hz.mp e)) (Ev.bind (rall_ev n [1] (by decide) (by decide) (by omega)) ?_)
  rw [decide_eq_true (show 0 < n.size by omega), Bool.true_and]
  cases h1 : allB n [1] with
  | false => exact Ev.neg (by simp) ((Ev.now _).to (by simp))
  | true =>
    refine Ev.pos rfl (Ev.bind (rall_ev v [6] (by decide) (by decide) (by omega)) ?_)
    cases h2 : allB v [6] with
    | false => exact Ev.neg (by simp) ((Ev.now _).to (by simp))
    | true => exact Ev.pos rfl (Ev.bind (rtrim_ev v (by omega)) ((Ev.now _).to (by simp)))
theorem before_no (c : UInt8) (s : ByteArray) : c ∉ (beforeB c s).data.toList := by
  unfold beforeB
  rw [data_BA]
  intro hm
  have := TrimP.all_take hm
  simp at this
theorem toList_inj {a b : ByteArray} (h : (a.toList == b.toList) = true) : a = b := by
  have := beq_iff_eq.mp h
  rw [ByteArray.toList_eq, ByteArray.toList_eq] at this
  exact ba_inj this
theorem fright_eq (n v : ByteArray) (hs : n.size + v.size < 1000000000000) : Ev (fun k => field_Right.f k n v) (rightF n v) := by
  unfold field_Right.f
  have hsz : (n ++ (⟨#[58]⟩ : ByteArray)).size = n.size + 1 := by rw [ByteArray.size_append]; rfl
  refine Ev.pos (by omega) (Ev.pos (by rw [hsz]; omega) ?_)
  have hp := fparse_ev ((n ++ (⟨#[58]⟩ : ByteArray)) ++ v) (by rw [ByteArray.size_append, hsz]; omega) 0 (by decide)
  simp only [hasB_zero] at hp
  refine Ev.bind hp ?_
  have e0 : (n ++ (⟨#[58]⟩ : ByteArray)) ++ v = n ++ BA [58] ++ v := rfl
  rw [e0]
  by_cases hc : (58 : UInt8) ∈ n.data.toList
  · have hn : allB n [1] = false := by
      rw [Bool.eq_false_iff]; intro e
      exact (tok_at e (List.mem_map.mpr ⟨58, hc, rfl⟩ : ((58 : UInt8).toNat : Int) ∈ bytesOf n)).1 rfl
    have hr : rightF n v = false := by unfold rightF; rw [hn]; simp
    rw [hr]
    by_cases h0 : (parseG (n ++ BA [58] ++ v) false false false false false).2.2.2 = 0
    · obtain ⟨_, _, _, _, f5⟩ := strict_all _ h0
      rw [f5]
      refine Ev.pos rfl (Ev.pos rfl ((Ev.now _).to ?_))
      rw [Bool.and_eq_false_iff]
      refine .inl (Bool.eq_false_iff.mpr fun e => ?_)
      have this : beforeB 58 (n ++ BA [58] ++ v) = n := toList_inj e
      exact before_no 58 (n ++ BA [58] ++ v) (by rw [this]; exact hc)
    · refine Ev.cond (r := false) (s := false) (fun _ => Ev.neg h0 (Ev.now _)) (fun _ => Ev.now _) |>.to (by simp)
  · have hno : ∀ x ∈ bytesOf n, x ≠ ((58 : UInt8).toNat : Int) := by
      intro x hx e
      obtain ⟨b, hb, hbx⟩ := List.mem_map.mp hx
      have : b = 58 := by
        have : (b.toNat : Int) = ((58 : UInt8).toNat : Int) := by rw [hbx, e]
        exact UInt8.toNat_inj.mp (by omega)
      rw [this] at hb; exact hc hb
    obtain ⟨c1, _⟩ := cut_app 58 n v hno
    obtain ⟨c3, c4⟩ := cut_after 58 n v hno
    have e1 : nameF (n ++ BA [58] ++ v) false = n := by unfold nameF; rw [if_neg (by simp), c1]
    have e2 : valueF (n ++ BA [58] ++ v) = Trim.trimB Trim.blankB v := by unfold valueF; rw [c3]
    have hG : parseG (n ++ BA [58] ++ v) false false false false false = if n.size = 0 then outF false else if (allB n [1] && allB (Trim.trimB Trim.blankB v) [6]) = true then (n, Trim.trimB Trim.blankB v, true, 0) else outF false := by
      unfold parseG; rw [e1, e2, if_pos c4, Bool.false_or, Bool.false_or]
    rw [hG]
    unfold rightF
    by_cases h0 : n.size = 0
    · rw [if_pos h0, decide_eq_false (by omega)]
      exact Ev.neg (by simp [outF]) (Ev.now _)
    rw [if_neg h0, decide_eq_true (show 0 < n.size by omega), Bool.true_and]
    cases h1 : allB n [1] with
    | false => exact Ev.neg (by simp [outF]) ((Ev.now _).to (by simp))
    | true =>
      rw [Bool.true_and, Bool.true_and]
      by_cases ht : Trim.trimB Trim.blankB v = v
      · rw [ht]
        cases h2 : allB v [6] with
        | false => exact Ev.neg (by simp [outF]) ((Ev.now _).to (by simp))
        | true => exact Ev.pos rfl (Ev.pos rfl ((Ev.now _).to (by simp)))
      · have hne : ((Trim.trimB Trim.blankB v).toList == v.toList) = false := Bool.eq_false_iff.mpr fun e => ht (toList_inj e)
        rw [hne, Bool.and_false]
        cases h2 : allB (Trim.trimB Trim.blankB v) [6] with
        | false => exact Ev.neg (by simp [outF]) (Ev.now _)
        | true => exact Ev.pos rfl (Ev.pos rfl ((Ev.now _).to (by show (_ && ((Trim.trimB Trim.blankB v).toList == v.toList)) = false; rw [hne, Bool.and_false])))
theorem rfput_loop (l : List S25) (hl : l.length ≤ 1000) (hz : ∀ x ∈ l, x.f0.size ≤ 1000000000 ∧ x.f1.size ≤ 1000000000) (d : Nat) : ∀ i : Nat, i + d = l.length → Ev (fun k => parallaxref9_Put.l0 k l (putB (l.take i)) (i : Int)) (putB l) := by
  induction d with
  | zero =>
    intro i hi
    refine Ev.step (fun _ => parallaxref9_Put.l0.eq_2 ..) (Ev.neg (by omega) ((Ev.now _).to ?_))
    rw [List.take_of_length_le (by omega)]
  | succ d ih =>
    intro i hi
    have h9 : i < 9223372036854775807 := by omega
    obtain ⟨z0, z1⟩ := hz _ (rdT_mem l i (by omega))
    have hp := putB_size l hz i
    have e : putB (l.take (i + 1)) = ((((putB (l.take i)) ++ ((rd_T25 l (i : Int)).f0)) ++ (⟨#[58, 32]⟩ : ByteArray)) ++ ((rd_T25 l (i : Int)).f1)) ++ (⟨#[13, 10]⟩ : ByteArray) := by
      have : l.take (i + 1) = l.take i ++ [rd_T25 l (i : Int)] := by rw [List.take_succ_eq_append_getElem (by omega)]; unfold rd_T25; simp [List.getD_eq_getElem?_getD, show i < l.length by omega]
      rw [this, putB_snoc]
      unfold lineB
      apply ba_inj
      simp only [data_app, List.append_assoc]
    have s1 : (putB (l.take i) ++ (rd_T25 l (i : Int)).f0).size = (putB (l.take i)).size + (rd_T25 l (i : Int)).f0.size := ByteArray.size_append
    have s2 : ((putB (l.take i) ++ (rd_T25 l (i : Int)).f0) ++ (⟨#[58, 32]⟩ : ByteArray)).size = (putB (l.take i)).size + (rd_T25 l (i : Int)).f0.size + 2 := by rw [ByteArray.size_append, s1]; rfl
    have s3 : (((putB (l.take i) ++ (rd_T25 l (i : Int)).f0) ++ (⟨#[58, 32]⟩ : ByteArray)) ++ (rd_T25 l (i : Int)).f1).size = (putB (l.take i)).size + (rd_T25 l (i : Int)).f0.size + 2 + (rd_T25 l (i : Int)).f1.size := by rw [ByteArray.size_append, s2]
    refine Ev.step (fun _ => parallaxref9_Put.l0.eq_2 ..) (Ev.pos (by omega) (Ev.pos (by omega) (Ev.pos (by omega) (Ev.pos (by rw [s1]; omega) (Ev.pos (by rw [s2]; omega) (Ev.pos (by rw [s3]; omega) ?_))))))
    rw [wrap_nat h9, ← e]
    exact ih (i + 1) (by omega)
theorem rfput_ev (l : List S25) (hl : l.length ≤ 1000) (hz : ∀ x ∈ l, x.f0.size ≤ 1000000000 ∧ x.f1.size ≤ 1000000000) : Ev (fun k => parallaxref9_Put.f k l) (putB l) := by
  unfold parallaxref9_Put.f
  exact rfput_loop l hl hz l.length 0 (by omega)
def endF (p : Nat) (n v : ByteArray) : ByteArray × ByteArray × Bool × Int := if n.size = 0 then outF (hasB p 12) else if ((hasB p 10 || allB n [1]) && (hasB p 14 || allB v [6])) = true then (n, v, true, 0) else outF false
theorem rparse_j3 (p : Nat) (hp : p < 4294967296) (n v : ByteArray) (hn : n.size < 4611686018427387904) (hv : v.size < 4611686018427387904) : Ev (fun k => parallaxref9_Parse.j3 k (p : Int) n v) (endF p n v) := by
  unfold endF
  refine Ev.step (fun _ => parallaxref9_Parse.j3.eq_2 ..) ?_
  by_cases h : n.size = 0
  · rw [if_pos h]
    refine Ev.pos ((nil_iff n).mpr h) (Ev.val (rhas_some p hp 12) ?_)
    cases h12 : hasB p 12 with
    | true => exact Ev.pos rfl ((Ev.now _).to (by simp [outF]))
    | false => exact Ev.neg (by simp) ((Ev.now _).to (by simp [outF]))
  · rw [if_neg h]
    refine Ev.neg (fun e => h ((nil_iff n).mp e)) (Ev.val (rhas_some p hp 10) ?_)
    have last : Ev (fun k => (parallaxref4_Has.f (p : Int) 14).bind fun t241 => (if t241 = true then (some (n, v, true, (0 : Int))) else ((parallaxref1_All.f k v (([6] : List Int))).bind fun t245 => (if t245 = true then (some (n, v, true, 0)) else (some ((⟨#[]⟩ : ByteArray), (⟨#[]⟩ : ByteArray), false, 400)))))) (if (hasB p 14 || allB v [6]) = true then (n, v, true, 0) else outF false) := by
      refine Ev.val (rhas_some p hp 14) ?_
      cases h14 : hasB p 14 with
      | true => exact Ev.pos rfl ((Ev.now _).to (by simp))
      | false =>
        refine Ev.neg (by simp) (Ev.bind (rall_ev _ [6] (by decide) (by decide) (by omega)) ?_)
        cases ha : allB v [6] with
        | true => exact Ev.pos rfl ((Ev.now _).to (by simp))
        | false => exact Ev.neg (by simp) ((Ev.now _).to (by simp [outF]))
    cases h10 : hasB p 10 with
    | true => exact Ev.pos rfl (last.to (by simp))
    | false =>
      refine Ev.neg (by simp) (Ev.bind (rall_ev n [1] (by decide) (by decide) (by omega)) ?_)
      cases ha : allB n [1] with
      | true => exact Ev.pos rfl (last.to (by simp))
      | false => exact Ev.neg (by simp) ((Ev.now _).to (by simp [outF]))
def cutR (n : ByteArray) : ByteArray := ⟨(Lib.trimRightS n.data.toList [32, 9]).toArray⟩
theorem rparse_l1 (p : Nat) (hp : p < 4294967296) (v : ByteArray) (hv : v.size < 4611686018427387904) (m : Nat) : ∀ n : ByteArray, n.size = m → n.size < 4611686018427387904 → Ev (fun k => parallaxref9_Parse.l1 k (p : Int) n v) (endF p (if hasB p 9 = true then cutR n else n) v) := by
  induction m with
  | zero =>
    intro n hs hb
    have e : n = ByteArray.empty := ByteArray.size_eq_zero_iff.mp hs
    have hcut : cutR n = n := by rw [e]; rfl
    refine Ev.step (fun _ => parallaxref9_Parse.l1.eq_2 ..) (Ev.val (rhas_some p hp 9) ?_)
    rw [hcut, ite_self]
    cases h9 : hasB p 9 with
    | false => exact Ev.neg (by simp) (rparse_j3 p hp n v hb hv)
    | true => exact Ev.pos rfl (Ev.pos ((nil_iff n).mpr hs) (rparse_j3 p hp n v hb hv))
  | succ m ih =>
    intro s hs hb
    have hne : ¬ s.toList = ([] : List UInt8) := fun e => by have := (nil_iff s).mp e; omega
    have hw : wrap64 ((s.size : Int) - 1) = ((m : Nat) : Int) := by rw [wrap_in (i := (s.size : Int) - 1) (by omega) (by omega)]; omega
    have hn9 : m < s.size := by omega
    have hbt := bt_lt s (m : Int)
    obtain ⟨b, hb1, hb2⟩ : ∃ b : UInt8, s.data.toList = s.data.toList.take m ++ [b] ∧ bt s (m : Int) = (b.toNat : Int) := by
      have hl : m < s.data.toList.length := by rw [data_length]; exact hn9
      refine ⟨s.data.toList[m], ?_, ?_⟩
      · rw [← List.take_succ_eq_append_getElem hl, List.take_of_length_le (by rw [data_length]; omega)]
      · rw [bt_nat s m hn9]; rfl
    refine Ev.step (fun _ => parallaxref9_Parse.l1.eq_2 ..) (Ev.val (rhas_some p hp 9) ?_)
    cases h9 : hasB p 9 with
    | false => exact Ev.neg (by simp) ((rparse_j3 p hp s v hb hv).to (by rw [if_neg (by simp)]))
    | true =>
      rw [if_pos rfl]
      refine Ev.pos rfl (Ev.neg hne ?_)
      rw [hw]
      refine Ev.pos (by omega) (Ev.pos (by omega) (Ev.val (rblank_some hbt) ?_))
      have hcon : (([32, 9] : List UInt8).contains b) = Trim.blankB (bt s (m : Int)) := by
        rw [hb2]
        have : ∀ x : Fin 256, (([32, 9] : List UInt8).contains (UInt8.ofNat x.val)) = Trim.blankB (x.val : Int) := by decide +kernel
        have h2 := this ⟨b.toNat, b.toNat_lt⟩
        simpa using h2
      have hcut : Lib.trimRightS s.data.toList [32, 9] = if Trim.blankB (bt s (m : Int)) = true then Lib.trimRightS (s.data.toList.take m) [32, 9] else s.data.toList := by
        unfold Lib.trimRightS
        conv => lhs; rw [hb1]
        rw [List.reverse_append, List.reverse_singleton, List.singleton_append, List.dropWhile_cons, hcon]
        by_cases h : Trim.blankB (bt s (m : Int)) = true
        · rw [if_pos h, if_pos h]
        · rw [if_neg h, if_neg h]
          conv => rhs; rw [hb1]
          rw [List.reverse_cons, List.reverse_reverse]
      by_cases h : Trim.blankB (bt s (m : Int)) = true
      · refine Ev.pos h (Ev.pos (by omega) ?_)
        rw [Int.toNat_natCast]
        refine (ih (s.extract 0 m) (by rw [Trim.ext_size _ _ _ (by omega)]; omega) (by rw [Trim.ext_size _ _ _ (by omega)]; omega)).to ?_
        rw [h9, if_pos rfl]
        have : cutR (s.extract 0 m) = cutR s := by
          unfold cutR; rw [hcut, if_pos h, ext_data, List.drop_zero, Nat.sub_zero]
        rw [this]
      · refine Ev.neg h ((rparse_j3 p hp s v hb hv).to ?_)
        have : cutR s = s := by unfold cutR; rw [hcut, if_neg h]
        rw [this]
theorem rparse_tail (s : ByteArray) (hs : s.size < 4611686018427387904) (p : Nat) (hp : p < 4294967296) (i : Nat) (hi : i < s.size) (hc : bt s (i : Int) = 58) (hno : ∀ j, j < i → bt s (j : Int) ≠ 58) (y : Int) : Ev (fun k => parallaxref9_Parse.j1 k s (p : Int) (i : Int) y false) (parseG s (hasB p 9) (hasB p 10) (hasB p 11) (hasB p 12) (hasB p 14)) := by
  obtain ⟨c1, c2, c3, c4⟩ := cut_yes 58 s i hi hc hno
  have ha := after_size 58 s
  have hb := before_size 58 s
  refine Ev.step (fun _ => parallaxref9_Parse.j1.eq_2 ..) (Ev.neg (by simp) (Ev.neg (by omega) ?_))
  rw [wrap_nat (by omega)]
  refine Ev.pos (by omega) (Ev.pos (by omega) (Ev.pos (by omega) (Ev.pos (by omega) ?_)))
  rw [Int.toNat_natCast, Int.toNat_natCast, ← c1, ← c3]
  refine Ev.bind (rtrim_ev _ (by omega)) ?_
  have hv : (Trim.trimB Trim.blankB (afterB 58 s)).size < 4611686018427387904 := Nat.lt_of_le_of_lt (trimB_le2 _) (by omega)
  refine (rparse_l1 p hp _ hv _ (beforeB 58 s) rfl (by omega)).to ?_
  unfold parseG endF
  rw [if_pos c4]; rfl
theorem rparse_l0 (s : ByteArray) (hs : s.size < 4611686018427387904) (p : Nat) (hp : p < 4294967296) (d : Nat) : ∀ i : Nat, i + d = s.size → (∀ j, j < i → bt s (j : Int) ≠ 58) →
    Ev (fun k => parallaxref9_Parse.l0 k s (p : Int) (-1) (i : Int)) (parseG s (hasB p 9) (hasB p 10) (hasB p 11) (hasB p 12) (hasB p 14)) := by
  induction d with
  | zero =>
    intro i hi hno
    obtain ⟨c1, c2, c3, c4⟩ := cut_no 58 s (fun j hj => hno j (by omega))
    refine Ev.step (fun _ => parallaxref9_Parse.l0.eq_2 ..) (Ev.neg (by omega) (Ev.step (fun _ => parallaxref9_Parse.j1.eq_2 ..) (Ev.neg (by simp) (Ev.pos (by decide) (Ev.val (rhas_some p hp 11) ?_)))))
    unfold parseG
    rw [c4, if_neg (show ¬ (false = true) by simp)]
    cases h11 : hasB p 11 with
    | true => exact Ev.pos rfl ((Ev.now _).to (by simp [outF]))
    | false => exact Ev.neg (by simp) ((Ev.now _).to (by simp [outF]))
  | succ d ih =>
    intro i hi hno
    have h9 : i < 9223372036854775807 := by omega
    refine Ev.step (fun _ => parallaxref9_Parse.l0.eq_2 ..) (Ev.pos (by omega) (Ev.step (fun _ => parallaxref9_Parse.j1.eq_2 ..) (Ev.pos (by decide) (Ev.pos (by omega) (Ev.pos (by omega) ?_)))))
    rw [wrap_nat h9]
    by_cases h : bt s (i : Int) = 58
    · refine Ev.pos h (Ev.step (fun _ => parallaxref9_Parse.l0.eq_2 ..) ?_)
      have hd : decide ((i : Int) < 0) = false := decide_eq_false (by omega)
      rw [hd]
      have := rparse_tail s hs p hp i (by omega) h hno (((i + 1 : Nat)) : Int)
      exact (Ev.cond (fun _ => this) (fun _ => this)).to (by simp)
    · refine Ev.neg h (ih (i + 1) (by omega) ?_)
      intro j hj
      rcases Nat.lt_or_ge j i with hji | hji
      · exact hno j hji
      · obtain rfl : j = i := by omega
        exact h
theorem rparse_ev (s : ByteArray) (hs : s.size < 4611686018427387904) (p : Nat) (hp : p < 4294967296) : Ev (fun k => parallaxref9_Parse.f k s (p : Int)) (parseG s (hasB p 9) (hasB p 10) (hasB p 11) (hasB p 12) (hasB p 14)) := by
  unfold parallaxref9_Parse.f
  exact rparse_l0 s hs p hp s.size 0 (by omega) (fun j hj => by omega)
theorem known_ev : Ev (fun k => parallaxlaw9_known.f k) true := Ev.of (fun k => parallaxlaw9_known.mono k) (k := 40) (by decide +kernel)
end Go.Proofs.YtijcibdpcolfpaaDoor.PFieldTells
