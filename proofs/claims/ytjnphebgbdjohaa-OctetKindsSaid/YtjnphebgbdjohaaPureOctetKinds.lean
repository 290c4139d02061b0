/- It is proved that OctetKinds answers true for every text, every list of kinds and every number: both functions All are the same test of bytes and kinds. -/
import Derived.Test.YtjnphebgbdjohaaPOctetKindsx3
import Derived.Test.YtjnphebgbdjohaaAid
namespace Go.Proofs.Ytjnphebgbdjohaa.Pure
open Go.RowKit Go.Proofs.Ytjnphebgbdjohaa.POctetKinds Go.Proofs.YtjnphebgbdjohaaW.PrintWords Go.Proofs.YtjnphebgbdjohaaW.PrintLast Go.Proofs.Ytjnphebgbdjohaa.Aid

/-- is a byte of a kind? -/
def ofB (c kind : Int) : Bool := (octet_of.f c kind).getD false
/-- is each byte of a text of one of some kinds? -/
def allB (s : ByteArray) (l : List Int) : Bool := (bytesOf s).all fun c => l.any (ofB c)

theorem of_k (kind : Fin 8) : ∀ n : Fin 256, octet_of.f (n.val : Int) (kind.val : Int) = some (ofB (n.val : Int) (kind.val : Int)) ∧ parallaxref1_is.f 40 (n.val : Int) (kind.val : Int) = some (ofB (n.val : Int) (kind.val : Int)) := by
  revert kind; decide +kernel

theorem hex_some : ∀ n : Fin 256, (parallaxref1_Hex.f 40 (n.val : Int)).isSome = true := by decide +kernel

theorem of_some {c : Int} (h0 : 0 ≤ c) (h1 : c < 256) (kind : Int) : octet_of.f c kind = some (ofB c kind) := by
  by_cases hk : 0 ≤ kind ∧ kind < 8
  · have := byte_all (p := fun c => octet_of.f c kind = some (ofB c kind)) (fun n => by
      have := (of_k ⟨kind.toNat, by omega⟩ n).1
      rwa [show ((⟨kind.toNat, by omega⟩ : Fin 8).val : Int) = kind by simp; omega] at this) h0 h1
    exact this
  · have : octet_of.f c kind = some false := by
      unfold octet_of.f
      rw [if_neg (by omega), if_neg (by omega), if_neg (by omega), if_neg (by omega), if_neg (by omega), if_neg (by omega)]
    unfold ofB; rw [this]; rfl

theorem is_ev {c : Int} (h0 : 0 ≤ c) (h1 : c < 256) (kind : Int) : Ev (fun k => parallaxref1_is.f k c kind) (ofB c kind) := by
  refine Ev.of (fun k => parallaxref1_is.mono _ _ k) (k := 40) ?_
  by_cases hk : 0 ≤ kind ∧ kind < 8
  · have := byte_all (p := fun c => parallaxref1_is.f 40 c kind = some (ofB c kind)) (fun n => by
      have := (of_k ⟨kind.toNat, by omega⟩ n).2
      rwa [show ((⟨kind.toNat, by omega⟩ : Fin 8).val : Int) = kind by simp; omega] at this) h0 h1
    exact this
  · have e : octet_of.f c kind = some false := by
      unfold octet_of.f
      rw [if_neg (by omega), if_neg (by omega), if_neg (by omega), if_neg (by omega), if_neg (by omega), if_neg (by omega)]
    have hx := byte_all (p := fun c => (parallaxref1_Hex.f 40 c).isSome = true) hex_some h0 h1
    obtain ⟨x, hx⟩ := Option.isSome_iff_exists.mp hx
    unfold parallaxref1_is.f
    rw [hx, Option.bind_some, if_neg (by omega), if_neg (by omega), if_neg (by omega), if_neg (by omega), if_neg (by omega), if_neg (by omega)]
    unfold ofB; rw [e]; rfl

/-- one text's byte against the kinds from the j-th on -/
theorem own_in (s : ByteArray) (l : List Int) (hl : l.length < 9223372036854775807) (hs : s.size < 9223372036854775807) (i : Nat) (hi : i < s.size) (R : Bool)
    (hR : Ev (fun k => octet_All.l0 k s l (s.size : Int) ((i + 1 : Nat) : Int)) R) (d : Nat) : ∀ (j : Nat) (b : Bool), j + d = l.length →
    Ev (fun k => octet_All.l1 k s l (i : Int) b (s.size : Int) (i : Int) l (l.length : Int) (j : Int)) (if (b || (l.drop j).any (ofB (bt s (i : Int)))) = true then R else false) := by
  induction d with
  | zero =>
    intro j b hj
    refine Ev.step (fun _ => octet_All.l1.eq_2 ..) (Ev.neg (by omega) ?_)
    rw [List.drop_of_length_le (by omega), List.any_nil, Bool.or_false, wrap_nat (by omega)]
    exact Ev.cond (fun _ => hR) (fun _ => Ev.now _)
  | succ d ih =>
    intro j b hj
    have hw : wrap64 ((j : Int) + 1) = ((j + 1 : Nat) : Int) := wrap_nat (by omega)
    refine Ev.step (fun _ => octet_All.l1.eq_2 ..) (Ev.pos (by omega) (Ev.pos (by omega) (Ev.pos (by omega) ?_)))
    rw [drop_rd l j (by omega), List.any_cons, hw]
    cases b with
    | true => exact Ev.pos rfl ((ih (j + 1) true (by omega)).to (by simp))
    | false =>
      refine Ev.neg (by simp) (Ev.pos (by omega) (Ev.pos (by omega) ?_))
      have := bt_lt s (i : Int)
      exact Ev.val (of_some this.1 this.2 _) ((ih (j + 1) _ (by omega)).to (by rw [Bool.false_or]))

theorem own_out (s : ByteArray) (l : List Int) (hl : l.length < 9223372036854775807) (hs : s.size < 9223372036854775807) (d : Nat) : ∀ (i : Nat), i + d = s.size →
    Ev (fun k => octet_All.l0 k s l (s.size : Int) (i : Int)) (((bytesOf s).drop i).all fun c => l.any (ofB c)) := by
  induction d with
  | zero =>
    intro i hi
    refine Ev.step (fun _ => octet_All.l0.eq_2 ..) (Ev.neg (by omega) ?_)
    rw [List.drop_of_length_le (by rw [bytesOf_length]; omega)]; exact Ev.now _
  | succ d ih =>
    intro i hi
    refine Ev.step (fun _ => octet_All.l0.eq_2 ..) (Ev.pos (by omega) ?_)
    refine (own_in s l hl hs i (by omega) _ (ih (i + 1) (by omega)) l.length 0 false (by omega)).to ?_
    rw [drop_bytes s i (by omega), List.all_cons, List.drop_zero, Bool.false_or]
    cases l.any (ofB (bt s (i : Int))) <;> simp

theorem own_ev (s : ByteArray) (l : List Int) (hl : l.length < 9223372036854775807) (hs : s.size < 9223372036854775807) : Ev (fun k => octet_All.f k s l) (allB s l) :=
  (own_out s l hl hs s.size 0 (by omega)).to (by rw [List.drop_zero]; rfl)

theorem ref_in (s : ByteArray) (l : List Int) (hl : l.length < 9223372036854775807) (hs : s.size < 9223372036854775807) (i : Nat) (hi : i < s.size) (R : Bool)
    (hR : Ev (fun k => parallaxref1_All.l0 k s l ((i + 1 : Nat) : Int)) R) (d : Nat) : ∀ (j : Nat) (b : Bool), j + d = l.length →
    Ev (fun k => parallaxref1_All.l1 k s l (i : Int) b (j : Int)) (if (b || (l.drop j).any (ofB (bt s (i : Int)))) = true then R else false) := by
  induction d with
  | zero =>
    intro j b hj
    refine Ev.step (fun _ => parallaxref1_All.l1.eq_2 ..) (Ev.neg (by omega) ?_)
    rw [List.drop_of_length_le (by omega), List.any_nil, Bool.or_false, wrap_nat (by omega)]
    exact Ev.cond (fun _ => hR) (fun _ => Ev.now _)
  | succ d ih =>
    intro j b hj
    have hw : wrap64 ((j : Int) + 1) = ((j + 1 : Nat) : Int) := wrap_nat (by omega)
    refine Ev.step (fun _ => parallaxref1_All.l1.eq_2 ..) (Ev.pos (by omega) ?_)
    rw [drop_rd l j (by omega), List.any_cons, hw]
    cases b with
    | true => exact Ev.pos rfl ((ih (j + 1) true (by omega)).to (by simp))
    | false =>
      refine Ev.neg (by simp) (Ev.pos (by omega) (Ev.pos (by omega) (Ev.pos (by omega) ?_)))
      have := bt_lt s (i : Int)
      exact Ev.bind (is_ev this.1 this.2 _) ((ih (j + 1) _ (by omega)).to (by rw [Bool.false_or]))

theorem ref_out (s : ByteArray) (l : List Int) (hl : l.length < 9223372036854775807) (hs : s.size < 9223372036854775807) (d : Nat) : ∀ (i : Nat), i + d = s.size →
    Ev (fun k => parallaxref1_All.l0 k s l (i : Int)) (((bytesOf s).drop i).all fun c => l.any (ofB c)) := by
  induction d with
  | zero =>
    intro i hi
    refine Ev.step (fun _ => parallaxref1_All.l0.eq_2 ..) (Ev.neg (by omega) ?_)
    rw [List.drop_of_length_le (by rw [bytesOf_length]; omega)]; exact Ev.now _
  | succ d ih =>
    intro i hi
    refine Ev.step (fun _ => parallaxref1_All.l0.eq_2 ..) (Ev.pos (by omega) ?_)
    refine (ref_in s l hl hs i (by omega) _ (ih (i + 1) (by omega)) l.length 0 false (by omega)).to ?_
    rw [drop_bytes s i (by omega), List.all_cons, List.drop_zero, Bool.false_or]
    cases l.any (ofB (bt s (i : Int))) <;> simp

theorem ref_ev (s : ByteArray) (l : List Int) (hl : l.length < 9223372036854775807) (hs : s.size < 9223372036854775807) : Ev (fun k => parallaxref1_All.f k s l) (allB s l) :=
  (ref_out s l hl hs s.size 0 (by omega)).to (by rw [List.drop_zero]; rfl)

theorem known_ev : Ev (fun k => parallaxlaw1_known.f k) true := Ev.of (fun k => parallaxlaw1_known.mono k) (k := 40) (by decide +kernel)

theorem texts (t l : List Int) (a2 : Int) (hl : l.length < 9223372036854775807) (ht : t.length < 9223372036854775807) (x : List ByteArray) (hx : ∀ s ∈ x, s.size < 9223372036854775807) (hn : x.length < 9223372036854775807) (d : Nat) : ∀ (i : Nat), i + d = x.length →
    Ev (fun k => parallaxlaw1_OctetKinds.l1 k t a2 l x (x.length : Int) (i : Int)) true := by
  induction d with
  | zero =>
    intro i hi
    refine Ev.step (fun _ => parallaxlaw1_OctetKinds.l1.eq_2 ..) (Ev.neg (by omega) ?_)
    refine Ev.bind (own_ev _ _ (by simp) (by decide)) (Ev.pos rfl (Ev.bind (own_ev _ _ hl (by decide)) (Ev.now _)))
  | succ d ih =>
    intro i hi
    have hw : wrap64 ((i : Int) + 1) = ((i + 1 : Nat) : Int) := wrap_nat (by omega)
    have hsz : (rdOf ByteArray.empty x (i : Int)).size < 9223372036854775807 := by
      apply hx; unfold rdOf; simp [List.getD_eq_getElem?_getD, show i < x.length by omega]
    have h1 : ([wrap64 (Int.tmod a2 8)] : List Int).length < 9223372036854775807 := by simp
    refine Ev.step (fun _ => parallaxlaw1_OctetKinds.l1.eq_2 ..) (Ev.pos (by omega) (Ev.pos (by omega) (Ev.pos (by omega) ?_)))
    refine Ev.bind (own_ev _ _ ht hsz) (Ev.bind (ref_ev _ _ ht hsz) (Ev.neg (by simp) ?_))
    refine Ev.bind (own_ev _ _ hl hsz) (Ev.bind (ref_ev _ _ hl hsz) (Ev.neg (by simp) ?_))
    refine Ev.bind (own_ev _ _ h1 hsz) (Ev.bind (ref_ev _ _ h1 hsz) (Ev.neg (by simp) ?_))
    rw [hw]; exact ih (i + 1) (by omega)

theorem kinds_in (s : ByteArray) (t : List Int) (a2 : Int) (hs : s.size ≤ 60) (ht : t.length ≤ 8) (d : Nat) : ∀ (i : Nat) (l : List Int), i + d = t.length → l.length = i →
    Ev (fun k => parallaxlaw1_OctetKinds.l0 k s t a2 l (i : Int)) true := by
  induction d with
  | zero =>
    intro i l hi hl
    refine Ev.step (fun _ => parallaxlaw1_OctetKinds.l0.eq_2 ..) (Ev.neg (by omega) (Ev.val rfl ?_))
    refine texts t l a2 (by omega) (by omega) _ ?_ (by simp) _ 0 (by rw [Nat.zero_add])
    intro x hx
    simp only [List.mem_cons, List.not_mem_nil, or_false] at hx
    rcases hx with rfl | rfl | rfl | rfl | rfl
    · omega
    all_goals decide
  | succ d ih =>
    intro i l hi hl
    have hw : wrap64 ((i : Int) + 1) = ((i + 1 : Nat) : Int) := wrap_nat (by omega)
    refine Ev.step (fun _ => parallaxlaw1_OctetKinds.l0.eq_2 ..) (Ev.pos (by omega) (Ev.pos (by omega) (Ev.pos (by omega) ?_)))
    rw [hw]; exact ih (i + 1) _ (by omega) (by simp [hl])

theorem OctetKinds : parallaxlaw1_OctetKinds.Pure := by
  intro s t a2 hs ht _ _ _
  refine Ev.rounds (g := fun k => parallaxlaw1_OctetKinds.f k s t a2) ?_
  unfold parallaxlaw1_OctetKinds.f
  refine Ev.bind known_ev (Ev.pos rfl ?_)
  by_cases h : (s.size : Int) > 60
  · exact Ev.pos h (Ev.step (fun _ => parallaxlaw1_OctetKinds.j0.eq_2 ..) (Ev.pos rfl (Ev.now _)))
  · refine Ev.neg h (Ev.step (fun _ => parallaxlaw1_OctetKinds.j0.eq_2 ..) ?_)
    by_cases h2 : (t.length : Int) > 8
    · exact Ev.pos (decide_eq_true h2) (Ev.now _)
    · exact Ev.neg (by simpa using h2) (kinds_in s t a2 (by omega) (by omega) t.length 0 [] (by omega) rfl)

end Go.Proofs.Ytjnphebgbdjohaa.Pure
