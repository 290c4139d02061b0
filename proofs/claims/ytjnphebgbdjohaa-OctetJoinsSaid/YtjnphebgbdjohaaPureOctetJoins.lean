/- It is proved that OctetJoins answers true for all texts and kinds: a text is of some kinds just if each half is. -/
import Derived.Test.YtjnphebgbdjohaaPOctetJoinsx3
import Derived.Test.YtjnphebgbdjohaaAid
namespace Go.Proofs.Ytjnphebgbdjohaa.Pure
open Go.RowKit Go.Proofs.Ytjnphebgbdjohaa.POctetJoins Go.Proofs.YtjnphebgbdjohaaW.PrintWords Go.Proofs.YtjnphebgbdjohaaW.PrintLast Go.Proofs.Ytjnphebgbdjohaa.Aid

/-- is a byte of a kind? -/
def ofB (c kind : Int) : Bool := (octet_of.f c kind).getD false
/-- is each byte of a text of one of some kinds? -/
def allB (s : ByteArray) (l : List Int) : Bool := (bytesOf s).all fun c => l.any (ofB c)


theorem of_k (kind : Fin 8) : ∀ n : Fin 256, octet_of.f (n.val : Int) (kind.val : Int) = some (ofB (n.val : Int) (kind.val : Int)) := by
  revert kind; decide +kernel

theorem of_far {c kind : Int} (h : ¬ (1 ≤ kind ∧ kind ≤ 6)) : octet_of.f c kind = some false := by
  unfold octet_of.f
  rw [if_neg (by omega), if_neg (by omega), if_neg (by omega), if_neg (by omega), if_neg (by omega), if_neg (by omega)]

theorem of_some {c : Int} (h0 : 0 ≤ c) (h1 : c < 256) (kind : Int) : octet_of.f c kind = some (ofB c kind) := by
  by_cases hk : 0 ≤ kind ∧ kind < 8
  · have := byte_all (p := fun c => octet_of.f c kind = some (ofB c kind)) (fun n => by
      have := of_k ⟨kind.toNat, by omega⟩ n
      rwa [show ((⟨kind.toNat, by omega⟩ : Fin 8).val : Int) = kind by simp; omega] at this) h0 h1
    exact this
  · have := of_far (c := c) (kind := kind) (by omega)
    unfold ofB; rw [this]; rfl

/-- one text's byte against the kinds from the j-th on -/
theorem own_in (s : ByteArray) (l : List Int) (hl : l.length < 9223372036854775807) (hs : s.size < 9223372036854775807) (i : Nat) (hi : i < s.size) (R : Bool)
    (hR : Ev (fun k => octet_All.l0 k s l (s.size : Int) ((i + 1 : Nat) : Int)) R) (d : Nat) : ∀ (j : Nat) (b : Bool), j + d = l.length →
    Ev (fun k => octet_All.l1 k s l (i : Int) b (s.size : Int) (i : Int) l (l.length : Int) (j : Int)) (if (b || (l.drop j).any (ofB (bt s (i : Int)))) = true then R else false) := by
  induction d with
  | zero =>
    intro j b hj
    refine Ev.step (fun _ => octet_All.l1.eq_2 ..) (Ev.neg (by omega) ?_)
    rw [List.drop_of_length_le (by omega), List.any_nil, Bool.or_false, wrap_nat (by omega)]
    exact Ev.cond (fun _ => hR) (fun _ => Ev.now _)
  | succ d ih =>
    intro j b hj
    have hw : wrap64 ((j : Int) + 1) = ((j + 1 : Nat) : Int) := wrap_nat (by omega)
    refine Ev.step (fun _ => octet_All.l1.eq_2 ..) (Ev.pos (by omega) (Ev.pos (by omega) (Ev.pos (by omega) ?_)))
    rw [drop_rd l j (by omega), List.any_cons, hw]
    cases b with
    | true => exact Ev.pos rfl ((ih (j + 1) true (by omega)).to (by simp))
    | false =>
      refine Ev.neg (by simp) (Ev.pos (by omega) (Ev.pos (by omega) ?_))
      have := bt_lt s (i : Int)
      exact Ev.val (of_some this.1 this.2 _) ((ih (j + 1) _ (by omega)).to (by rw [Bool.false_or]))

theorem own_out (s : ByteArray) (l : List Int) (hl : l.length < 9223372036854775807) (hs : s.size < 9223372036854775807) (d : Nat) : ∀ (i : Nat), i + d = s.size →
    Ev (fun k => octet_All.l0 k s l (s.size : Int) (i : Int)) (((bytesOf s).drop i).all fun c => l.any (ofB c)) := by
  induction d with
  | zero =>
    intro i hi
    refine Ev.step (fun _ => octet_All.l0.eq_2 ..) (Ev.neg (by omega) ?_)
    rw [List.drop_of_length_le (by rw [bytesOf_length]; omega)]; exact Ev.now _
  | succ d ih =>
    intro i hi
    refine Ev.step (fun _ => octet_All.l0.eq_2 ..) (Ev.pos (by omega) ?_)
    refine (own_in s l hl hs i (by omega) _ (ih (i + 1) (by omega)) l.length 0 false (by omega)).to ?_
    rw [drop_bytes s i (by omega), List.all_cons, List.drop_zero, Bool.false_or]
    cases l.any (ofB (bt s (i : Int))) <;> simp

theorem own_ev (s : ByteArray) (l : List Int) (hl : l.length < 9223372036854775807) (hs : s.size < 9223372036854775807) : Ev (fun k => octet_All.f k s l) (allB s l) :=
  (own_out s l hl hs s.size 0 (by omega)).to (by rw [List.drop_zero]; rfl)

theorem all_app (s t : ByteArray) (l : List Int) : allB (s ++ t) l = (allB s l && allB t l) := by
  unfold allB bytesOf
  rw [show (s ++ t).data.toList = s.data.toList ++ t.data.toList by simp [ByteArray.data_append], List.map_append, List.all_append]
theorem all_far (s : ByteArray) (l : List Int) (h : ∀ x ∈ l, ¬ (1 ≤ x ∧ x ≤ 6)) : allB s l = (s.toList == ([] : List UInt8)) := by
  have e : (fun c => l.any (ofB c)) = fun _ : Int => false := by
    funext c; rw [List.any_eq_false]; intro x hx; unfold ofB; rw [of_far (h x hx)]; simp
  unfold allB; rw [e, ByteArray.toList_eq]; unfold bytesOf
  cases s.data.toList <;> simp
theorem all_swap (s : ByteArray) (x y : Int) : allB s [y, x] = allB s [x, y] := by
  unfold allB; congr 1; funext c; simp [Bool.or_comm]
theorem all_more (s : ByteArray) (x y : Int) (h : allB s [x] = true) : allB s [x, y] = true := by
  unfold allB at h ⊢
  rw [List.all_eq_true] at h ⊢
  intro c hc; have := h c hc; simp at this; simp [this]

theorem known_ev : Ev (fun k => parallaxlaw1_known.f k) true := Ev.of (fun k => parallaxlaw1_known.mono k) (k := 40) (by decide +kernel)

/-- order is nothing, and what is no kind takes no byte -/
theorem rest (s : ByteArray) (hs : s.size ≤ 1000) (x y : Int) : Ev (fun k => if 1 < (([x, y] : List Int).length : Int) then ((octet_All.f k s (([rd ([x, y] : List Int) 1, rd ([x, y] : List Int) 0] : List Int))).bind fun t195 => ((octet_All.f k s ([x, y] : List Int)).bind fun t196 => (if (t195 == t196) = true then ((octet_All.f k s ([] : List Int)).bind fun t197 => (if (t197 == (s.toList == ([] : List UInt8))) = true then ((octet_All.f k s (([0, 7, (-1)] : List Int))).bind fun t201 => (some (t201 == (s.toList == ([] : List UInt8))))) else (some false))) else (some false)))) else (none)) true := by
  refine Ev.pos (by simp) (Ev.bind (own_ev s [y, x] (by simp) (by omega)) (Ev.bind (own_ev s [x, y] (by simp) (by omega)) (Ev.pos (by rw [all_swap]; simp) ?_)))
  refine Ev.bind (own_ev s [] (by simp) (by omega)) (Ev.pos (by rw [all_far s [] (by simp)]; simp) (Ev.bind (own_ev s [0, 7, -1] (by simp) (by omega)) ((Ev.now _).to ?_)))
  rw [all_far s _ (by simp)]; simp
theorem rest2 (s : ByteArray) (hs : s.size ≤ 1000) (x y : Int) {f : Nat → Option Bool} (hf : Ev f true) : Ev (fun k => if 0 < (([x, y] : List Int).length : Int) then ((octet_All.f k s (([rd ([x, y] : List Int) 0] : List Int))).bind fun t176 => (if t176 = true then ((octet_All.f k s ([x, y] : List Int)).bind fun t177 => (if t177 = true then f k else (some false))) else f k)) else none) true := by
  refine Ev.pos (by simp) (Ev.bind (own_ev s [x] (by simp) (by omega)) ?_)
  by_cases h : allB s [x] = true
  · exact Ev.pos h (Ev.bind (own_ev s [x, y] (by simp) (by omega)) (Ev.pos (all_more s x y h) hf))
  · exact Ev.neg h hf

theorem OctetJoins : parallaxlaw1_OctetJoins.Pure := by
  intro s t a b hs ht _ _
  refine Ev.rounds (g := fun k => parallaxlaw1_OctetJoins.f k s t a b) ?_
  unfold parallaxlaw1_OctetJoins.f
  have hw : wrap64 ((s.size : Int) + (t.size : Int)) = ((s.size + t.size : Nat) : Int) := by rw [wrap_in (i := (s.size : Int) + (t.size : Int)) (by omega) (by omega)]; omega
  refine Ev.bind known_ev (Ev.pos rfl ?_)
  rw [hw]
  clear hw
  by_cases h : ((s.size + t.size : Nat) : Int) > 100
  · exact Ev.pos h (Ev.now _)
  refine Ev.neg h (Ev.val rfl (Ev.pos (by omega) ?_))
  generalize wrap64 ((wrap64 (Int.tmod a 6)) + 1) = x
  generalize wrap64 ((wrap64 (Int.tmod b 6)) + 1) = y
  have hz : (s ++ t).size = s.size + t.size := ByteArray.size_append
  refine Ev.bind (own_ev (s ++ t) [x, y] (by simp) (by omega)) (Ev.bind (own_ev s [x, y] (by simp) (by omega)) ?_)
  have hr := rest2 s (by omega) x y (rest s (by omega) x y)
  rw [all_app]
  by_cases h1 : allB s [x, y] = true
  · refine Ev.pos h1 (Ev.bind (own_ev t [x, y] (by simp) (by omega)) (Ev.pos (by rw [h1]; simp) ?_))
    exact hr
  · refine Ev.neg h1 (Ev.pos (by rw [Bool.eq_false_iff.mpr h1]; simp) ?_)
    exact hr

end Go.Proofs.Ytjnphebgbdjohaa.Pure
