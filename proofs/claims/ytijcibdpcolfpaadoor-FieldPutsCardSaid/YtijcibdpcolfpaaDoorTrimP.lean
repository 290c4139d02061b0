/- Plain laws of texts without some bytes at their ends, and of parts. -/
import Derived.Test.YtijcibdpcolfpaaDoorParts
namespace Go.Proofs.YtijcibdpcolfpaaDoor.TrimP
open Go.RowKit Go.Proofs.YtijcibdpcolfpaaDoorW.PrintWords Go.Proofs.YtijcibdpcolfpaaDoorW.PrintLast Go.Proofs.YtijcibdpcolfpaaDoorW.PrintMore Go.Proofs.YtijcibdpcolfpaaDoor.Aid Go.Proofs.YtijcibdpcolfpaaDoor.Parts Go.Proofs.YtijcibdpcolfpaaDoor.Trim

/-- without some bytes at both ends -/
def trimU (q : UInt8 → Bool) (l : List UInt8) : List UInt8 := ((l.dropWhile q).reverse.dropWhile q).reverse
def asU (p : Int → Bool) (b : UInt8) : Bool := p (b.toNat : Int)
theorem lead_map (p : Int → Bool) (l : List UInt8) : lead p (l.map fun b => (b.toNat : Int)) = (l.takeWhile (asU p)).length := by
  unfold lead
  induction l with
  | nil => rfl
  | cons b l ih =>
    rw [List.map_cons, List.takeWhile_cons, List.takeWhile_cons]
    by_cases h : p (b.toNat : Int) = true
    · rw [if_pos h, if_pos (show asU p b = true from h), List.length_cons, List.length_cons, ih]
    · rw [if_neg h, if_neg (show ¬ asU p b = true from h)]; rfl
theorem drop_take_while (q : UInt8 → Bool) (l : List UInt8) : l.drop (l.takeWhile q).length = l.dropWhile q := by
  have h := List.takeWhile_append_dropWhile (p := q) (l := l)
  conv => lhs; rw [← h]
  rw [List.drop_append_of_le_length (by simp)]
  simp
theorem trimL_data (p : Int → Bool) (s : ByteArray) : (trimL p s).data.toList = s.data.toList.dropWhile (asU p) := by
  unfold trimL bytesOf
  rw [ext_data, lead_map, drop_take_while]
  apply List.take_of_length_le
  have h1 := (List.dropWhile_suffix (l := s.data.toList) (asU p)).length_le
  have h2 := lead_le p (bytesOf s)
  have h3 := congrArg List.length (List.takeWhile_append_dropWhile (p := asU p) (l := s.data.toList))
  rw [List.length_append, data_length] at h3
  omega
theorem trimR_data (p : Int → Bool) (s : ByteArray) : (trimR p s).data.toList = (s.data.toList.reverse.dropWhile (asU p)).reverse := by
  unfold trimR bytesOf
  rw [ext_data, ← List.map_reverse, lead_map, List.drop_zero, Nat.sub_zero, ← drop_take_while, List.reverse_drop, List.reverse_reverse, List.length_reverse, data_length]
theorem trimB_eq (p : Int → Bool) (s : ByteArray) : trimB p s = BA (trimU (asU p) s.data.toList) := by
  apply ba_inj
  rw [data_BA]
  unfold trimB trimU
  rw [trimR_data, trimL_data]
theorem dropWhile_app {q : UInt8 → Bool} {a l : List UInt8} (ha : ∀ b ∈ a, q b = true) : (a ++ l).dropWhile q = l.dropWhile q := by
  induction a with
  | nil => rfl
  | cons b a ih =>
    rw [List.cons_append, List.dropWhile_cons, if_pos (ha b (by simp))]
    exact ih (fun x hx => ha x (by simp [hx]))
/-- signs of the kind at the beginning are gone -/
theorem trimU_left {q : UInt8 → Bool} {a l : List UInt8} (ha : ∀ b ∈ a, q b = true) : trimU q (a ++ l) = trimU q l := by
  unfold trimU; rw [dropWhile_app ha]
theorem dropWhile_all {q : UInt8 → Bool} {a : List UInt8} (ha : ∀ b ∈ a, q b = true) : a.dropWhile q = [] := by
  have := dropWhile_app (l := []) ha
  simpa using this
theorem dropWhile_app_ne {q : UInt8 → Bool} (l r : List UInt8) (h : l.dropWhile q ≠ []) : (l ++ r).dropWhile q = l.dropWhile q ++ r := by
  induction l with
  | nil => exact absurd rfl h
  | cons b l ih =>
    rw [List.cons_append, List.dropWhile_cons, List.dropWhile_cons]
    by_cases hb : q b = true
    · rw [if_pos hb, if_pos hb]
      rw [List.dropWhile_cons, if_pos hb] at h
      exact ih h
    · rw [if_neg hb, if_neg hb]; rfl
theorem all_take {q : UInt8 → Bool} {l : List UInt8} {b : UInt8} (h : b ∈ l.takeWhile q) : q b = true := by
  induction l with
  | nil => simp at h
  | cons a l ih =>
    rw [List.takeWhile_cons] at h
    by_cases ha : q a = true
    · rw [if_pos ha] at h
      rcases List.mem_cons.mp h with e | e
      · rw [e]; exact ha
      · exact ih e
    · rw [if_neg ha] at h; simp at h
/-- signs of the kind at the end are gone -/
theorem trimU_right {q : UInt8 → Bool} {l r : List UInt8} (hr : ∀ b ∈ r, q b = true) : trimU q (l ++ r) = trimU q l := by
  unfold trimU
  by_cases h : l.dropWhile q = []
  · have hl : ∀ b ∈ l, q b = true := by
      intro b hb
      have := List.takeWhile_append_dropWhile (p := q) (l := l)
      rw [h, List.append_nil] at this
      rw [← this] at hb
      exact all_take hb
    rw [h, dropWhile_all (a := l ++ r) (fun b hb => by rcases List.mem_append.mp hb with x | x; exact hl b x; exact hr b x)]
  · rw [dropWhile_app_ne l r h, List.reverse_append, dropWhile_app (by simpa using hr)]
theorem dropWhile_none {q : UInt8 → Bool} {l : List UInt8} (h : ∀ b ∈ l, q b = false) : l.dropWhile q = l := by
  cases l with
  | nil => rfl
  | cons b l => rw [List.dropWhile_cons, if_neg (by rw [h b (by simp)]; simp)]
/-- a text without any sign of the kind stays -/
theorem trimU_none {q : UInt8 → Bool} {l : List UInt8} (h : ∀ b ∈ l, q b = false) : trimU q l = l := by
  unfold trimU
  rw [dropWhile_none h, dropWhile_none (by simpa using h), List.reverse_reverse]
theorem trimU_blanks {q : UInt8 → Bool} {a w b : List UInt8} (ha : ∀ x ∈ a, q x = true) (hw : ∀ x ∈ w, q x = false) (hb : ∀ x ∈ b, q x = true) : trimU q (a ++ w ++ b) = w := by
  rw [trimU_right hb, trimU_left ha, trimU_none hw]
theorem mem_dropWhile {q : UInt8 → Bool} {l : List UInt8} {b : UInt8} (h : b ∈ l.dropWhile q) : b ∈ l := (List.dropWhile_suffix q).mem h
theorem trimU_mem {q : UInt8 → Bool} {l : List UInt8} {b : UInt8} (h : b ∈ trimU q l) : b ∈ l := by
  unfold trimU at h
  rw [List.mem_reverse] at h
  have := mem_dropWhile h
  rw [List.mem_reverse] at this
  exact mem_dropWhile this
theorem trimU_len (q : UInt8 → Bool) (l : List UInt8) : (trimU q l).length ≤ l.length := by
  unfold trimU
  have h1 := (List.dropWhile_suffix (l := (l.dropWhile q).reverse) q).length_le
  have h2 := (List.dropWhile_suffix (l := l) q).length_le
  simp at *; omega
/-- parts, the last one longer -/
theorem splitU_ext (c : UInt8) (x : List UInt8) (hx : c ∉ x) (a : List UInt8) : ∀ ps z, splitU c a = ps ++ [z] → splitU c (a ++ x) = ps ++ [z ++ x] := by
  induction a with
  | nil =>
    intro ps z h
    simp only [splitU] at h
    rw [List.nil_append, splitU_none c x hx]
    cases ps with
    | nil => simp at h; subst h; simp
    | cons p ps => simp at h
  | cons b a ih =>
    intro ps z h
    rw [List.cons_append]
    unfold splitU at h ⊢
    by_cases hb : b = c
    · rw [if_pos hb] at h ⊢
      cases ps with
      | nil =>
        have := congrArg List.length h
        simp at this
        exact absurd this (splitU_ne c a)
      | cons p ps =>
        rw [List.cons_append, List.cons.injEq] at h
        rw [ih ps z h.2, ← h.1]; rfl
    · rw [if_neg hb] at h ⊢
      cases hs : splitU c a with
      | nil => exact absurd hs (splitU_ne c a)
      | cons y t =>
        rw [hs] at h
        simp only at h
        cases ps with
        | nil =>
          simp only [List.nil_append, List.cons.injEq] at h
          have := ih [] y (by rw [hs, h.2]; rfl)
          rw [this]
          simp only [List.nil_append]
          rw [← h.1]; rfl
        | cons p ps =>
          rw [List.cons_append, List.cons.injEq] at h
          have := ih (y :: ps) z (by rw [hs, h.2]; rfl)
          rw [this]
          simp only [List.cons_append]
          rw [← h.1]
theorem splitU_cons (c b : UInt8) (l : List UInt8) : splitU c (b :: l) = if b = c then [] :: splitU c l else match splitU c l with | [] => [[b]] | h :: t => (b :: h) :: t := rfl
theorem splitU_app (c : UInt8) (a y : List UInt8) : splitU c (a ++ c :: y) = splitU c a ++ splitU c y := by
  induction a with
  | nil => simp [splitU]
  | cons b a ih =>
    rw [List.cons_append, splitU_cons, splitU_cons]
    by_cases hb : b = c
    · rw [if_pos hb, if_pos hb, ih]; rfl
    · rw [if_neg hb, if_neg hb, ih]
      cases hs : splitU c a with
      | nil => exact absurd hs (splitU_ne c a)
      | cons y2 t => rfl
theorem splitU_pre (c : UInt8) (x : List UInt8) (hx : c ∉ x) (l : List UInt8) : ∀ z ps, splitU c l = z :: ps → splitU c (x ++ l) = (x ++ z) :: ps := by
  induction x with
  | nil => intro z ps h; exact h
  | cons b x ih =>
    intro z ps h
    have h1 : ¬ b = c := fun e => hx (by simp [e])
    have := ih (fun e => hx (by simp [e])) z ps h
    rw [List.cons_append]
    unfold splitU
    rw [if_neg h1, this]; rfl
end Go.Proofs.YtijcibdpcolfpaaDoor.TrimP
