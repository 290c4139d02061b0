/- strings.IndexAny at any text, at signs of ASCII. -/
import Derived.Test.YtnnehbbfokoklaaProg
import Derived.Test.YtnnehbbfokoklaaShelf
import Derived.Test.YtnnehbbfokoklaaWMore
import Derived.WalkKit
import Derived.LoopTactic
import Derived.Below
import Derived.WalkMore
import Derived.Deep.QuietTactic
import Derived.BigQuiet
import Derived.Laws.Runes
import Derived.Laws.RangeAny
import Derived.Lib.SpaceUEq
import Derived.Lib.TrimUEq
namespace Go.Proofs.Ytnnehbbfokoklaa.IdxAny
open Go Go.Proofs Go.RowKit Go.Lib Go.Proofs.YtnnehbbfokoklaaW.PrintWords Go.Proofs.YtnnehbbfokoklaaW.PrintLast Go.Proofs.YtnnehbbfokoklaaW.PrintMore
set_option linter.unusedVariables false
set_option linter.unusedSimpArgs false
theorem idx_high (s : List UInt8) (c : UInt8) (h : ∀ b ∈ s, b.toNat < 128) (hc : 128 ≤ c.toNat) : Lib.indexByte s c = -1 := by
  induction s with
  | nil => rfl
  | cons b s ih =>
    have hb := h b (by simp)
    unfold Lib.indexByte
    rw [if_neg (by intro e; have e' : b = c := by simpa using e
                   rw [e'] at hb; omega), ih (fun x hx => h x (by simp [hx]))]
    rfl
set_option maxHeartbeats 8000000 in
set_option maxRecDepth 1000000 in
theorem rune_bad (s : ByteArray) (r : Int) (w : World) (hr : 128 ≤ r) (hv : Lib.validRune r = false) (he : r ≠ 65533) :
    Calls Try.prog 40 #[.string s, .int .i32 r] w fun e w' => e = .returned (.int .i64 (-1)) ∧ Below w.heap.size w w' := by
  have e1 : decide (0 ≤ r) = true := decide_eq_true (by omega)
  have e2 : decide (r < 128) = false := decide_eq_false (by omega)
  have e3 : (r == 65533) = false := beq_eq_false_iff_ne.mpr he
  go_enter Try.func40, Try.ntmps40
  go_wp2_with (go_at_call 53; (with_reducible refine (Try.utf8_ValidRune r _).mono ?_); rintro e w' ⟨rfl, hw⟩; rw [hw, hv])
  go_ret
  exact ⟨rfl, Below.refl _ _⟩
set_option maxHeartbeats 8000000 in
set_option maxRecDepth 1000000 in
theorem rune_err (s : ByteArray) (w : World) (ha : ∀ b ∈ s.data.toList, b.toNat < 128) :
    Calls Try.prog 40 #[.string s, .int .i32 65533] w fun e w' => e = .returned (.int .i64 (-1)) ∧ Below w.heap.size w w' := by
  have HA : Aside (∀ b ∈ s.data.toList, b.toNat < 128) := ha
  clear ha
  go_enter Try.func40, Try.ntmps40
  go_wp2
  go_loopg [5, 6] s.size (fun g _ _ wx => ∃ i : Nat, i + g = s.size ∧ wx = w.iter s i)
  case atStart => exact ⟨0, by omega, rfl⟩
  case round =>
    obtain ⟨i, hig, rfl⟩ := hrel
    cases gk with
    | zero =>
      obtain rfl : i = s.size := by omega
      have hnx := run_next_end (P := Try.prog) w s s.size
      go_wp2
      go_ret
      exact ⟨rfl, (Below.refl _ _).alloc (Nat.le_refl _) _⟩
    | succ g =>
      have hi : i < s.size := by omega
      obtain ⟨x, hx⟩ : ∃ x : UInt8, s[i]'hi = x := ⟨_, rfl⟩
      have hxl : s.data.toList[i]? = some x := by rw [← hx]; exact Lib.data_getElem? s i hi
      have hx128 : x.toNat < 128 := HA.out x (List.mem_of_getElem? hxl)
      have hnx := fun ty => run_next_ascii (P := Try.prog) w s i ty hi (by rw [hx]; exact hx128)
      rw [hx] at hnx
      have hz : ((x.toNat : Int) == 65533) = false := beq_eq_false_iff_ne.mpr (by omega)
      clear hxl hx
      go_wp2
      go_roundg g
      case measure => omega
      case rel => exact ⟨i + 1, by omega, rfl⟩
set_option maxHeartbeats 8000000 in
set_option maxRecDepth 1000000 in
theorem rune_good (s : ByteArray) (r : Int) (w : World) (hr : 128 ≤ r) (hv : Lib.validRune r = true) (he : r ≠ 65533) (ha : ∀ b ∈ s.data.toList, b.toNat < 128) (hs : s.size < 4294967281) :
    Calls Try.prog 40 #[.string s, .int .i32 r] w fun e w' => e = .returned (.int .i64 (-1)) ∧ Below w.heap.size w w' := by
  have e1 : decide (0 ≤ r) = true := decide_eq_true (by omega)
  have e2 : decide (r < 128) = false := decide_eq_false (by omega)
  have e3 : (r == 65533) = false := beq_eq_false_iff_ne.mpr he
  obtain ⟨f1, f2, f3⟩ := encode_facts r (by rw [validRune_eq]; exact hv) hr
  have HA : Aside (∀ b ∈ s.data.toList, b.toNat < 128) := ha
  clear ha
  obtain ⟨E, hE⟩ : ∃ E, Utf8.encode r = E := ⟨_, rfl⟩
  rw [hE] at f1 f2 f3
  obtain ⟨n, hn⟩ : ∃ n : Nat, E.size = n + 1 := ⟨E.size - 1, by omega⟩
  have u21 : (Try.prog.underlying 21).isSome = true := by kernel_rfl
  have u9 : Try.prog.underlying 9 = some .string := by kernel_rfl
  have hcv : ∀ w, (convert 21 9 (.int .i32 r)).run Try.prog w = .ok (.string E) w := fun w => by rw [run_convert_int_string w 21 9 .i32 r u21 u9, hE]
  have hn1 : IntKind.i64.wrap ((E.size : Int) - 1) = (n : Int) := by rw [show (E.size : Int) - 1 = (n : Int) by omega]; exact wrap_small _ (by omega) (by omega)
  obtain ⟨c, hc⟩ : ∃ c : UInt8, E[n]'(by omega) = c := ⟨_, rfl⟩
  have hch : 128 ≤ c.toNat := by
    have := f3 (by omega)
    rw [← hc]
    simpa [hn] using this
  clear f3 hE
  have HC : Aside (128 ≤ c.toNat) := hch
  clear hch
  go_enter Try.func40, Try.ntmps40
  go_wp2_with (go_at_call 53; (with_reducible refine (Try.utf8_ValidRune r _).mono ?_); rintro e w' ⟨rfl, hw⟩; rw [hw, hv])
  go_step3
  go_wp2
  go_loopg [9, 10] 1 (fun g s9 s10 wx => s9 = .int .i64 n ∧ s10 = .int .i64 0 ∧ wx = w)
  case atStart => exact ⟨rfl, rfl, rfl⟩
  case round =>
    obtain ⟨rfl, rfl, rfl⟩ := hrel
    by_cases hlt : n < s.size
    · have d1 : decide ((n : Int) < (s.size : Int)) = true := decide_eq_true (by omega)
      obtain ⟨x, hx⟩ : ∃ x : UInt8, s[n]'hlt = x := ⟨_, rfl⟩
      have hxm : x ∈ s.data.toList := by rw [← hx]; exact List.mem_of_getElem? (Lib.data_getElem? s n hlt)
      have hxc : ((x.toNat : Int) != (c.toNat : Int)) = true := by
        have := HA.out x hxm
        have := HC.out
        rw [bne_iff_ne]; omega
      have hI : ∀ k : Nat, Lib.indexByte (s.extract k s.size).data.toList c = -1 := fun k => idx_high _ _ (fun b hb => HA.out b (mem_extract hb)) HC.out
      have d2 : (n : Int) < (s.size : Int) := by omega
      have d3 : (n : Int) < (E.size : Int) := by omega
      have d4 : IntKind.i64.wrap ((n : Int) + 1) = (n : Int) + 1 := wrap_small _ (by omega) (by omega)
      have d5 : (n : Int) + 1 ≤ (s.size : Int) := by omega
      have d7 : (0 : Int) ≤ (n : Int) + 1 := by omega
      have d8 : ((n : Int) + 1).toNat = n + 1 := by omega
      have d9 : n + 1 ≤ s.size := by omega
      have d10 : ((n : Int) < (n : Int) + 1) = True := eq_true (by omega)
      have d6 : ((c.toNat : Int)).toNat.toUInt8 = c := by simp
      have HIB : Aside (∀ (k : Nat) (W : World), Calls Try.prog 48 #[.string (s.extract k s.size), .int .u8 (c.toNat : Int)] W fun e w' => e = .returned (.int .i64 (-1)) ∧ w' = W) := fun k W =>
        (Try.strings_IndexByte _ _ W).mono (fun e w' hh => ⟨by rw [hh.1, d6, hI], hh.2⟩)
      clear hxm hI d6
      go_wp2
      go_step3
      go_wp2
      go_quiet (fail)
      go_wp2
      go_quiet ((go_at_call 48; refine (HIB.out _ _).mono ?_; rintro e w' ⟨rfl, hw⟩; exact ⟨rfl, _, hw⟩))
      go_wp2
      rw [Exit.noGoto_ret]
      go_wp2
      rw [Exit.noGoto_ret]
      go_ret
      exact ⟨rfl, by repeat (first | (with_reducible first | exact Below.refl _ _ | apply pw_below_drewN | apply below_drew1) | exact Below.refl _ _)⟩
    · have d1 : decide ((n : Int) < (s.size : Int)) = false := decide_eq_false (by omega)
      go_wp2
      rw [Exit.noGoto_ret]
      go_ret
      exact ⟨rfl, Below.refl _ _⟩
theorem rune_any (s : ByteArray) (r : Int) (w : World) (hr : 128 ≤ r) (ha : ∀ b ∈ s.data.toList, b.toNat < 128) (hs : s.size < 4294967281) :
    Calls Try.prog 40 #[.string s, .int .i32 r] w fun e w' => e = .returned (.int .i64 (-1)) ∧ Below w.heap.size w w' := by
  by_cases he : r = 65533
  · subst he; exact rune_err s w ha
  · cases hv : Lib.validRune r with
    | true => exact rune_good s r w hr hv he ha hs
    | false => exact rune_bad s r w hr hv he
/-- an iterator that has gone on -/
def turned (W : World) (B : Nat) (s : ByteArray) (p : Nat) : World := { W with heap := W.heap.setIfInBounds B (.stringIter s p) }
theorem next_at (W : World) (B : Nat) (s : ByteArray) (pos : Nat) (ty : TypeId) (hb : W.heap[B]? = some (.stringIter s pos)) (h : pos < s.size) :
    (Instr.next (.pointer (some ⟨B, 0, none⟩)) true ty).run Try.prog W = .ok (.tuple #[.bool true, .int .i64 pos, .int .i32 (Utf8.decode s pos).1]) (turned W B s (pos + (Utf8.decode s pos).2)) := by
  simp only [Instr.next, getObj, setObj, Sem.run_bind, Sem.run, hb, Result.andThen, h, if_true]
  simp [goInt, turned]
theorem next_end (W : World) (B : Nat) (s : ByteArray) (pos : Nat) (ty : TypeId) (hb : W.heap[B]? = some (.stringIter s pos)) (h : ¬ pos < s.size) :
    (Instr.next (.pointer (some ⟨B, 0, none⟩)) true ty).run Try.prog W = .ok (.tuple #[.bool false]) W := by
  simp [Instr.next, getObj, Sem.run, hb, h]
theorem turned_at {W : World} {B : Nat} {s : ByteArray} {p q : Nat} (hb : W.heap[B]? = some (.stringIter s p)) : (turned W B s q).heap[B]? = some (.stringIter s q) := by
  have hlt : B < W.heap.size := (Array.getElem?_eq_some_iff.mp hb).1
  show (W.heap.setIfInBounds B (.stringIter s q))[B]? = _
  simp [Array.getElem?_setIfInBounds, hlt]
theorem turned_below {W : World} {B : Nat} {s : ByteArray} {q : Nat} : Below B W (turned W B s q) := by
  refine ⟨rfl, rfl, rfl, ?_, fun k hk => ?_⟩
  · show _ ≤ (W.heap.setIfInBounds B (.stringIter s q)).size
    simp
  · show (W.heap.setIfInBounds B (.stringIter s q))[k]? = _
    rw [Array.getElem?_setIfInBounds]
    have : ¬ B = k := by omega
    simp [this]
/-- the bytes of a rune beyond ASCII -/
theorem high_bytes (s : ByteArray) (i : Nat) (hi : i < s.size) (hb : 128 ≤ (s[i]'hi).toNat) : ∀ j x, j < (Utf8.decode s i).2 → s.data.toList[i + j]? = some x → 128 ≤ x.toNat := by
  intro j x hj hx
  cases j with
  | zero =>
    have := Lib.data_getElem? s i hi
    rw [Nat.add_zero, this] at hx
    obtain rfl := Option.some.inj hx
    exact hb
  | succ j =>
    rw [Lib.decode_N] at hj
    obtain ⟨c1, c2, c3, c4⟩ := Lib.decodeN_conts (s.data.toList.length - i) (s.data.toList.getD i 0).toNat (s.data.toList.getD (i + 1) 0).toNat (s.data.toList.getD (i + 2) 0).toNat (s.data.toList.getD (i + 3) 0).toNat
    have hg : ∀ k, k = i + (j + 1) → (s.data.toList.getD k 0).toNat = x.toNat := fun k hk => by
      rw [hk, List.getD_eq_getElem?_getD, hx]; rfl
    rcases (by omega : j = 0 ∨ j = 1 ∨ j = 2) with rfl | rfl | rfl
    · have := (c1 (by omega)).1; rw [hg _ rfl] at this; omega
    · have := (c2 (by omega)).1; rw [hg _ rfl] at this; omega
    · have := (c3 (by omega)).1; rw [hg _ rfl] at this; omega
theorem decode_width_le (s : ByteArray) (i : Nat) (hi : i < s.size) : i + (Utf8.decode s i).2 ≤ s.size := by
  rw [Lib.decode_N]
  obtain ⟨c1, c2, c3, c4⟩ := Lib.decodeN_conts (s.data.toList.length - i) (s.data.toList.getD i 0).toNat (s.data.toList.getD (i + 1) 0).toNat (s.data.toList.getD (i + 2) 0).toNat (s.data.toList.getD (i + 3) 0).toNat
  have hl : s.data.toList.length = s.size := (Lib.size_eq s).symm
  generalize (Lib.decodeN (s.data.toList.length - i) (s.data.toList.getD i 0).toNat (s.data.toList.getD (i + 1) 0).toNat (s.data.toList.getD (i + 2) 0).toNat (s.data.toList.getD (i + 3) 0).toNat).2 = q at *
  rw [hl] at c1 c2 c3
  rcases (by omega : q ≤ 1 ∨ q = 2 ∨ q = 3 ∨ q = 4) with h | h | h | h
  · omega
  · have := (c1 (by omega)).2; omega
  · have := (c2 (by omega)).2; omega
  · have := (c3 (by omega)).2; omega
theorem noAny_on {s chars : List UInt8} {i : Nat} (h : Lib.NoAny s chars i) (m : Nat) (hc : ∀ j x, j < m → s[i + j]? = some x → chars.contains x = false) : Lib.NoAny s chars (i + m) := by
  intro j b hj hb
  by_cases h1 : j < i
  · exact h j b h1 hb
  · obtain ⟨d, rfl⟩ : ∃ d, j = i + d := ⟨j - i, by omega⟩
    exact hc d b (by omega) hb
set_option maxHeartbeats 8000000 in
set_option maxRecDepth 1000000 in
/-- strings.IndexAny of a short text, any bytes, at signs of ASCII -/
theorem short_any (s chars : ByteArray) (w : World) (h2 : 2 ≤ chars.size) (hcs : chars.size < 4294967281) (h8 : s.size ≤ 8) (hac : ∀ b ∈ chars.data.toList, b.toNat < 128) :
    Calls Try.prog 24 #[.string s, .string chars] w fun e w' => e = .returned (.int .i64 (Lib.indexAny s.data.toList chars.data.toList)) ∧ Below w.heap.size w w' := by
  have HA : Aside (∀ b ∈ chars.data.toList, b.toNat < 128) := hac
  have HCS : Aside (chars.size < 4294967281) := hcs
  clear hac hcs
  have hemp : chars.toList.isEmpty = false := by
    rw [Lib.toList_data]
    cases h : chars.data.toList with
    | nil => have := Lib.size_eq chars; rw [h, List.length_nil] at this; omega
    | cons _ _ => rfl
  have hn1 : ((chars.size : Int) == 1) = false := beq_eq_false_iff_ne.2 (by omega)
  have h8z : decide ((8 : Int) < (s.size : Int)) = false := decide_eq_false (by omega)
  go_enter Try.func24, Try.ntmps24
  go_wp2_with (go_at_call 41; (with_reducible refine (Try.strings_shouldUseASCIISet _ _).mono ?_); rintro e w' ⟨rfl, hw⟩; rw [hw, h8z])
  go_loopg [9, 10] s.size (fun g _ _ wx => ∃ i : Nat, s.size ≤ i + g ∧ i ≤ s.size ∧ Aside (wx.heap[w.heap.size]? = some (.stringIter s i)) ∧ Aside (Below w.heap.size w wx) ∧ Aside (Lib.NoAny s.data.toList chars.data.toList i))
  case atStart => exact ⟨0, by omega, by omega, World.iter_heap w s 0, (Below.refl _ _).alloc (Nat.le_refl _) _, Lib.NoAny.zero _ _⟩
  case round =>
    obtain ⟨i, hig, hil, hit, hbl, HN⟩ := hrel
    by_cases hi : i < s.size
    · cases gk with
      | zero => omega
      | succ g =>
      obtain ⟨x, hx⟩ : ∃ x : UInt8, s[i]'hi = x := ⟨_, rfl⟩
      have hxl : s.data.toList[i]? = some x := by rw [← hx]; exact Lib.data_getElem? s i hi
      have hnx := fun ty => next_at wr w.heap.size s i ty hit.out hi
      have hit2 := turned_at (q := i + (Utf8.decode s i).2) hit.out
      have hbl2 := hbl.out.trans (turned_below (W := wr) (B := w.heap.size) (s := s) (q := i + (Utf8.decode s i).2))
      obtain ⟨W2, hW2⟩ : ∃ W2, turned wr w.heap.size s (i + (Utf8.decode s i).2) = W2 := ⟨_, rfl⟩
      rw [hW2] at hit2 hbl2
      simp only [hW2] at hnx
      clear hW2
      have Hx : Aside (s.data.toList[i]? = some x) := hxl
      by_cases h128 : x.toNat < 128
      · have hdc := decode_ascii s i hi (by rw [hx]; exact h128)
        rw [hx] at hdc
        rw [hdc] at hnx hit2
        have HIT : Aside (W2.heap[w.heap.size]? = some (.stringIter s (i + 1))) := hit2
        have HBL : Aside (Below w.heap.size w W2) := hbl2
        have hcon := Lib.contains_iff_indexByte chars.data.toList x
        have hback : ((x.toNat : Int)).toNat.toUInt8 = x := by simp
        clear hxl hx hdc hit2 hbl2
        cases hin : chars.data.toList.contains x
        · rw [hin] at hcon
          have hlt : ¬ ((0 : Int) ≤ Lib.indexByte chars.data.toList x) := of_decide_eq_false hcon.symm
          clear hcon
          go_wp2_with (go_at_call 40; (with_reducible refine (Try.strings_IndexRune_ascii _ _ _ (by omega) (by omega)).mono ?_); rintro e w' ⟨rfl, hw⟩; rw [hw, hback])
          go_roundg g
          case measure => omega
          case rel => exact ⟨i + 1, by omega, by omega, HIT, HBL, HN.out.succ Hx.out hin⟩
        · rw [hin] at hcon
          have hge : (0 : Int) ≤ Lib.indexByte chars.data.toList x := of_decide_eq_true hcon.symm
          clear hcon
          go_wp2_with (go_at_call 40; (with_reducible refine (Try.strings_IndexRune_ascii _ _ _ (by omega) (by omega)).mono ?_); rintro e w' ⟨rfl, hw⟩; rw [hw, hback])
          go_ret
          exact ⟨by rw [Lib.indexAny_hit HN.out Hx.out hin]; rfl, HBL.out⟩
      · obtain ⟨d1, d2⟩ := decode_high s i hi (by rw [hx]; omega)
        have hw1 := decode_width_le s i hi
        have hby := high_bytes s i hi (by rw [hx]; omega)
        obtain ⟨r, hr⟩ : ∃ r, (Utf8.decode s i).1 = r := ⟨_, rfl⟩
        obtain ⟨q, hq⟩ : ∃ q, (Utf8.decode s i).2 = q := ⟨_, rfl⟩
        rw [hr] at hnx d1
        rw [hq] at hit2 d2 hw1 hby
        have hno : Lib.NoAny s.data.toList chars.data.toList (i + q) := noAny_on HN.out q (fun j y hj hy => by
          have h1 := hby j y hj hy
          cases hc : chars.data.toList.contains y with
          | false => rfl
          | true =>
            have := HA.out y (by simpa using hc)
            omega)
        have HNO : Aside (Lib.NoAny s.data.toList chars.data.toList (i + q)) := hno
        have HIT : Aside (W2.heap[w.heap.size]? = some (.stringIter s (i + q))) := hit2
        have HBL : Aside (Below w.heap.size w W2) := hbl2
        have HR : Aside ((128 : Int) ≤ (r : Int)) := (show (128 : Int) ≤ (r : Int) by omega)
        clear hxl hx hby hno hr hq hit2 hbl2
        go_wp2_with (go_at_call 40; (with_reducible refine (rune_any _ _ _ ?hr_ HA.out HCS.out).mono ?_); (case hr_ => exact HR.out); rintro e w1 ⟨rfl, hw⟩)
        have HW : Aside (Below W2.heap.size W2 w1) := hw
        clear hw
        go_roundg g
        case measure => omega
        case rel =>
          have hlt : w.heap.size < W2.heap.size := (Array.getElem?_eq_some_iff.mp HIT.out).1
          have hz := HW.out
          exact ⟨i + q, by omega, by omega, (hz.block _ hlt).trans HIT.out, HBL.out.trans ⟨hz.os, hz.tape, hz.output, hz.size, fun k hk => hz.block k (by omega)⟩, HNO⟩
    · obtain rfl : i = s.size := by omega
      have hnx := fun ty => next_end wr w.heap.size s s.size ty hit.out hi
      go_wp2
      go_ret
      exact ⟨by rw [Lib.indexAny_none (by rw [← Lib.size_eq]; exact HN.out)]; rfl, hbl.out⟩
theorem any_text (s chars : ByteArray) (w : World) (h2 : 2 ≤ chars.size) (hs : s.size < 4294967281) (hcs : chars.size < 4294967281) (hac : ∀ b ∈ chars.data.toList, b.toNat < 128) :
    Calls Try.prog 24 #[.string s, .string chars] w fun e w' => e = .returned (.int .i64 (Lib.indexAny s.data.toList chars.data.toList)) ∧ Below w.heap.size w w' := by
  by_cases h8 : s.size ≤ 8
  · exact short_any s chars w h2 hcs h8 hac
  · have h61 : (Try.prog.info? 61).map (fun i => (i.zero, i.size)) = some (some (.agg (Array.replicate 256 (.bool false))), 256) := by kernel_rfl
    refine (Try.strings_IndexAny_long (zero_of_info h61).1 s chars w h2 (by omega) hs hcs (fun j b hb => hac b (List.mem_of_getElem? hb))).mono fun e w' ⟨h1, h2⟩ => ⟨h1, ?_⟩
    rw [h2]
    exact ((Below.refl _ _).alloc (Nat.le_refl _) _).alloc (by simp) _
end Go.Proofs.Ytnnehbbfokoklaa.IdxAny
