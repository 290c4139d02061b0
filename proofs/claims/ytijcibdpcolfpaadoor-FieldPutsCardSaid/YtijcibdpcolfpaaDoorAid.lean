/- Small plain lemmas that this session's proofs share: what a function with rounds comes to, step by step. -/
import Derived.Test.YtijcibdpcolfpaaDoorWMore
namespace Go.Proofs.YtijcibdpcolfpaaDoorW.PrintWords
open Go.RowKit

theorem Ev.pos {α : Type} {c : Prop} [Decidable c] {f g : Nat → Option α} {r : α} (hc : c) (h : Ev f r) : Ev (fun k => if c then f k else g k) r := by
  simp only [if_pos hc]; exact h
theorem Ev.neg {α : Type} {c : Prop} [Decidable c] {f g : Nat → Option α} {r : α} (hc : ¬ c) (h : Ev g r) : Ev (fun k => if c then f k else g k) r := by
  simp only [if_neg hc]; exact h
theorem Ev.cond {α : Type} {c : Prop} [Decidable c] {f g : Nat → Option α} {r s : α} (h : c → Ev f r) (h' : ¬ c → Ev g s) : Ev (fun k => if c then f k else g k) (if c then r else s) := by
  by_cases hc : c
  · simp only [if_pos hc]; exact h hc
  · simp only [if_neg hc]; exact h' hc
theorem Ev.val {α β : Type} {a : Option α} {f : Nat → α → Option β} {x : α} {r : β} (h : a = some x) (k : Ev (fun n => f n x) r) : Ev (fun n => a.bind (f n)) r := by
  subst h; exact k
theorem Ev.some_ {α : Type} {a : Option α} {r : α} (h : a = some r) : Ev (fun _ => a) r := ⟨0, fun _ _ => h⟩
theorem Ev.det {α : Type} {g : Nat → Option α} {a b : α} (h : Ev g a) (h' : Ev g b) : a = b := by
  obtain ⟨k, hk⟩ := h; obtain ⟨k', hk'⟩ := h'
  have x := hk (max k k') (Nat.le_max_left ..); have y := hk' (max k k') (Nat.le_max_right ..)
  rw [x] at y; exact Option.some.inj y
theorem Ev.to {α : Type} {g : Nat → Option α} {a b : α} (h : Ev g a) (e : a = b) : Ev g b := e ▸ h
end Go.Proofs.YtijcibdpcolfpaaDoorW.PrintWords
namespace Go.Proofs.YtijcibdpcolfpaaDoor.Aid
open Go.RowKit Go.Proofs.YtijcibdpcolfpaaDoorW.PrintWords Go.Proofs.YtijcibdpcolfpaaDoorW.PrintLast Go.Proofs.YtijcibdpcolfpaaDoorW.PrintMore
theorem wrap_in {i : Int} (h0 : -9223372036854775808 ≤ i) (h : i ≤ 9223372036854775807) : wrap64 i = i := by unfold wrap64; omega
theorem wrap_succ {i : Int} (h0 : 0 ≤ i) (h : i < 9223372036854775807) : wrap64 (i + 1) = i + 1 := wrap_in (by omega) (by omega)
theorem wrap_nat {i : Nat} (h : i < 9223372036854775807) : wrap64 ((i : Int) + 1) = ((i + 1 : Nat) : Int) := by rw [wrap_succ (by omega) (by omega)]; omega
theorem u8_wf {a : Int} (h : (Lit.int .u8 a).wf = true) : 0 ≤ a ∧ a < 256 := by
  have e1 : IntKind.u8.min = 0 := by decide
  have e2 : IntKind.u8.max = 255 := by decide
  simp only [Lit.wf, e1, e2, Bool.and_eq_true, decide_eq_true_eq] at h
  omega
theorem u32_wf {a : Int} (h : (Lit.int .u32 a).wf = true) : 0 ≤ a ∧ a < 4294967296 := by
  have e1 : IntKind.u32.min = 0 := by decide
  have e2 : IntKind.u32.max = 4294967295 := by decide
  simp only [Lit.wf, e1, e2, Bool.and_eq_true, decide_eq_true_eq] at h
  omega
theorem i64_wf {a : Int} (h : (Lit.int .i64 a).wf = true) : -9223372036854775808 ≤ a ∧ a ≤ 9223372036854775807 := by
  have e1 : IntKind.i64.min = -9223372036854775808 := by decide
  have e2 : IntKind.i64.max = 9223372036854775807 := by decide
  simp only [Lit.wf, e1, e2, Bool.and_eq_true, decide_eq_true_eq] at h
  omega
/-- what holds of each of the 256 bytes, asked as a whole number -/
theorem byte_all {p : Int → Prop} (h : ∀ n : Fin 256, p (n.val : Int)) {a : Int} (h0 : 0 ≤ a) (h1 : a < 256) : p a := by
  have := h ⟨a.toNat, by omega⟩
  rwa [show ((⟨a.toNat, by omega⟩ : Fin 256).val : Int) = a by simp; omega] at this
theorem bt_lt (s : ByteArray) (i : Int) : 0 ≤ bt s i ∧ bt s i < 256 := by have := bt_range s i; omega
theorem bt_nat (s : ByteArray) (i : Nat) (h : i < s.size) : bt s (i : Int) = ((s[i]'h).toNat : Int) := by
  unfold bt; rw [dif_pos (show ((i : Int).toNat < s.size) by omega)]; rfl
theorem rd_nat (l : List Int) (i : Nat) : rd l (i : Int) = l.getD i 0 := rfl
theorem drop_rd (l : List Int) (i : Nat) (h : i < l.length) : l.drop i = rd l (i : Int) :: l.drop (i + 1) := by
  rw [rd_nat, List.drop_eq_getElem_cons h]; simp [List.getD_eq_getElem?_getD, h]
theorem drop_rdOf {α : Type} (d : α) (l : List α) (i : Nat) (h : i < l.length) : l.drop i = rdOf d l (i : Int) :: l.drop (i + 1) := by
  unfold rdOf; rw [List.drop_eq_getElem_cons h]; simp [List.getD_eq_getElem?_getD, h]
theorem drop_bytes (s : ByteArray) (i : Nat) (h : i < s.size) : (bytesOf s).drop i = bt s (i : Int) :: (bytesOf s).drop (i + 1) := by
  rw [drop_rd _ _ (by rw [bytesOf_length]; exact h), rd_bytesOf]
theorem bytes_lt (s : ByteArray) {c : Int} (h : c ∈ bytesOf s) : 0 ≤ c ∧ c < 256 := by
  unfold bytesOf at h
  obtain ⟨b, _, rfl⟩ := List.mem_map.mp h
  have := b.toNat_lt; omega
end Go.Proofs.YtijcibdpcolfpaaDoor.Aid
