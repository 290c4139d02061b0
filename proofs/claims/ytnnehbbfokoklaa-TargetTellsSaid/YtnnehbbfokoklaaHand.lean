/- The contracts of functions that the printer does not take, walked by hand: small letters, texts without some bytes at their ends, .. -/
import Derived.Test.YtnnehbbfokoklaaShelf
import Derived.Test.YtnnehbbfokoklaaLow
import Derived.Test.YtnnehbbfokoklaaTrim
import Derived.Test.YtnnehbbfokoklaaHex
import Derived.WalkKit
import Derived.LoopTactic
import Derived.Below
import Derived.Laws.Bits64b
import Derived.Lib.SliceRun
namespace Go.Proofs.Ytnnehbbfokoklaa.Hand
open Go.RowKit Go.Proofs.YtnnehbbfokoklaaW.PrintWords Go.Proofs.YtnnehbbfokoklaaW.PrintLast Go.Proofs.YtnnehbbfokoklaaW.PrintMore
set_option linter.unusedVariables false
set_option linter.unusedSimpArgs false
def RelLow (s : ByteArray) (w : World) (k : Nat) (W : World) : Prop := Low.LowRow s k w.heap.size 5 W ∧ Below w.heap.size w W
def sameB (a b : ByteArray) : Bool := (Low.lower a).toList == (Low.lower b).toList
set_option maxHeartbeats 2000000 in
set_option maxRecDepth 100000 in
theorem text_Lower (s : ByteArray) (w : World) (hs : s.size ≤ 9223372036854775807) :
    Calls Try.prog 39 #[.string s] w fun e w' => e = .returned (.string (Low.lower s)) ∧ Below w.heap.size w w' := by
  have hu9 := Try.underlying9
  have hu32 := Try.underlying22
  have hu5 := Try.underlying5
  have hcv := fun (W : World) => run_bytes_of_string (P := Try.prog) W 9 22 5 s hu9 hu32 hu5
  go_enter Try.func39, Try.ntmps39
  go_wp2
  have h0 : RelLow s w 0 (w.alloc (Obj.cells (bytesRow s (grownCap w s.size 0 5)) 5 ((bytesRow s (grownCap w s.size 0 5)).size, (bytesRow s (grownCap w s.size 0 5)).size + 1))).drew :=
    ⟨Low.start s 5 w _, ((Below.refl _ _).alloc (Nat.le_refl _) _).drew⟩
  clear hcv
  generalize (w.alloc (Obj.cells (bytesRow s (grownCap w s.size 0 5)) 5 ((bytesRow s (grownCap w s.size 0 5)).size, (bytesRow s (grownCap w s.size 0 5)).size + 1))).drew = W0 at h0 ⊢
  generalize grownCap w s.size 0 5 = cap
  go_loopw [10] (fun v W => ∃ k : Nat, k ≤ s.size ∧ v = .int .i64 k ∧ RelLow s w k W) (fun v _ => s.size - (intOf v).toNat)
  case atStart => exact ⟨0, Nat.zero_le _, rfl, h0⟩
  case round =>
    clear h0
    obtain ⟨k, hk, rfl, hr, hB⟩ := hrel
    have HR := Lib.hid hr
    have HB := Lib.hid hB
    clear hr hB
    have hby := Low.byte_hi s k
    by_cases hlt : k < s.size
    · have hc := Low.cell HR.out k hlt
      rw [if_neg (Nat.lt_irrefl k)] at hc
      have hf := Low.free HR.out k hlt
      by_cases hA : 65 ≤ bt s k ∧ bt s k ≤ 90
      · obtain ⟨h65, h90⟩ := hA
        have hst := Lib.hid (Low.store HR.out hlt)
        have hbl := Lib.hid (HB.out.setCell (p := ⟨w.heap.size, k, none⟩) (Nat.le_refl _) (.int .u8 (Low.loC (bt s k))))
        rw [Low.lo_up h65 h90, show bt s k + 32 = bt s k + 97 - 65 by omega] at hst hbl
        go_wp2
        all_goals
          go_roundw
          case rel => exact ⟨k + 1, by omega, by go_num, hst.out, hbl.out⟩
          case measure => simp [intOf]; omega
      · have hst := Lib.hid (Low.skip HR.out (Low.lo_not hA))
        by_cases h65 : 65 ≤ bt s k
        · have h90 : ¬ bt s k ≤ 90 := fun h => hA ⟨h65, h⟩
          clear hA
          go_wp2
          all_goals
            go_roundw
            case rel => exact ⟨k + 1, by omega, by go_num, hst.out, HB.out⟩
            case measure => simp [intOf]; omega
        · clear hA
          go_wp2
          all_goals
            go_roundw
            case rel => exact ⟨k + 1, by omega, by go_num, hst.out, HB.out⟩
            case measure => simp [intOf]; omega
    · obtain rfl : k = s.size := by omega
      have hstr := Low.string HR.out 22 9 hu32 hu5 hu9 cap
      go_wp2
      go_ret
      exact ⟨rfl, HB.out⟩
set_option maxHeartbeats 2000000 in
set_option maxRecDepth 100000 in
theorem parallaxref1_Lower (s : ByteArray) (w : World) (hs : s.size ≤ 9223372036854775807) :
    Calls Try.prog 44 #[.string s] w fun e w' => e = .returned (.string (Low.lower s)) ∧ Below w.heap.size w w' := by
  have hu9 := Try.underlying9
  have hu32 := Try.underlying22
  have hu5 := Try.underlying5
  have hcv := fun (W : World) => run_bytes_of_string (P := Try.prog) W 9 22 5 s hu9 hu32 hu5
  go_enter Try.func44, Try.ntmps44
  go_wp2
  have h0 : RelLow s w 0 (w.alloc (Obj.cells (bytesRow s (grownCap w s.size 0 5)) 5 ((bytesRow s (grownCap w s.size 0 5)).size, (bytesRow s (grownCap w s.size 0 5)).size + 1))).drew :=
    ⟨Low.start s 5 w _, ((Below.refl _ _).alloc (Nat.le_refl _) _).drew⟩
  clear hcv
  generalize (w.alloc (Obj.cells (bytesRow s (grownCap w s.size 0 5)) 5 ((bytesRow s (grownCap w s.size 0 5)).size, (bytesRow s (grownCap w s.size 0 5)).size + 1))).drew = W0 at h0 ⊢
  generalize grownCap w s.size 0 5 = cap
  go_loopw [4] (fun v W => ∃ k : Nat, k ≤ s.size ∧ v = .int .i64 k ∧ RelLow s w k W) (fun v _ => s.size - (intOf v).toNat)
  case atStart => exact ⟨0, Nat.zero_le _, rfl, h0⟩
  case round =>
    clear h0
    obtain ⟨k, hk, rfl, hr, hB⟩ := hrel
    have HR := Lib.hid hr
    have HB := Lib.hid hB
    clear hr hB
    have hby := Low.byte_hi s k
    by_cases hlt : k < s.size
    · have hc := Low.cell HR.out k hlt
      rw [if_neg (Nat.lt_irrefl k)] at hc
      have hf := Low.free HR.out k hlt
      by_cases hA : 65 ≤ bt s k ∧ bt s k ≤ 90
      · obtain ⟨h65, h90⟩ := hA
        have hst := Lib.hid (Low.store HR.out hlt)
        have hbl := Lib.hid (HB.out.setCell (p := ⟨w.heap.size, k, none⟩) (Nat.le_refl _) (.int .u8 (Low.loC (bt s k))))
        rw [Low.lo_up h65 h90] at hst hbl
        go_wp2
        all_goals
          go_roundw
          case rel => exact ⟨k + 1, by omega, by go_num, hst.out, hbl.out⟩
          case measure => simp [intOf]; omega
      · have hst := Lib.hid (Low.skip HR.out (Low.lo_not hA))
        by_cases h65 : 65 ≤ bt s k
        · have h90 : ¬ bt s k ≤ 90 := fun h => hA ⟨h65, h⟩
          clear hA
          go_wp2
          all_goals
            go_roundw
            case rel => exact ⟨k + 1, by omega, by go_num, hst.out, HB.out⟩
            case measure => simp [intOf]; omega
        · clear hA
          go_wp2
          all_goals
            go_roundw
            case rel => exact ⟨k + 1, by omega, by go_num, hst.out, HB.out⟩
            case measure => simp [intOf]; omega
    · obtain rfl : k = s.size := by omega
      have hstr := Low.string HR.out 22 9 hu32 hu5 hu9 cap
      go_wp2
      go_ret
      exact ⟨rfl, HB.out⟩
set_option maxHeartbeats 1000000 in
theorem text_Same (a b : ByteArray) (w : World) (ha : a.size ≤ 9223372036854775807) (hb : b.size ≤ 9223372036854775807) :
    Calls Try.prog 23 #[.string a, .string b] w fun e w' => e = .returned (.bool (sameB a b)) ∧ Below w.heap.size w w' := by
  unfold sameB
  go_enter Try.func23, Try.ntmps23
  go_wp2_with (first | (go_at_call 39; (with_reducible refine (text_Lower a _ ha).mono ?_); rintro e w1 ⟨rfl, h1⟩) | (go_at_call 39; (with_reducible refine (text_Lower b _ hb).mono ?_); rintro e w2 ⟨rfl, h2⟩))
  go_ret
  exact ⟨rfl, below_step h1 h2⟩
end Go.Proofs.Ytnnehbbfokoklaa.Hand
