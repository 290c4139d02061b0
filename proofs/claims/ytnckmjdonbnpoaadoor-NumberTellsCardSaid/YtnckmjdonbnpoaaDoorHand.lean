/- The contracts of functions that the printer does not take, walked by hand: small letters, texts without some bytes at their ends, .. -/
import Derived.Test.YtnckmjdonbnpoaaDoorShelf
import Derived.Test.YtnckmjdonbnpoaaDoorLow
import Derived.Test.YtnckmjdonbnpoaaDoorTrim
import Derived.Test.YtnckmjdonbnpoaaDoorHex
import Derived.WalkKit
import Derived.LoopTactic
import Derived.Below
import Derived.Laws.Bits64b
namespace Go.Proofs.YtnckmjdonbnpoaaDoor.Hand
open Go.RowKit Go.Proofs.YtnckmjdonbnpoaaDoorW.PrintWords Go.Proofs.YtnckmjdonbnpoaaDoorW.PrintLast Go.Proofs.YtnckmjdonbnpoaaDoorW.PrintMore
set_option linter.unusedVariables false
set_option linter.unusedSimpArgs false
def RelLow (s : ByteArray) (w : World) (k : Nat) (W : World) : Prop := Low.LowRow s k w.heap.size 5 W ∧ Below w.heap.size w W
def sameB (a b : ByteArray) : Bool := (Low.lower a).toList == (Low.lower b).toList

theorem hex_and15 (v : Nat) (h : v < 18446744073709551616) : bits BinOp.and IntKind.u64 (v : Int) 15 = ((v % 16 : Nat) : Int) := by
  have e := bits_and_u64_nat v 15 h (by decide)
  rw [show ((15 : Nat) : Int) = 15 from rfl] at e
  rw [e, show (15 : Nat) = 2 ^ 4 - 1 from rfl, Nat.and_two_pow_sub_one_eq_mod]
theorem hex_cell_lt {w : World} {b j : Nat} {v : Value} (h : w.cell? ⟨b, j, none⟩ = some v) : b < w.heap.size := by
  rcases Nat.lt_or_ge b w.heap.size with x | x
  · exact x
  · simp [World.cell?, Array.getElem?_eq_none x] at h
def RelHex (n : Nat) (w : World) (m v : Nat) (W : World) : Prop := ∃ L : List Int, Hex.HexRow L w.heap.size 56 W ∧ L.length = m ∧ m ≤ 15 ∧ v < 16 ^ (16 - m) ∧ Hex.hexL (17 - m) v ++ L = Hex.hexL 17 n ∧ Below w.heap.size w W
set_option maxHeartbeats 2000000 in
set_option maxRecDepth 100000 in
theorem hex_tz64 (w : World) (hm : w.cell? ⟨2, 15, none⟩ = some (.int .u8 4)) :
    Calls Tryd.prog 46 #[.int .u64 16] w fun e w' => e = .returned (.int .i64 4) ∧ w' = w := by
  have hi : IntKind.u64.wrap (bits BinOp.and IntKind.u64 16 (IntKind.u64.wrap (-16)) * 285870213051353865) / 288230376151711744 = 15 := by decide +kernel
  go_enter Tryd.func46, Tryd.ntmps46
  go_wp2
  go_ret
  exact ⟨rfl, rfl⟩
set_option maxHeartbeats 2000000 in
set_option maxRecDepth 100000 in
theorem hex_tz (w : World) (hm : w.cell? ⟨2, 15, none⟩ = some (.int .u8 4)) :
    Calls Tryd.prog 43 #[.int .u64 16] w fun e w' => e = .returned (.int .i64 4) ∧ w' = w := by
  go_enter Tryd.func43, Tryd.ntmps43
  go_wp2_with (go_at_call 46; refine (hex_tz64 w hm).mono ?_; rintro e w' ⟨rfl, rfl⟩)
  go_ret
  exact ⟨rfl, rfl⟩
set_option maxHeartbeats 2000000 in
set_option maxRecDepth 100000 in
theorem hex_pow2 (w : World) :
    Calls Tryd.prog 42 #[.int .i64 16] w fun e w' => e = .returned (.bool true) ∧ w' = w := by
  have hi : bits BinOp.and IntKind.i64 16 15 = 0 := by decide +kernel
  go_enter Tryd.func42, Tryd.ntmps42
  go_wp2
  go_ret
  exact ⟨rfl, rfl⟩
theorem hex_slice (B m : Nat) (hm : m ≤ 64) (W : World) : (Instr.sliceAt 56 (.pointer (some ⟨B, 0, none⟩)) (some (.int .i64 (((65 - m : Nat) : Int) - 1))) none none).run Tryd.prog W = .ok (.slice (some ⟨B, 65 - m - 1, none⟩) (m + 1) (m + 1)) W := by
  have e1 : Tryd.prog.arrayLen 56 = 65 := by kernel_rfl
  have e2 : Tryd.prog.elem 56 = 5 := by kernel_rfl
  have e3 : ∀ W : World, (sizeOf 5).run Tryd.prog W = .ok 1 W := Tryd.sizeOf5
  have ht : Tryd.prog.underlying 56 = some (.array (Tryd.prog.arrayLen 56) (Tryd.prog.elem 56)) := by rw [e1, e2]; exact Tryd.underlying56
  rw [run_sliceAt_array_l W 56 _ ht .i64 _ (by omega) (by rw [e1]; omega), e2, e3, e1]
  show Result.ok (slicedAt _ _ _ _ _) W = _
  unfold slicedAt
  have e4 : (((65 - m : Nat) : Int) - 1).toNat = 65 - m - 1 := by omega
  rw [e4, if_neg (by omega), Nat.mul_one]
  congr 2
  · simp [Addr.add]; omega
  · omega
  · omega
set_option maxHeartbeats 2000000 in
set_option maxRecDepth 100000 in
theorem hex_bits (n : Nat) (w : World) (hn : n < 9223372036854775808) (hm : w.cell? ⟨2, 15, none⟩ = some (.int .u8 4)) :
    Calls Tryd.prog 34 #[.slice none 0 0, .int .u64 n, .int .i64 16, .bool false, .bool false] w fun e w' => e = .returned (.tuple #[.slice none 0 0, .string (Hex.hexB n)]) ∧ Below w.heap.size w w' := by
  have hu9 := Tryd.underlying9
  have hu22 := Tryd.underlying22
  have hu5 := Tryd.underlying5
  have hu56 := Tryd.underlying56
  have hz : ∀ W : World, (zeroValue 56).run Tryd.prog W = .ok (.agg (Array.replicate 65 (.int .u8 0))) W := fun W => by kernel_rfl
  have h0 : RelHex n w 0 n (w.alloc (.cells (Array.replicate 65 (.int .u8 0)) 56)) := ⟨[], Hex.start w 56, rfl, by omega, by simp; omega, by simp, (Below.refl _ _).alloc (Nat.le_refl _) _⟩
  go_enter Tryd.func34, Tryd.ntmps34
  go_wp2_with (first | (go_at_call 42; refine (hex_pow2 _).mono ?_; rintro e w' ⟨rfl, rfl⟩) | (go_at_call 43; refine (hex_tz _ ?hmm).mono ?_; (case hmm => exact (Below.cell (below_alloc (Below.refl _ _) _) (hex_cell_lt hm)).trans hm); rintro e w' ⟨rfl, rfl⟩))
  clear hz
  generalize w.alloc (.cells (Array.replicate 65 (.int .u8 0)) 56) = W0 at h0 ⊢
  go_loopw [1, 13] (fun u i W => ∃ m v : Nat, u = .int .u64 v ∧ i = .int .i64 (65 - m : Nat) ∧ RelHex n w m v W) (fun u _ _ => (intOf u).toNat)
  case atStart => exact ⟨0, n, rfl, rfl, h0⟩
  case round =>
    clear h0
    obtain ⟨m, v, rfl, rfl, L, hr, hlen, hm15, hv, hL, hB⟩ := hrel
    have HR := Lib.hid hr
    have HB := Lib.hid hB
    clear hr hB
    have hv64 : v < 18446744073709551616 := Nat.lt_of_lt_of_le hv (by have := Nat.pow_le_pow_right (n := 16) (by decide) (show 16 - m ≤ 16 by omega); simpa using this)
    obtain ⟨c0, hc⟩ := Hex.cell HR.out (65 - m - 1) (by omega)
    have hf := Hex.free HR.out (65 - m - 1)
    by_cases hge : 16 ≤ v
    · have ha := hex_and15 v hv64
      go_wp2
      all_goals
        go_roundw
        case rel =>
          refine ⟨m + 1, v / 16, by rw [Int.natCast_ediv]; rfl, by congr 1; omega, Hex.dig (v % 16) :: L, ?_, by simp [hlen], ?_, ?_, ?_, HB.out.setCell (p := ⟨w.heap.size, 65 - m - 1, none⟩) (Nat.le_refl _) _⟩
          · rw [Hex.dig_idx (Nat.mod_lt _ (by decide)), show 65 - m - 1 = 65 - (L.length + 1) by omega]
            exact Hex.store HR.out (by omega) _
          · have : m ≠ 15 := by
              rintro rfl
              have : v < 16 := by simpa using hv
              omega
            omega
          · have e : 16 - m = (16 - (m + 1)) + 1 := by
              have : m ≠ 15 := by
                rintro rfl
                have : v < 16 := by simpa using hv
                omega
              omega
            rw [e, Nat.pow_succ] at hv
            exact Nat.div_lt_of_lt_mul (by rw [Nat.mul_comm]; exact hv)
          · rw [← hL, show 17 - m = (17 - (m + 1)) + 1 by omega, Hex.hexL_ge _ _ (by omega), List.append_assoc]; rfl
        case measure => simp [intOf]; omega
    · have hx : v < 16 ∧ Hex.dig v :: L = Hex.hexL 17 n := by
        refine ⟨by omega, ?_⟩
        rw [← hL, show 17 - m = (16 - m) + 1 by omega, Hex.hexL_lt _ _ (by omega)]; rfl
      have hst := Lib.hid (Hex.store HR.out (by omega) (Hex.dig v))
      rw [hlen, show 65 - (m + 1) = 65 - m - 1 by omega, hx.2] at hst
      have hd : ∀ h2, (((⟨#[48, 49, 50, 51, 52, 53, 54, 55, 56, 57, 97, 98, 99, 100, 101, 102, 103, 104, 105, 106, 107, 108, 109, 110, 111, 112, 113, 114, 115, 116, 117, 118, 119, 120, 121, 122]⟩ : ByteArray)[v]'h2).toNat : Int) = Hex.dig v := fun h2 => Hex.dig_idx hx.1
      have hsl := hex_slice w.heap.size m (by omega)
      have hl : (Hex.hexL 17 n).length = m + 1 := by rw [← hx.2]; simp [hlen]
      have hstr := Hex.string (P := Tryd.prog) hst.out 22 9 5 hu22 hu5 hu9 (m + 1)
      rw [hl, show 65 - (m + 1) = 65 - m - 1 by omega] at hstr
      go_wp2
      go_ret2
      exact ⟨rfl, HB.out.setCell (p := ⟨w.heap.size, 65 - m - 1, none⟩) (Nat.le_refl _) _⟩
set_option maxHeartbeats 2000000 in
set_option maxRecDepth 100000 in
theorem hex_format (n : Nat) (w : World) (hn : n < 9223372036854775808) (hm : w.cell? ⟨2, 15, none⟩ = some (.int .u8 4)) :
    Calls Tryd.prog 26 #[.int .i64 n, .int .i64 16] w fun e w' => e = .returned (.string (Hex.hexB n)) ∧ Below w.heap.size w w' := by
  have hn2 : IntKind.u64.wrap (n : Int) = (n : Int) := by simp [IntKind.wrap, IntKind.bits]; omega
  go_enter Tryd.func26, Tryd.ntmps26
  go_wp2_with (go_at_call 34; refine (hex_bits n _ hn hm).mono ?_; rintro e w' ⟨rfl, hB⟩)
  all_goals
    go_ret
    exact ⟨rfl, hB⟩
set_option maxHeartbeats 2000000 in
set_option maxRecDepth 100000 in
theorem strconv_FormatInt16 (n : Nat) (w : World) (hn : n < 9223372036854775808) (hm : w.cell? ⟨2, 15, none⟩ = some (.int .u8 4)) :
    Calls Tryd.prog 21 #[.int .i64 n, .int .i64 16] w fun e w' => e = .returned (.string (Hex.hexB n)) ∧ Below w.heap.size w w' := by
  go_enter Tryd.func21, Tryd.ntmps21
  go_wp2_with (go_at_call 26; refine (hex_format n _ hn hm).mono ?_; rintro e w' ⟨rfl, hB⟩)
  all_goals
    go_ret
    exact ⟨rfl, hB⟩

end Go.Proofs.YtnckmjdonbnpoaaDoor.Hand
