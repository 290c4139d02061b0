/- The contracts of functions that the printer does not take, walked by hand: small letters, texts without some bytes at their ends, .. -/
import Derived.Test.YtihcmknbdjmcdaaDoorShelf
import Derived.Test.YtihcmknbdjmcdaaDoorLow
import Derived.Test.YtihcmknbdjmcdaaDoorTrim
import Derived.Test.YtihcmknbdjmcdaaDoorHex
import Derived.WalkKit
import Derived.LoopTactic
import Derived.Below
import Derived.Laws.Bits64b
namespace Go.Proofs.YtihcmknbdjmcdaaDoor.Hand
open Go.RowKit Go.Proofs.YtihcmknbdjmcdaaDoorW.PrintWords Go.Proofs.YtihcmknbdjmcdaaDoorW.PrintLast Go.Proofs.YtihcmknbdjmcdaaDoorW.PrintMore
set_option linter.unusedVariables false
set_option linter.unusedSimpArgs false
def RelLow (s : ByteArray) (w : World) (k : Nat) (W : World) : Prop := Low.LowRow s k w.heap.size 5 W ∧ Below w.heap.size w W
def sameB (a b : ByteArray) : Bool := (Low.lower a).toList == (Low.lower b).toList

theorem blank_any (c : Int) (w : World) : Calls Tryd.prog 34 #[.int .u8 c] w fun e w' => e = .returned (.bool (Trim.blankB c)) ∧ w' = w := by
  unfold Trim.blankB
  by_cases h : c = 32
  · subst h
    go_enter Tryd.func34, Tryd.ntmps34
    go_wp2
    go_ret
    exact ⟨rfl, rfl⟩
  · have h2 : (c == 32) = false := by simpa using h
    go_enter Tryd.func34, Tryd.ntmps34
    go_wp2
    go_ret
    exact ⟨by rw [h2]; rfl, rfl⟩
set_option maxHeartbeats 4000000 in
set_option maxRecDepth 100000 in
theorem trimmed_blank (s : ByteArray) (w : World) (hs : s.size ≤ 9223372036854775807) :
    Calls Tryd.prog 33 #[.string s, .func (Fn.func 34) #[] #[]] w fun e w' => e = .returned (.string (Trim.trimB Trim.blankB s)) ∧ w' = w := by
  go_enter Tryd.func33, Tryd.ntmps33
  go_wp2
  go_loop [0] (fun v => ∃ i : Nat, i ≤ Trim.lead Trim.blankB (bytesOf s) ∧ v = .string (s.extract i s.size)) (fun v => match v with | .string x => x.size | _ => 0)
  case atStart => exact ⟨0, Nat.zero_le _, by rw [ByteArray.extract_zero_size]⟩
  case round =>
    obtain ⟨i, hi, rfl⟩ := hrel
    by_cases hlt : i < Trim.lead Trim.blankB (bytesOf s)
    · obtain ⟨h1, h2⟩ := Trim.left_yes hlt
      have hz : (s.extract i s.size).size = s.size - i := Trim.ext_size _ _ _ (Nat.le_refl _)
      have hn := Trim.ext_left s i 1
      obtain ⟨x, hx⟩ : ∃ x, x = s.extract i s.size := ⟨_, rfl⟩
      rw [← hx] at h2 hz hn ⊢
      have h0 : 0 < x.size := by omega
      have hem : x.toList.isEmpty = false := by rw [Trim.empty_iff]; exact decide_eq_false (by omega)
      have hb : Trim.blankB (x[0].toNat : Int) = true := by rw [← h2]; unfold bt; rw [dif_pos (show (0 : Int).toNat < x.size by simpa using h0)]; rfl
      have HN := Lib.hid hn; have HZ := Lib.hid hz; clear hn hz h2 hx
      go_wp2_with (go_at_call 34; (with_reducible refine (blank_any _ _).mono ?_); rintro e w' ⟨rfl, rfl⟩; rw [hb])
      all_goals
        go_round
        case rel => exact ⟨i + 1, by omega, by rw [HN.out]⟩
        case measure => simp; omega
    · obtain rfl : i = Trim.lead Trim.blankB (bytesOf s) := by omega
      clear hi hlt
      have hle := Trim.lead_le Trim.blankB (bytesOf s)
      rw [bytesOf_length] at hle
      have hz : (Trim.trimL Trim.blankB s).size = s.size - Trim.lead Trim.blankB (bytesOf s) := Trim.ext_size _ _ _ (Nat.le_refl _)
      have hno : 0 < (Trim.trimL Trim.blankB s).size → Trim.blankB (bt (Trim.trimL Trim.blankB s) 0) = false := fun h => Trim.left_no (by omega)
      rw [show s.extract (Trim.lead Trim.blankB (bytesOf s)) s.size = Trim.trimL Trim.blankB s from rfl]
      have hxs : (Trim.trimL Trim.blankB s).size ≤ 9223372036854775807 := by omega
      obtain ⟨x, hx⟩ : ∃ x, x = Trim.trimL Trim.blankB s := ⟨_, rfl⟩
      have HT0 : Trim.trimB Trim.blankB s = Trim.trimR Trim.blankB x := by rw [hx]; rfl
      have HT := Lib.hid HT0
      clear HT0
      rw [← hx] at hno hxs ⊢
      clear hle hz hs hx
      by_cases h0 : x.size = 0
      · have hem : x.toList.isEmpty = true := by rw [Trim.empty_iff]; exact decide_eq_true h0
        clear hno
        go_wp2
        clear h0
        go_loop [0] (fun v => ∃ m : Nat, x.size - Trim.lead Trim.blankB (bytesOf x).reverse ≤ m ∧ m ≤ x.size ∧ v = .string (x.extract 0 m)) (fun v => match v with | .string x => x.size | _ => 0)
        case atStart => exact ⟨x.size, by omega, Nat.le_refl _, by rw [ByteArray.extract_zero_size]⟩
        case round =>
          obtain ⟨m, hm1, hm2, rfl⟩ := hrel
          by_cases hlt : x.size - Trim.lead Trim.blankB (bytesOf x).reverse < m
          · obtain ⟨h1, h2⟩ := Trim.right_yes hm2 hlt
            have hz : (x.extract 0 m).size = m := Trim.ext_size _ _ _ hm2
            have hn := Trim.ext_right x m (m - 1) (by omega)
            obtain ⟨y, hy⟩ : ∃ y, y = x.extract 0 m := ⟨_, rfl⟩
            rw [← hy] at h2 hz hn ⊢
            have hemy : y.toList.isEmpty = false := by rw [Trim.empty_iff]; exact decide_eq_false (by omega)
            have h0y : 0 < y.size := by omega
            have hys : y.size ≤ 9223372036854775807 := by omega
            have hbt : Hid (∀ (j : Nat) (hj : j < y.size), j = m - 1 → Trim.blankB ((y[j]'hj).toNat : Int) = true) := Lib.hid (fun j hj e => by
              subst e
              rw [← h2]; unfold bt; rw [dif_pos (show ((m : Int) - 1).toNat < y.size by omega)]
              congr 3
              simp only [show ((m : Int) - 1).toNat = m - 1 by omega])
            have HN := Lib.hid hn; have HZ := Lib.hid hz; clear hn hz h2 hy
            go_wp2_with (go_at_call 34; (with_reducible refine (blank_any _ _).mono ?_); rintro e w' ⟨rfl, rfl⟩; rw [hbt.out _ _ (by have := HZ.out; omega)])
            all_goals
              go_round
              case rel => exact ⟨m - 1, by omega, by omega, by rw [← HN.out]; congr 2; have := HZ.out; omega⟩
              case measure => have := HZ.out; simp; omega
          · obtain rfl : m = x.size - Trim.lead Trim.blankB (bytesOf x).reverse := by omega
            have hno : 0 < x.size - Trim.lead Trim.blankB (bytesOf x).reverse → Trim.blankB (bt (Trim.trimR Trim.blankB x) (((x.size - Trim.lead Trim.blankB (bytesOf x).reverse : Nat) : Int) - 1)) = false := fun h => Trim.right_no h
            have hz : (Trim.trimR Trim.blankB x).size = x.size - Trim.lead Trim.blankB (bytesOf x).reverse := Trim.ext_size _ _ _ hm2
            rw [show x.extract 0 (x.size - Trim.lead Trim.blankB (bytesOf x).reverse) = Trim.trimR Trim.blankB x from rfl]
            rw [← hz] at hno
            have HQ0 := HT.out
            obtain ⟨y, hy⟩ : ∃ y, y = Trim.trimR Trim.blankB x := ⟨_, rfl⟩
            rw [← hy] at hno hz HQ0 ⊢
            have HQ := Lib.hid HQ0
            clear HQ0
            have hys : y.size ≤ 9223372036854775807 := by omega
            clear hz hy hm1 hm2 hlt
            by_cases h0y : y.size = 0
            · have hemy : y.toList.isEmpty = true := by rw [Trim.empty_iff]; exact decide_eq_true h0y
              clear hno h0y
              go_wp2
              go_ret
              exact ⟨by rw [HQ.out]; rfl, rfl⟩
            · have h0y : 0 < y.size := by omega
              have hemy : y.toList.isEmpty = false := by rw [Trim.empty_iff]; exact decide_eq_false (by omega)
              have hbt : Hid (∀ (j : Nat) (hj : j < y.size), j = y.size - 1 → Trim.blankB ((y[j]'hj).toNat : Int) = false) := Lib.hid (fun j hj e => by
                subst e
                rw [← hno h0y]; unfold bt; rw [dif_pos (show ((y.size : Int) - 1).toNat < y.size by omega)]
                congr 3
                simp only [show ((y.size : Int) - 1).toNat = y.size - 1 by omega])
              clear hno
              go_wp2_with (go_at_call 34; (with_reducible refine (blank_any _ _).mono ?_); rintro e w' ⟨rfl, rfl⟩; rw [hbt.out _ _ (by omega)])
              go_ret
              exact ⟨by rw [HQ.out]; rfl, rfl⟩
      · have h0 : 0 < x.size := by omega
        have hem : x.toList.isEmpty = false := by rw [Trim.empty_iff]; exact decide_eq_false (by omega)
        have hb : Trim.blankB (x[0].toNat : Int) = false := by rw [← hno h0]; unfold bt; rw [dif_pos (show (0 : Int).toNat < x.size by simpa using h0)]; rfl
        clear hno
        have HB0 := Lib.hid hb
        go_wp2_with (go_at_call 34; (with_reducible refine (blank_any _ _).mono ?_); rintro e w' ⟨rfl, rfl⟩; rw [hb])
        go_loop [0] (fun v => ∃ m : Nat, x.size - Trim.lead Trim.blankB (bytesOf x).reverse ≤ m ∧ m ≤ x.size ∧ v = .string (x.extract 0 m)) (fun v => match v with | .string x => x.size | _ => 0)
        case atStart => exact ⟨x.size, by omega, Nat.le_refl _, by rw [ByteArray.extract_zero_size]⟩
        case round =>
          obtain ⟨m, hm1, hm2, rfl⟩ := hrel
          by_cases hlt : x.size - Trim.lead Trim.blankB (bytesOf x).reverse < m
          · obtain ⟨h1, h2⟩ := Trim.right_yes hm2 hlt
            have hz : (x.extract 0 m).size = m := Trim.ext_size _ _ _ hm2
            have hn := Trim.ext_right x m (m - 1) (by omega)
            obtain ⟨y, hy⟩ : ∃ y, y = x.extract 0 m := ⟨_, rfl⟩
            rw [← hy] at h2 hz hn ⊢
            have hemy : y.toList.isEmpty = false := by rw [Trim.empty_iff]; exact decide_eq_false (by omega)
            have h0y : 0 < y.size := by omega
            have hys : y.size ≤ 9223372036854775807 := by omega
            have hbt : Hid (∀ (j : Nat) (hj : j < y.size), j = m - 1 → Trim.blankB ((y[j]'hj).toNat : Int) = true) := Lib.hid (fun j hj e => by
              subst e
              rw [← h2]; unfold bt; rw [dif_pos (show ((m : Int) - 1).toNat < y.size by omega)]
              congr 3
              simp only [show ((m : Int) - 1).toNat = m - 1 by omega])
            have HN := Lib.hid hn; have HZ := Lib.hid hz; clear hn hz h2 hy
            go_wp2_with (go_at_call 34; (with_reducible refine (blank_any _ _).mono ?_); rintro e w' ⟨rfl, rfl⟩; rw [hbt.out _ _ (by have := HZ.out; omega)])
            all_goals
              go_round
              case rel => exact ⟨m - 1, by omega, by omega, by rw [← HN.out]; congr 2; have := HZ.out; omega⟩
              case measure => have := HZ.out; simp; omega
          · obtain rfl : m = x.size - Trim.lead Trim.blankB (bytesOf x).reverse := by omega
            have hno : 0 < x.size - Trim.lead Trim.blankB (bytesOf x).reverse → Trim.blankB (bt (Trim.trimR Trim.blankB x) (((x.size - Trim.lead Trim.blankB (bytesOf x).reverse : Nat) : Int) - 1)) = false := fun h => Trim.right_no h
            have hz : (Trim.trimR Trim.blankB x).size = x.size - Trim.lead Trim.blankB (bytesOf x).reverse := Trim.ext_size _ _ _ hm2
            rw [show x.extract 0 (x.size - Trim.lead Trim.blankB (bytesOf x).reverse) = Trim.trimR Trim.blankB x from rfl]
            rw [← hz] at hno
            have HQ0 := HT.out
            obtain ⟨y, hy⟩ : ∃ y, y = Trim.trimR Trim.blankB x := ⟨_, rfl⟩
            rw [← hy] at hno hz HQ0 ⊢
            have HQ := Lib.hid HQ0
            clear HQ0
            have hys : y.size ≤ 9223372036854775807 := by omega
            clear hz hy hm1 hm2 hlt
            by_cases h0y : y.size = 0
            · have hemy : y.toList.isEmpty = true := by rw [Trim.empty_iff]; exact decide_eq_true h0y
              clear hno h0y
              go_wp2
              go_ret
              exact ⟨by rw [HQ.out]; rfl, rfl⟩
            · have h0y : 0 < y.size := by omega
              have hemy : y.toList.isEmpty = false := by rw [Trim.empty_iff]; exact decide_eq_false (by omega)
              have hbt : Hid (∀ (j : Nat) (hj : j < y.size), j = y.size - 1 → Trim.blankB ((y[j]'hj).toNat : Int) = false) := Lib.hid (fun j hj e => by
                subst e
                rw [← hno h0y]; unfold bt; rw [dif_pos (show ((y.size : Int) - 1).toNat < y.size by omega)]
                congr 3
                simp only [show ((y.size : Int) - 1).toNat = y.size - 1 by omega])
              clear hno
              go_wp2_with (go_at_call 34; (with_reducible refine (blank_any _ _).mono ?_); rintro e w' ⟨rfl, rfl⟩; rw [hbt.out _ _ (by omega)])
              go_ret
              exact ⟨by rw [HQ.out]; rfl, rfl⟩
set_option maxHeartbeats 1000000 in
theorem text_Trim (s : ByteArray) (w : World) (hs : s.size ≤ 9223372036854775807) : Calls Tryd.prog 22 #[.string s] w fun e w' => e = .returned (.string (Trim.trimB Trim.blankB s)) ∧ w' = w := by
  go_enter Tryd.func22, Tryd.ntmps22
  go_wp2_with (go_at_call 33; (with_reducible refine (trimmed_blank _ _ hs).mono ?_); rintro e w' ⟨rfl, rfl⟩)
  go_ret
  exact ⟨rfl, rfl⟩

theorem hex_and15 (v : Nat) (h : v < 18446744073709551616) : bits BinOp.and IntKind.u64 (v : Int) 15 = ((v % 16 : Nat) : Int) := by
  have e := bits_and_u64_nat v 15 h (by decide)
  rw [show ((15 : Nat) : Int) = 15 from rfl] at e
  rw [e, show (15 : Nat) = 2 ^ 4 - 1 from rfl, Nat.and_two_pow_sub_one_eq_mod]
theorem hex_cell_lt {w : World} {b j : Nat} {v : Value} (h : w.cell? ⟨b, j, none⟩ = some v) : b < w.heap.size := by
  rcases Nat.lt_or_ge b w.heap.size with x | x
  · exact x
  · simp [World.cell?, Array.getElem?_eq_none x] at h
def RelHex (n : Nat) (w : World) (m v : Nat) (W : World) : Prop := ∃ L : List Int, Hex.HexRow L w.heap.size 83 W ∧ L.length = m ∧ m ≤ 15 ∧ v < 16 ^ (16 - m) ∧ Hex.hexL (17 - m) v ++ L = Hex.hexL 17 n ∧ Below w.heap.size w W
set_option maxHeartbeats 2000000 in
set_option maxRecDepth 100000 in
theorem hex_tz64 (w : World) (hm : w.cell? ⟨3, 15, none⟩ = some (.int .u8 4)) :
    Calls Tryd.prog 74 #[.int .u64 16] w fun e w' => e = .returned (.int .i64 4) ∧ w' = w := by
  have hi : IntKind.u64.wrap (bits BinOp.and IntKind.u64 16 (IntKind.u64.wrap (-16)) * 285870213051353865) / 288230376151711744 = 15 := by decide +kernel
  go_enter Tryd.func74, Tryd.ntmps74
  go_wp2
  go_ret
  exact ⟨rfl, rfl⟩
set_option maxHeartbeats 2000000 in
set_option maxRecDepth 100000 in
theorem hex_tz (w : World) (hm : w.cell? ⟨3, 15, none⟩ = some (.int .u8 4)) :
    Calls Tryd.prog 72 #[.int .u64 16] w fun e w' => e = .returned (.int .i64 4) ∧ w' = w := by
  go_enter Tryd.func72, Tryd.ntmps72
  go_wp2_with (go_at_call 74; refine (hex_tz64 w hm).mono ?_; rintro e w' ⟨rfl, rfl⟩)
  go_ret
  exact ⟨rfl, rfl⟩
set_option maxHeartbeats 2000000 in
set_option maxRecDepth 100000 in
theorem hex_pow2 (w : World) :
    Calls Tryd.prog 71 #[.int .i64 16] w fun e w' => e = .returned (.bool true) ∧ w' = w := by
  have hi : bits BinOp.and IntKind.i64 16 15 = 0 := by decide +kernel
  go_enter Tryd.func71, Tryd.ntmps71
  go_wp2
  go_ret
  exact ⟨rfl, rfl⟩
theorem hex_slice (B m : Nat) (hm : m ≤ 64) (W : World) : (Instr.sliceAt 83 (.pointer (some ⟨B, 0, none⟩)) (some (.int .i64 (((65 - m : Nat) : Int) - 1))) none none).run Tryd.prog W = .ok (.slice (some ⟨B, 65 - m - 1, none⟩) (m + 1) (m + 1)) W := by
  have e1 : Tryd.prog.arrayLen 83 = 65 := by kernel_rfl
  have e2 : Tryd.prog.elem 83 = 5 := by kernel_rfl
  have e3 : ∀ W : World, (sizeOf 5).run Tryd.prog W = .ok 1 W := Tryd.sizeOf5
  have ht : Tryd.prog.underlying 83 = some (.array (Tryd.prog.arrayLen 83) (Tryd.prog.elem 83)) := by rw [e1, e2]; exact Tryd.underlying83
  rw [run_sliceAt_array_l W 83 _ ht .i64 _ (by omega) (by rw [e1]; omega), e2, e3, e1]
  show Result.ok (slicedAt _ _ _ _ _) W = _
  unfold slicedAt
  have e4 : (((65 - m : Nat) : Int) - 1).toNat = 65 - m - 1 := by omega
  rw [e4, if_neg (by omega), Nat.mul_one]
  congr 2
  · simp [Addr.add]; omega
  · omega
  · omega
set_option maxHeartbeats 2000000 in
set_option maxRecDepth 100000 in
theorem hex_bits (n : Nat) (w : World) (hn : n < 9223372036854775808) (hm : w.cell? ⟨3, 15, none⟩ = some (.int .u8 4)) :
    Calls Tryd.prog 65 #[.slice none 0 0, .int .u64 n, .int .i64 16, .bool false, .bool false] w fun e w' => e = .returned (.tuple #[.slice none 0 0, .string (Hex.hexB n)]) ∧ Below w.heap.size w w' := by
  have hu9 := Tryd.underlying9
  have hu22 := Tryd.underlying22
  have hu5 := Tryd.underlying5
  have hu56 := Tryd.underlying83
  have hz : ∀ W : World, (zeroValue 83).run Tryd.prog W = .ok (.agg (Array.replicate 65 (.int .u8 0))) W := fun W => by kernel_rfl
  have h0 : RelHex n w 0 n (w.alloc (.cells (Array.replicate 65 (.int .u8 0)) 83)) := ⟨[], Hex.start w 83, rfl, by omega, by simp; omega, by simp, (Below.refl _ _).alloc (Nat.le_refl _) _⟩
  go_enter Tryd.func65, Tryd.ntmps65
  go_wp2_with (first | (go_at_call 71; refine (hex_pow2 _).mono ?_; rintro e w' ⟨rfl, rfl⟩) | (go_at_call 72; refine (hex_tz _ ?hmm).mono ?_; (case hmm => exact (Below.cell (below_alloc (Below.refl _ _) _) (hex_cell_lt hm)).trans hm); rintro e w' ⟨rfl, rfl⟩))
  clear hz
  generalize w.alloc (.cells (Array.replicate 65 (.int .u8 0)) 83) = W0 at h0 ⊢
  go_loopw [1, 13] (fun u i W => ∃ m v : Nat, u = .int .u64 v ∧ i = .int .i64 (65 - m : Nat) ∧ RelHex n w m v W) (fun u _ _ => (intOf u).toNat)
  case atStart => exact ⟨0, n, rfl, rfl, h0⟩
  case round =>
    clear h0
    obtain ⟨m, v, rfl, rfl, L, hr, hlen, hm15, hv, hL, hB⟩ := hrel
    have HR := Lib.hid hr
    have HB := Lib.hid hB
    clear hr hB
    have hv64 : v < 18446744073709551616 := Nat.lt_of_lt_of_le hv (by have := Nat.pow_le_pow_right (n := 16) (by decide) (show 16 - m ≤ 16 by omega); simpa using this)
    obtain ⟨c0, hc⟩ := Hex.cell HR.out (65 - m - 1) (by omega)
    have hf := Hex.free HR.out (65 - m - 1)
    by_cases hge : 16 ≤ v
    · have ha := hex_and15 v hv64
      go_wp2
      all_goals
        go_roundw
        case rel =>
          refine ⟨m + 1, v / 16, by rw [Int.natCast_ediv]; rfl, by congr 1; omega, Hex.dig (v % 16) :: L, ?_, by simp [hlen], ?_, ?_, ?_, HB.out.setCell (p := ⟨w.heap.size, 65 - m - 1, none⟩) (Nat.le_refl _) _⟩
          · rw [Hex.dig_idx (Nat.mod_lt _ (by decide)), show 65 - m - 1 = 65 - (L.length + 1) by omega]
            exact Hex.store HR.out (by omega) _
          · have : m ≠ 15 := by
              rintro rfl
              have : v < 16 := by simpa using hv
              omega
            omega
          · have e : 16 - m = (16 - (m + 1)) + 1 := by
              have : m ≠ 15 := by
                rintro rfl
                have : v < 16 := by simpa using hv
                omega
              omega
            rw [e, Nat.pow_succ] at hv
            exact Nat.div_lt_of_lt_mul (by rw [Nat.mul_comm]; exact hv)
          · rw [← hL, show 17 - m = (17 - (m + 1)) + 1 by omega, Hex.hexL_ge _ _ (by omega), List.append_assoc]; rfl
        case measure => simp [intOf]; omega
    · have hx : v < 16 ∧ Hex.dig v :: L = Hex.hexL 17 n := by
        refine ⟨by omega, ?_⟩
        rw [← hL, show 17 - m = (16 - m) + 1 by omega, Hex.hexL_lt _ _ (by omega)]; rfl
      have hst := Lib.hid (Hex.store HR.out (by omega) (Hex.dig v))
      rw [hlen, show 65 - (m + 1) = 65 - m - 1 by omega, hx.2] at hst
      have hd : ∀ h2, (((⟨#[48, 49, 50, 51, 52, 53, 54, 55, 56, 57, 97, 98, 99, 100, 101, 102, 103, 104, 105, 106, 107, 108, 109, 110, 111, 112, 113, 114, 115, 116, 117, 118, 119, 120, 121, 122]⟩ : ByteArray)[v]'h2).toNat : Int) = Hex.dig v := fun h2 => Hex.dig_idx hx.1
      have hsl := hex_slice w.heap.size m (by omega)
      have hl : (Hex.hexL 17 n).length = m + 1 := by rw [← hx.2]; simp [hlen]
      have hstr := Hex.string (P := Tryd.prog) hst.out 22 9 5 hu22 hu5 hu9 (m + 1)
      rw [hl, show 65 - (m + 1) = 65 - m - 1 by omega] at hstr
      go_wp2
      go_ret2
      exact ⟨rfl, HB.out.setCell (p := ⟨w.heap.size, 65 - m - 1, none⟩) (Nat.le_refl _) _⟩
set_option maxHeartbeats 2000000 in
set_option maxRecDepth 100000 in
theorem hex_format (n : Nat) (w : World) (hn : n < 9223372036854775808) (hm : w.cell? ⟨3, 15, none⟩ = some (.int .u8 4)) :
    Calls Tryd.prog 54 #[.int .i64 n, .int .i64 16] w fun e w' => e = .returned (.string (Hex.hexB n)) ∧ Below w.heap.size w w' := by
  have hn2 : IntKind.u64.wrap (n : Int) = (n : Int) := by simp [IntKind.wrap, IntKind.bits]; omega
  go_enter Tryd.func54, Tryd.ntmps54
  go_wp2_with (go_at_call 65; refine (hex_bits n _ hn hm).mono ?_; rintro e w' ⟨rfl, hB⟩)
  all_goals
    go_ret
    exact ⟨rfl, hB⟩
set_option maxHeartbeats 2000000 in
set_option maxRecDepth 100000 in
theorem strconv_FormatInt16 (n : Nat) (w : World) (hn : n < 9223372036854775808) (hm : w.cell? ⟨3, 15, none⟩ = some (.int .u8 4)) :
    Calls Tryd.prog 40 #[.int .i64 n, .int .i64 16] w fun e w' => e = .returned (.string (Hex.hexB n)) ∧ Below w.heap.size w w' := by
  go_enter Tryd.func40, Tryd.ntmps40
  go_wp2_with (go_at_call 54; refine (hex_format n _ hn hm).mono ?_; rintro e w' ⟨rfl, hB⟩)
  all_goals
    go_ret
    exact ⟨rfl, hB⟩

end Go.Proofs.YtihcmknbdjmcdaaDoor.Hand
