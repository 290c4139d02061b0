/- The contracts of functions that the printer does not take, walked by hand: small letters, texts without some bytes at their ends, .. -/
import Derived.Test.YtfmpajagkjealaaDoorShelf
import Derived.Test.YtfmpajagkjealaaDoorLow
import Derived.Test.YtfmpajagkjealaaDoorTrim
import Derived.Test.YtfmpajagkjealaaDoorHex
import Derived.WalkKit
import Derived.LoopTactic
import Derived.Below
import Derived.Laws.Bits64b
import Derived.Lib.SliceRun
namespace Go.Proofs.YtfmpajagkjealaaDoor.Hand
open Go.RowKit Go.Proofs.YtfmpajagkjealaaDoorW.PrintWords Go.Proofs.YtfmpajagkjealaaDoorW.PrintLast Go.Proofs.YtfmpajagkjealaaDoorW.PrintMore
set_option linter.unusedVariables false
set_option linter.unusedSimpArgs false
def RelLow (s : ByteArray) (w : World) (k : Nat) (W : World) : Prop := Low.LowRow s k w.heap.size 5 W ∧ Below w.heap.size w W
def sameB (a b : ByteArray) : Bool := (Low.lower a).toList == (Low.lower b).toList

set_option maxHeartbeats 2000000 in
set_option maxRecDepth 100000 in
theorem text_Lower (s : ByteArray) (w : World) (hs : s.size ≤ 9223372036854775807) :
    Calls Tryd.prog 37 #[.string s] w fun e w' => e = .returned (.string (Low.lower s)) ∧ Below w.heap.size w w' := by
  have hu9 := Tryd.underlying9
  have hu32 := Tryd.underlying23
  have hu5 := Tryd.underlying5
  have hcv := fun (W : World) => run_bytes_of_string (P := Tryd.prog) W 9 23 5 s hu9 hu32 hu5
  go_enter Tryd.func37, Tryd.ntmps37
  go_wp2
  have h0 : RelLow s w 0 (w.alloc (Obj.cells (bytesRow s (grownCap w s.size 0 5)) 5 ((bytesRow s (grownCap w s.size 0 5)).size, (bytesRow s (grownCap w s.size 0 5)).size + 1))).drew :=
    ⟨Low.start s 5 w _, ((Below.refl _ _).alloc (Nat.le_refl _) _).drew⟩
  clear hcv
  generalize (w.alloc (Obj.cells (bytesRow s (grownCap w s.size 0 5)) 5 ((bytesRow s (grownCap w s.size 0 5)).size, (bytesRow s (grownCap w s.size 0 5)).size + 1))).drew = W0 at h0 ⊢
  generalize grownCap w s.size 0 5 = cap
  go_loopw [10] (fun v W => ∃ k : Nat, k ≤ s.size ∧ v = .int .i64 k ∧ RelLow s w k W) (fun v _ => s.size - (intOf v).toNat)
  case atStart => exact ⟨0, Nat.zero_le _, rfl, h0⟩
  case round =>
    clear h0
    obtain ⟨k, hk, rfl, hr, hB⟩ := hrel
    have HR := Lib.hid hr
    have HB := Lib.hid hB
    clear hr hB
    have hby := Low.byte_hi s k
    by_cases hlt : k < s.size
    · have hc := Low.cell HR.out k hlt
      rw [if_neg (Nat.lt_irrefl k)] at hc
      have hf := Low.free HR.out k hlt
      by_cases hA : 65 ≤ bt s k ∧ bt s k ≤ 90
      · obtain ⟨h65, h90⟩ := hA
        have hst := Lib.hid (Low.store HR.out hlt)
        have hbl := Lib.hid (HB.out.setCell (p := ⟨w.heap.size, k, none⟩) (Nat.le_refl _) (.int .u8 (Low.loC (bt s k))))
        rw [Low.lo_up h65 h90, show bt s k + 32 = bt s k + 97 - 65 by omega] at hst hbl
        go_wp2
        all_goals
          go_roundw
          case rel => exact ⟨k + 1, by omega, by go_num, hst.out, hbl.out⟩
          case measure => simp [intOf]; omega
      · have hst := Lib.hid (Low.skip HR.out (Low.lo_not hA))
        by_cases h65 : 65 ≤ bt s k
        · have h90 : ¬ bt s k ≤ 90 := fun h => hA ⟨h65, h⟩
          clear hA
          go_wp2
          all_goals
            go_roundw
            case rel => exact ⟨k + 1, by omega, by go_num, hst.out, HB.out⟩
            case measure => simp [intOf]; omega
        · clear hA
          go_wp2
          all_goals
            go_roundw
            case rel => exact ⟨k + 1, by omega, by go_num, hst.out, HB.out⟩
            case measure => simp [intOf]; omega
    · obtain rfl : k = s.size := by omega
      have hstr := Low.string HR.out 23 9 hu32 hu5 hu9 cap
      go_wp2
      go_ret
      exact ⟨rfl, HB.out⟩

set_option maxHeartbeats 2000000 in
set_option maxRecDepth 100000 in
theorem parallaxref1_Lower (s : ByteArray) (w : World) (hs : s.size ≤ 9223372036854775807) :
    Calls Tryd.prog 18 #[.string s] w fun e w' => e = .returned (.string (Low.lower s)) ∧ Below w.heap.size w w' := by
  have hu9 := Tryd.underlying9
  have hu32 := Tryd.underlying23
  have hu5 := Tryd.underlying5
  have hcv := fun (W : World) => run_bytes_of_string (P := Tryd.prog) W 9 23 5 s hu9 hu32 hu5
  go_enter Tryd.func18, Tryd.ntmps18
  go_wp2
  have h0 : RelLow s w 0 (w.alloc (Obj.cells (bytesRow s (grownCap w s.size 0 5)) 5 ((bytesRow s (grownCap w s.size 0 5)).size, (bytesRow s (grownCap w s.size 0 5)).size + 1))).drew :=
    ⟨Low.start s 5 w _, ((Below.refl _ _).alloc (Nat.le_refl _) _).drew⟩
  clear hcv
  generalize (w.alloc (Obj.cells (bytesRow s (grownCap w s.size 0 5)) 5 ((bytesRow s (grownCap w s.size 0 5)).size, (bytesRow s (grownCap w s.size 0 5)).size + 1))).drew = W0 at h0 ⊢
  generalize grownCap w s.size 0 5 = cap
  go_loopw [4] (fun v W => ∃ k : Nat, k ≤ s.size ∧ v = .int .i64 k ∧ RelLow s w k W) (fun v _ => s.size - (intOf v).toNat)
  case atStart => exact ⟨0, Nat.zero_le _, rfl, h0⟩
  case round =>
    clear h0
    obtain ⟨k, hk, rfl, hr, hB⟩ := hrel
    have HR := Lib.hid hr
    have HB := Lib.hid hB
    clear hr hB
    have hby := Low.byte_hi s k
    by_cases hlt : k < s.size
    · have hc := Low.cell HR.out k hlt
      rw [if_neg (Nat.lt_irrefl k)] at hc
      have hf := Low.free HR.out k hlt
      by_cases hA : 65 ≤ bt s k ∧ bt s k ≤ 90
      · obtain ⟨h65, h90⟩ := hA
        have hst := Lib.hid (Low.store HR.out hlt)
        have hbl := Lib.hid (HB.out.setCell (p := ⟨w.heap.size, k, none⟩) (Nat.le_refl _) (.int .u8 (Low.loC (bt s k))))
        rw [Low.lo_up h65 h90] at hst hbl
        go_wp2
        all_goals
          go_roundw
          case rel => exact ⟨k + 1, by omega, by go_num, hst.out, hbl.out⟩
          case measure => simp [intOf]; omega
      · have hst := Lib.hid (Low.skip HR.out (Low.lo_not hA))
        by_cases h65 : 65 ≤ bt s k
        · have h90 : ¬ bt s k ≤ 90 := fun h => hA ⟨h65, h⟩
          clear hA
          go_wp2
          all_goals
            go_roundw
            case rel => exact ⟨k + 1, by omega, by go_num, hst.out, HB.out⟩
            case measure => simp [intOf]; omega
        · clear hA
          go_wp2
          all_goals
            go_roundw
            case rel => exact ⟨k + 1, by omega, by go_num, hst.out, HB.out⟩
            case measure => simp [intOf]; omega
    · obtain rfl : k = s.size := by omega
      have hstr := Low.string HR.out 23 9 hu32 hu5 hu9 cap
      go_wp2
      go_ret
      exact ⟨rfl, HB.out⟩

theorem blank_any (c : Int) (w : World) : Calls Tryd.prog 48 #[.int .u8 c] w fun e w' => e = .returned (.bool (Trim.blankB c)) ∧ w' = w := by
  unfold Trim.blankB
  by_cases h : c = 32
  · subst h
    go_enter Tryd.func48, Tryd.ntmps48
    go_wp2
    go_ret
    exact ⟨rfl, rfl⟩
  · have h2 : (c == 32) = false := by simpa using h
    go_enter Tryd.func48, Tryd.ntmps48
    go_wp2
    go_ret
    exact ⟨by rw [h2]; rfl, rfl⟩
set_option maxHeartbeats 4000000 in
set_option maxRecDepth 100000 in
theorem trimmed_blank (s : ByteArray) (w : World) (hs : s.size ≤ 9223372036854775807) :
    Calls Tryd.prog 47 #[.string s, .func (Fn.func 48) #[] #[]] w fun e w' => e = .returned (.string (Trim.trimB Trim.blankB s)) ∧ w' = w := by
  go_enter Tryd.func47, Tryd.ntmps47
  go_wp2
  go_loop [0] (fun v => ∃ i : Nat, i ≤ Trim.lead Trim.blankB (bytesOf s) ∧ v = .string (s.extract i s.size)) (fun v => match v with | .string x => x.size | _ => 0)
  case atStart => exact ⟨0, Nat.zero_le _, by rw [ByteArray.extract_zero_size]⟩
  case round =>
    obtain ⟨i, hi, rfl⟩ := hrel
    by_cases hlt : i < Trim.lead Trim.blankB (bytesOf s)
    · obtain ⟨h1, h2⟩ := Trim.left_yes hlt
      have hz : (s.extract i s.size).size = s.size - i := Trim.ext_size _ _ _ (Nat.le_refl _)
      have hn := Trim.ext_left s i 1
      obtain ⟨x, hx⟩ : ∃ x, x = s.extract i s.size := ⟨_, rfl⟩
      rw [← hx] at h2 hz hn ⊢
      have h0 : 0 < x.size := by omega
      have hem : x.toList.isEmpty = false := by rw [Trim.empty_iff]; exact decide_eq_false (by omega)
      have hb : Trim.blankB (x[0].toNat : Int) = true := by rw [← h2]; unfold bt; rw [dif_pos (show (0 : Int).toNat < x.size by simpa using h0)]; rfl
      have HN := Lib.hid hn; have HZ := Lib.hid hz; clear hn hz h2 hx
      go_wp2_with (go_at_call 48; (with_reducible refine (blank_any _ _).mono ?_); rintro e w' ⟨rfl, rfl⟩; rw [hb])
      all_goals
        go_round
        case rel => exact ⟨i + 1, by omega, by rw [HN.out]⟩
        case measure => simp; omega
    · obtain rfl : i = Trim.lead Trim.blankB (bytesOf s) := by omega
      clear hi hlt
      have hle := Trim.lead_le Trim.blankB (bytesOf s)
      rw [bytesOf_length] at hle
      have hz : (Trim.trimL Trim.blankB s).size = s.size - Trim.lead Trim.blankB (bytesOf s) := Trim.ext_size _ _ _ (Nat.le_refl _)
      have hno : 0 < (Trim.trimL Trim.blankB s).size → Trim.blankB (bt (Trim.trimL Trim.blankB s) 0) = false := fun h => Trim.left_no (by omega)
      rw [show s.extract (Trim.lead Trim.blankB (bytesOf s)) s.size = Trim.trimL Trim.blankB s from rfl]
      have hxs : (Trim.trimL Trim.blankB s).size ≤ 9223372036854775807 := by omega
      obtain ⟨x, hx⟩ : ∃ x, x = Trim.trimL Trim.blankB s := ⟨_, rfl⟩
      have HT0 : Trim.trimB Trim.blankB s = Trim.trimR Trim.blankB x := by rw [hx]; rfl
      have HT := Lib.hid HT0
      clear HT0
      rw [← hx] at hno hxs ⊢
      clear hle hz hs hx
      by_cases h0 : x.size = 0
      · have hem : x.toList.isEmpty = true := by rw [Trim.empty_iff]; exact decide_eq_true h0
        clear hno
        go_wp2
        clear h0
        go_loop [0] (fun v => ∃ m : Nat, x.size - Trim.lead Trim.blankB (bytesOf x).reverse ≤ m ∧ m ≤ x.size ∧ v = .string (x.extract 0 m)) (fun v => match v with | .string x => x.size | _ => 0)
        case atStart => exact ⟨x.size, by omega, Nat.le_refl _, by rw [ByteArray.extract_zero_size]⟩
        case round =>
          obtain ⟨m, hm1, hm2, rfl⟩ := hrel
          by_cases hlt : x.size - Trim.lead Trim.blankB (bytesOf x).reverse < m
          · obtain ⟨h1, h2⟩ := Trim.right_yes hm2 hlt
            have hz : (x.extract 0 m).size = m := Trim.ext_size _ _ _ hm2
            have hn := Trim.ext_right x m (m - 1) (by omega)
            obtain ⟨y, hy⟩ : ∃ y, y = x.extract 0 m := ⟨_, rfl⟩
            rw [← hy] at h2 hz hn ⊢
            have hemy : y.toList.isEmpty = false := by rw [Trim.empty_iff]; exact decide_eq_false (by omega)
            have h0y : 0 < y.size := by omega
            have hys : y.size ≤ 9223372036854775807 := by omega
            have hbt : Hid (∀ (j : Nat) (hj : j < y.size), j = m - 1 → Trim.blankB ((y[j]'hj).toNat : Int) = true) := Lib.hid (fun j hj e => by
              subst e
              rw [← h2]; unfold bt; rw [dif_pos (show ((m : Int) - 1).toNat < y.size by omega)]
              congr 3
              simp only [show ((m : Int) - 1).toNat = m - 1 by omega])
            have HN := Lib.hid hn; have HZ := Lib.hid hz; clear hn hz h2 hy
            go_wp2_with (go_at_call 48; (with_reducible refine (blank_any _ _).mono ?_); rintro e w' ⟨rfl, rfl⟩; rw [hbt.out _ _ (by have := HZ.out; omega)])
            all_goals
              go_round
              case rel => exact ⟨m - 1, by omega, by omega, by rw [← HN.out]; congr 2; have := HZ.out; omega⟩
              case measure => have := HZ.out; simp; omega
          · obtain rfl : m = x.size - Trim.lead Trim.blankB (bytesOf x).reverse := by omega
            have hno : 0 < x.size - Trim.lead Trim.blankB (bytesOf x).reverse → Trim.blankB (bt (Trim.trimR Trim.blankB x) (((x.size - Trim.lead Trim.blankB (bytesOf x).reverse : Nat) : Int) - 1)) = false := fun h => Trim.right_no h
            have hz : (Trim.trimR Trim.blankB x).size = x.size - Trim.lead Trim.blankB (bytesOf x).reverse := Trim.ext_size _ _ _ hm2
            rw [show x.extract 0 (x.size - Trim.lead Trim.blankB (bytesOf x).reverse) = Trim.trimR Trim.blankB x from rfl]
            rw [← hz] at hno
            have HQ0 := HT.out
            obtain ⟨y, hy⟩ : ∃ y, y = Trim.trimR Trim.blankB x := ⟨_, rfl⟩
            rw [← hy] at hno hz HQ0 ⊢
            have HQ := Lib.hid HQ0
            clear HQ0
            have hys : y.size ≤ 9223372036854775807 := by omega
            clear hz hy hm1 hm2 hlt
            by_cases h0y : y.size = 0
            · have hemy : y.toList.isEmpty = true := by rw [Trim.empty_iff]; exact decide_eq_true h0y
              clear hno h0y
              go_wp2
              go_ret
              exact ⟨by rw [HQ.out]; rfl, rfl⟩
            · have h0y : 0 < y.size := by omega
              have hemy : y.toList.isEmpty = false := by rw [Trim.empty_iff]; exact decide_eq_false (by omega)
              have hbt : Hid (∀ (j : Nat) (hj : j < y.size), j = y.size - 1 → Trim.blankB ((y[j]'hj).toNat : Int) = false) := Lib.hid (fun j hj e => by
                subst e
                rw [← hno h0y]; unfold bt; rw [dif_pos (show ((y.size : Int) - 1).toNat < y.size by omega)]
                congr 3
                simp only [show ((y.size : Int) - 1).toNat = y.size - 1 by omega])
              clear hno
              go_wp2_with (go_at_call 48; (with_reducible refine (blank_any _ _).mono ?_); rintro e w' ⟨rfl, rfl⟩; rw [hbt.out _ _ (by omega)])
              go_ret
              exact ⟨by rw [HQ.out]; rfl, rfl⟩
      · have h0 : 0 < x.size := by omega
        have hem : x.toList.isEmpty = false := by rw [Trim.empty_iff]; exact decide_eq_false (by omega)
        have hb : Trim.blankB (x[0].toNat : Int) = false := by rw [← hno h0]; unfold bt; rw [dif_pos (show (0 : Int).toNat < x.size by simpa using h0)]; rfl
        clear hno
        have HB0 := Lib.hid hb
        go_wp2_with (go_at_call 48; (with_reducible refine (blank_any _ _).mono ?_); rintro e w' ⟨rfl, rfl⟩; rw [hb])
        go_loop [0] (fun v => ∃ m : Nat, x.size - Trim.lead Trim.blankB (bytesOf x).reverse ≤ m ∧ m ≤ x.size ∧ v = .string (x.extract 0 m)) (fun v => match v with | .string x => x.size | _ => 0)
        case atStart => exact ⟨x.size, by omega, Nat.le_refl _, by rw [ByteArray.extract_zero_size]⟩
        case round =>
          obtain ⟨m, hm1, hm2, rfl⟩ := hrel
          by_cases hlt : x.size - Trim.lead Trim.blankB (bytesOf x).reverse < m
          · obtain ⟨h1, h2⟩ := Trim.right_yes hm2 hlt
            have hz : (x.extract 0 m).size = m := Trim.ext_size _ _ _ hm2
            have hn := Trim.ext_right x m (m - 1) (by omega)
            obtain ⟨y, hy⟩ : ∃ y, y = x.extract 0 m := ⟨_, rfl⟩
            rw [← hy] at h2 hz hn ⊢
            have hemy : y.toList.isEmpty = false := by rw [Trim.empty_iff]; exact decide_eq_false (by omega)
            have h0y : 0 < y.size := by omega
            have hys : y.size ≤ 9223372036854775807 := by omega
            have hbt : Hid (∀ (j : Nat) (hj : j < y.size), j = m - 1 → Trim.blankB ((y[j]'hj).toNat : Int) = true) := Lib.hid (fun j hj e => by
              subst e
              rw [← h2]; unfold bt; rw [dif_pos (show ((m : Int) - 1).toNat < y.size by omega)]
              congr 3
              simp only [show ((m : Int) - 1).toNat = m - 1 by omega])
            have HN := Lib.hid hn; have HZ := Lib.hid hz; clear hn hz h2 hy
            go_wp2_with (go_at_call 48; (with_reducible refine (blank_any _ _).mono ?_); rintro e w' ⟨rfl, rfl⟩; rw [hbt.out _ _ (by have := HZ.out; omega)])
            all_goals
              go_round
              case rel => exact ⟨m - 1, by omega, by omega, by rw [← HN.out]; congr 2; have := HZ.out; omega⟩
              case measure => have := HZ.out; simp; omega
          · obtain rfl : m = x.size - Trim.lead Trim.blankB (bytesOf x).reverse := by omega
            have hno : 0 < x.size - Trim.lead Trim.blankB (bytesOf x).reverse → Trim.blankB (bt (Trim.trimR Trim.blankB x) (((x.size - Trim.lead Trim.blankB (bytesOf x).reverse : Nat) : Int) - 1)) = false := fun h => Trim.right_no h
            have hz : (Trim.trimR Trim.blankB x).size = x.size - Trim.lead Trim.blankB (bytesOf x).reverse := Trim.ext_size _ _ _ hm2
            rw [show x.extract 0 (x.size - Trim.lead Trim.blankB (bytesOf x).reverse) = Trim.trimR Trim.blankB x from rfl]
            rw [← hz] at hno
            have HQ0 := HT.out
            obtain ⟨y, hy⟩ : ∃ y, y = Trim.trimR Trim.blankB x := ⟨_, rfl⟩
            rw [← hy] at hno hz HQ0 ⊢
            have HQ := Lib.hid HQ0
            clear HQ0
            have hys : y.size ≤ 9223372036854775807 := by omega
            clear hz hy hm1 hm2 hlt
            by_cases h0y : y.size = 0
            · have hemy : y.toList.isEmpty = true := by rw [Trim.empty_iff]; exact decide_eq_true h0y
              clear hno h0y
              go_wp2
              go_ret
              exact ⟨by rw [HQ.out]; rfl, rfl⟩
            · have h0y : 0 < y.size := by omega
              have hemy : y.toList.isEmpty = false := by rw [Trim.empty_iff]; exact decide_eq_false (by omega)
              have hbt : Hid (∀ (j : Nat) (hj : j < y.size), j = y.size - 1 → Trim.blankB ((y[j]'hj).toNat : Int) = false) := Lib.hid (fun j hj e => by
                subst e
                rw [← hno h0y]; unfold bt; rw [dif_pos (show ((y.size : Int) - 1).toNat < y.size by omega)]
                congr 3
                simp only [show ((y.size : Int) - 1).toNat = y.size - 1 by omega])
              clear hno
              go_wp2_with (go_at_call 48; (with_reducible refine (blank_any _ _).mono ?_); rintro e w' ⟨rfl, rfl⟩; rw [hbt.out _ _ (by omega)])
              go_ret
              exact ⟨by rw [HQ.out]; rfl, rfl⟩
set_option maxHeartbeats 1000000 in
theorem text_Trim (s : ByteArray) (w : World) (hs : s.size ≤ 9223372036854775807) : Calls Tryd.prog 36 #[.string s] w fun e w' => e = .returned (.string (Trim.trimB Trim.blankB s)) ∧ w' = w := by
  go_enter Tryd.func36, Tryd.ntmps36
  go_wp2_with (go_at_call 47; (with_reducible refine (trimmed_blank _ _ hs).mono ?_); rintro e w' ⟨rfl, rfl⟩)
  go_ret
  exact ⟨rfl, rfl⟩

set_option maxHeartbeats 1000000 in
theorem text_Same (a b : ByteArray) (w : World) (ha : a.size ≤ 9223372036854775807) (hb : b.size ≤ 9223372036854775807) :
    Calls Tryd.prog 24 #[.string a, .string b] w fun e w' => e = .returned (.bool (sameB a b)) ∧ Below w.heap.size w w' := by
  unfold sameB
  go_enter Tryd.func24, Tryd.ntmps24
  go_wp2_with (first | (go_at_call 37; (with_reducible refine (text_Lower a _ ha).mono ?_); rintro e w1 ⟨rfl, h1⟩) | (go_at_call 37; (with_reducible refine (text_Lower b _ hb).mono ?_); rintro e w2 ⟨rfl, h2⟩))
  go_ret
  exact ⟨rfl, below_step h1 h2⟩

theorem find_at {p : ByteArray → Bool} {l : List ByteArray} {k : Nat} {x : ByteArray} (hn : ∀ s ∈ l.take k, p s = false) (ht : l.take (k + 1) = l.take k ++ [x]) (hx : p x = true) (hk : k < l.length) : l.findIdx? p = some k := by
  have e : l = l.take k ++ x :: l.drop (k + 1) := by
    have := List.take_append_drop (k + 1) l
    rw [ht, List.append_assoc] at this
    exact this.symm
  have hlen : (l.take k).length = k := by rw [List.length_take]; omega
  rw [e, List.findIdx?_append, List.findIdx?_eq_none_iff.mpr hn]
  simp [List.findIdx?_cons, hx, hlen]
/-- the first place of a kind, or -1 -/
def idxI (p : ByteArray → Bool) (l : List ByteArray) : Int := match l.findIdx? p with | some i => (i : Int) | none => -1
theorem idxI_at {p : ByteArray → Bool} {l : List ByteArray} {k : Nat} {x : ByteArray} (hn : ∀ s ∈ l.take k, p s = false) (ht : l.take (k + 1) = l.take k ++ [x]) (hx : p x = true) (hk : k < l.length) : idxI p l = k := by
  unfold idxI; rw [find_at hn ht hx hk]
theorem idxI_none {p : ByteArray → Bool} {l : List ByteArray} (hn : ∀ s ∈ l, p s = false) : idxI p l = -1 := by
  unfold idxI; rw [List.findIdx?_eq_none_iff.mpr hn]
theorem idxI_any (p : ByteArray → Bool) (l : List ByteArray) : decide (0 ≤ idxI p l) = l.any p := by
  unfold idxI
  cases h : l.findIdx? p with
  | none =>
    have := List.findIdx?_eq_none_iff.mp h
    rw [show l.any p = false by rw [List.any_eq_false]; simpa using this]; rfl
  | some i =>
    obtain ⟨hi, hp, _⟩ := List.findIdx?_eq_some_iff_getElem.mp h
    rw [show l.any p = true from List.any_eq_true.mpr ⟨_, List.getElem_mem hi, hp⟩]
    simp
set_option maxHeartbeats 4000000 in
set_option maxRecDepth 100000 in
theorem indexFunc_bare (g : FuncId) (p : ByteArray → Bool) (A0 : Option Addr) (c0 : Nat) (l : List ByteArray) (w : World) (hr : Kd.C Kd.string w A0 l.length l) (hm : l.length ≤ 9223372036854775807) (hg : ∀ (s : ByteArray) (W : World), (callFunc g #[.string s]).run Tryd.prog W = .ok (.enter g #[.string s]) W) (hf : ∀ W, Below w.heap.size w W → ∀ s ∈ l, Calls Tryd.prog g #[.string s] W fun e W' => e = .returned (.bool (p s)) ∧ Below W.heap.size W W') :
    Calls Tryd.prog 34 #[.slice A0 l.length c0, .func (Fn.func g) #[] #[]] w fun e w' => e = .returned (.int .i64 (idxI p l)) ∧ Below w.heap.size w w' := by
  have HR := Lib.hid hr
  have HF := Lib.hid hf
  clear hr hf
  go_enter Tryd.func34, Tryd.ntmps34
  go_wp2
  go_loopw [8] (fun v W => ∃ k : Nat, k ≤ l.length ∧ v = .int .i64 k ∧ Hid (∀ s ∈ l.take k, p s = false) ∧ Hid (Below w.heap.size w W)) (fun v _ => l.length - (intOf v).toNat)
  case atStart => exact ⟨0, Nat.zero_le _, rfl, Lib.hid (by simp), Lib.hid (Below.refl _ _)⟩
  case round =>
    obtain ⟨k, hk, rfl, HN, HB⟩ := hrel
    by_cases hlt : k < l.length
    · obtain ⟨ad, rfl, hcell⟩ := Kd.at_string (Kd.C_below HR.out HB.out) (k : Int) (by omega) (by omega)
      have hmem : rdOf ByteArray.empty l (k : Int) ∈ l := by unfold rdOf; simp [List.getD_eq_getElem?_getD, show k < l.length from hlt]
      have htk : l.take (k + 1) = l.take k ++ [rdOf ByteArray.empty l (k : Int)] := by rw [List.take_succ_eq_append_getElem hlt]; unfold rdOf; simp [List.getD_eq_getElem?_getD, hlt]
      have HT := Lib.hid htk
      have HMEM := Lib.hid hmem
      clear htk hmem
      simp only [Int.toNat_natCast] at hcell
      generalize hx : rdOf ByteArray.empty l (k : Int) = x at *
      clear hx
      by_cases hp : p x = true
      · have HP := Lib.hid hp
        clear hp
        go_wp2_with ((with_reducible refine (HF.out _ ?bb x HMEM.out).mono ?_); (case bb => exact HB.out); rintro e w1 ⟨rfl, h1⟩; rw [HP.out])
        go_ret
        refine ⟨?_, below_step HB.out h1⟩
        rw [idxI_at HN.out HT.out HP.out hlt]
        rfl
      · have HP := Lib.hid (Bool.eq_false_iff.mpr hp)
        clear hp
        go_wp2_with ((with_reducible refine (HF.out _ ?bb x HMEM.out).mono ?_); (case bb => exact HB.out); rintro e w1 ⟨rfl, h1⟩; rw [HP.out])
        go_roundw
        case rel =>
          refine ⟨k + 1, by omega, by go_num, Lib.hid ?_, Lib.hid (below_step HB.out h1)⟩
          rw [HT.out]
          intro s hs
          rcases List.mem_append.mp hs with h | h
          · exact HN.out s h
          · obtain rfl := List.mem_singleton.mp h; exact HP.out
        case measure => simp [intOf]; omega
    · obtain rfl : k = l.length := by omega
      go_wp2
      go_ret
      refine ⟨?_, HB.out⟩
      have hn := HN.out
      rw [List.take_length] at hn
      rw [idxI_none hn]
      rfl
set_option maxHeartbeats 1000000 in
theorem contains_bare (g : FuncId) (p : ByteArray → Bool) (A0 : Option Addr) (c0 : Nat) (l : List ByteArray) (w : World) (hr : Kd.C Kd.string w A0 l.length l) (hm : l.length ≤ 9223372036854775807) (hg : ∀ (s : ByteArray) (W : World), (callFunc g #[.string s]).run Tryd.prog W = .ok (.enter g #[.string s]) W) (hf : ∀ W, Below w.heap.size w W → ∀ s ∈ l, Calls Tryd.prog g #[.string s] W fun e W' => e = .returned (.bool (p s)) ∧ Below W.heap.size W W') :
    Calls Tryd.prog 38 #[.slice A0 l.length c0, .func (Fn.func g) #[] #[]] w fun e w' => e = .returned (.bool (l.any p)) ∧ Below w.heap.size w w' := by
  have H := Lib.hid (idxI_any p l)
  go_enter Tryd.func38, Tryd.ntmps38
  go_wp2_with (go_at_call 34; (with_reducible refine (indexFunc_bare g p A0 c0 l _ hr hm hg hf).mono ?_); rintro e w1 ⟨rfl, h1⟩)
  go_ret
  exact ⟨by rw [← H.out]; rfl, h1⟩
set_option maxHeartbeats 4000000 in
set_option maxRecDepth 100000 in
theorem indexFunc_cap (g : FuncId) (v : Value) (p : ByteArray → Bool) (A0 : Option Addr) (c0 : Nat) (l : List ByteArray) (w : World) (hr : Kd.C Kd.string w A0 l.length l) (hm : l.length ≤ 9223372036854775807) (hg : ∀ (s : ByteArray) (W : World), (callFunc g #[.string s, v]).run Tryd.prog W = .ok (.enter g #[.string s, v]) W) (hf : ∀ W, Below w.heap.size w W → ∀ s ∈ l, Calls Tryd.prog g #[.string s, v] W fun e W' => e = .returned (.bool (p s)) ∧ Below W.heap.size W W') :
    Calls Tryd.prog 34 #[.slice A0 l.length c0, .func (Fn.func g) #[] #[v]] w fun e w' => e = .returned (.int .i64 (idxI p l)) ∧ Below w.heap.size w w' := by
  have HR := Lib.hid hr
  have HF := Lib.hid hf
  clear hr hf
  go_enter Tryd.func34, Tryd.ntmps34
  go_wp2
  go_loopw [8] (fun v W => ∃ k : Nat, k ≤ l.length ∧ v = .int .i64 k ∧ Hid (∀ s ∈ l.take k, p s = false) ∧ Hid (Below w.heap.size w W)) (fun v _ => l.length - (intOf v).toNat)
  case atStart => exact ⟨0, Nat.zero_le _, rfl, Lib.hid (by simp), Lib.hid (Below.refl _ _)⟩
  case round =>
    obtain ⟨k, hk, rfl, HN, HB⟩ := hrel
    by_cases hlt : k < l.length
    · obtain ⟨ad, rfl, hcell⟩ := Kd.at_string (Kd.C_below HR.out HB.out) (k : Int) (by omega) (by omega)
      have hmem : rdOf ByteArray.empty l (k : Int) ∈ l := by unfold rdOf; simp [List.getD_eq_getElem?_getD, show k < l.length from hlt]
      have htk : l.take (k + 1) = l.take k ++ [rdOf ByteArray.empty l (k : Int)] := by rw [List.take_succ_eq_append_getElem hlt]; unfold rdOf; simp [List.getD_eq_getElem?_getD, hlt]
      have HT := Lib.hid htk
      have HMEM := Lib.hid hmem
      clear htk hmem
      simp only [Int.toNat_natCast] at hcell
      generalize hx : rdOf ByteArray.empty l (k : Int) = x at *
      clear hx
      by_cases hp : p x = true
      · have HP := Lib.hid hp
        clear hp
        go_wp2_with ((with_reducible refine (HF.out _ ?bb x HMEM.out).mono ?_); (case bb => exact HB.out); rintro e w1 ⟨rfl, h1⟩; rw [HP.out])
        go_ret
        refine ⟨?_, below_step HB.out h1⟩
        rw [idxI_at HN.out HT.out HP.out hlt]
        rfl
      · have HP := Lib.hid (Bool.eq_false_iff.mpr hp)
        clear hp
        go_wp2_with ((with_reducible refine (HF.out _ ?bb x HMEM.out).mono ?_); (case bb => exact HB.out); rintro e w1 ⟨rfl, h1⟩; rw [HP.out])
        go_roundw
        case rel =>
          refine ⟨k + 1, by omega, by go_num, Lib.hid ?_, Lib.hid (below_step HB.out h1)⟩
          rw [HT.out]
          intro s hs
          rcases List.mem_append.mp hs with h | h
          · exact HN.out s h
          · obtain rfl := List.mem_singleton.mp h; exact HP.out
        case measure => simp [intOf]; omega
    · obtain rfl : k = l.length := by omega
      go_wp2
      go_ret
      refine ⟨?_, HB.out⟩
      have hn := HN.out
      rw [List.take_length] at hn
      rw [idxI_none hn]
      rfl
set_option maxHeartbeats 1000000 in
theorem contains_cap (g : FuncId) (v : Value) (p : ByteArray → Bool) (A0 : Option Addr) (c0 : Nat) (l : List ByteArray) (w : World) (hr : Kd.C Kd.string w A0 l.length l) (hm : l.length ≤ 9223372036854775807) (hg : ∀ (s : ByteArray) (W : World), (callFunc g #[.string s, v]).run Tryd.prog W = .ok (.enter g #[.string s, v]) W) (hf : ∀ W, Below w.heap.size w W → ∀ s ∈ l, Calls Tryd.prog g #[.string s, v] W fun e W' => e = .returned (.bool (p s)) ∧ Below W.heap.size W W') :
    Calls Tryd.prog 38 #[.slice A0 l.length c0, .func (Fn.func g) #[] #[v]] w fun e w' => e = .returned (.bool (l.any p)) ∧ Below w.heap.size w w' := by
  have H := Lib.hid (idxI_any p l)
  go_enter Tryd.func38, Tryd.ntmps38
  go_wp2_with (go_at_call 34; (with_reducible refine (indexFunc_cap g v p A0 c0 l _ hr hm hg hf).mono ?_); rintro e w1 ⟨rfl, h1⟩)
  go_ret
  exact ⟨by rw [← H.out]; rfl, h1⟩

/-- a row whose end has been written with empty texts -/
theorem row_clear {base g n cap : Nat} {ok : Nat → Prop} {w0 : World} (hg : base ≤ g) : ∀ (m i : Nat) {W : World} {xs : List ByteArray}, Kd.R Kd.string 9 W base ok (.slice (some ⟨g, 0, none⟩) n cap) xs → Below base w0 W →
    ∃ ys : List ByteArray, ys.length = xs.length ∧ ys.take i = xs.take i ∧ Kd.R Kd.string 9 (W.setCells g i (List.replicate m (.string ⟨#[]⟩))) base ok (.slice (some ⟨g, 0, none⟩) n cap) ys ∧ Below base w0 (W.setCells g i (List.replicate m (.string ⟨#[]⟩)))
  | 0, i, W, xs, h, hb => ⟨xs, rfl, rfl, h, hb⟩
  | m + 1, i, W, xs, h, hb => by
    have h1 := Kd.R_putn h (i : Int) (⟨#[]⟩ : ByteArray)
    have hb1 : Below base w0 (W.setCell ⟨g, i, none⟩ (.string ⟨#[]⟩)) := hb.setCell hg _
    obtain ⟨ys, e1, e2, e3, e4⟩ := row_clear hg m (i + 1) h1 hb1
    refine ⟨ys, by rw [e1, List.length_set], ?_, e3, e4⟩
    have : (ys.take (i + 1)).take i = ((xs.set i (⟨#[]⟩ : ByteArray)).take (i + 1)).take i := by rw [e2]; rfl
    rw [List.take_take, List.take_take] at this
    rw [show min i (i + 1) = i by omega] at this
    rw [this, List.take_set_of_le (Nat.le_refl _)]
def RelDel (p : ByteArray → Bool) (l : List ByteArray) (base g c : Nat) (ok : Nat → Prop) (w0 : World) (a b : Nat) (W : World) : Prop :=
  ∃ L : List ByteArray, L.length = l.length ∧ a < b ∧ b ≤ l.length ∧ Kd.R Kd.string 9 W base ok (.slice (some ⟨g, 0, none⟩) l.length c) L ∧ L.take a = (l.take b).filter (fun s => !p s) ∧ L.drop b = l.drop b ∧ Below base w0 W
theorem idxI_cases (p : ByteArray → Bool) (l : List ByteArray) : (idxI p l = -1 ∧ l.filter (fun s => !p s) = l) ∨ ∃ i : Nat, idxI p l = i ∧ i < l.length ∧ l.take i = (l.take (i + 1)).filter (fun s => !p s) := by
  unfold idxI
  cases h : l.findIdx? p with
  | none =>
    refine .inl ⟨rfl, ?_⟩
    rw [List.filter_eq_self]
    intro s hs
    have := List.findIdx?_eq_none_iff.mp h s hs
    simp [this]
  | some i =>
    obtain ⟨hi, hp, hn⟩ := List.findIdx?_eq_some_iff_getElem.mp h
    refine .inr ⟨i, rfl, hi, ?_⟩
    rw [List.take_succ_eq_append_getElem hi, List.filter_append, List.filter_cons_of_neg (by simp [hp]), List.filter_nil, List.append_nil, List.filter_eq_self.mpr]
    intro s hs
    obtain ⟨j, hj, rfl⟩ := List.mem_iff_getElem.mp hs
    rw [List.getElem_take]
    have hj2 : j < i := by rw [List.length_take] at hj; omega
    simp [hn j hj2]
set_option maxHeartbeats 8000000 in
set_option maxRecDepth 100000 in
theorem deleteFunc_bare (q : FuncId) (p : ByteArray → Bool) (A0 : Option Addr) (c0 base : Nat) (ok : Nat → Prop) (l : List ByteArray) (w : World) (hr : Kd.R Kd.string 9 w base ok (.slice A0 l.length c0) l) (hm : l.length ≤ 4611686018427387904) (hbase : base ≤ w.heap.size) (hq : ∀ (s : ByteArray) (W : World), (callFunc q #[.string s]).run Tryd.prog W = .ok (.enter q #[.string s]) W) (hf : ∀ W, ∀ s ∈ l, Calls Tryd.prog q #[.string s] W fun e W' => e = .returned (.bool (p s)) ∧ Below W.heap.size W W') :
    Calls Tryd.prog 20 #[.slice A0 l.length c0, .func (Fn.func q) #[] #[]] w fun e w' => ∃ v0_ : Value, e = .returned v0_ ∧ Kd.R Kd.string 9 w' base ok v0_ (l.filter fun s => !p s) ∧ Below base w w' := by
  have hsz := (Kd.R_reads' hr).2.1
  have HR := Lib.hid hr
  have HF := Lib.hid hf
  clear hr hf
  have HIX := Lib.hid (indexFunc_bare q p A0 c0 l w (Kd.R_reads' HR.out).2.2 (by omega) hq (fun W _ s hs => HF.out W s hs))
  rcases idxI_cases p l with ⟨hi, hl⟩ | ⟨i, hi, hlt, hl⟩
  · have HL := Lib.hid hl
    rw [hi] at HIX
    clear hl hi
    go_enter Tryd.func20, Tryd.ntmps20
    go_wp2_with (go_at_call 34; (with_reducible refine HIX.out.mono ?_); rintro e w1 ⟨rfl, h1⟩)
    go_ret
    exact ⟨_, rfl, by rw [HL.out]; exact Kd.R_below HR.out h1, h1.mono hbase⟩
  · obtain ⟨g, cap, he, hg, hgl, cells, hcells⟩ := Kd.R_form HR.out (by omega)
    injection he with he1 he2 he3
    subst he1 he3
    have HL := Lib.hid hl
    rw [hi] at HIX
    clear hl hi hcells cells
    have hi1 : ((i : Int) == -1) = false := by rw [beq_eq_false_iff_ne]; omega
    go_enter Tryd.func20, Tryd.ntmps20
    go_wp2_with (go_at_call 34; (with_reducible refine HIX.out.mono ?_); rintro e w1 ⟨rfl, h1⟩; have H1 := Lib.hid h1; clear h1)
    go_loopw [5, 6, 7] (fun x y _ W => ∃ a b : Nat, x = .int .i64 a ∧ y = .int .i64 b ∧ RelDel p l base g c0 ok w a b W) (fun _ y _ _ => l.length - (intOf y).toNat)
    case atStart => exact ⟨i, i + 1, rfl, rfl, l, rfl, by omega, by omega, Kd.R_below HR.out H1.out, HL.out, rfl, H1.out.mono hbase⟩
    case round =>
      obtain ⟨a, b, rfl, rfl, hrel⟩ := hrel
      obtain ⟨L, hLl, hab, hbl, hLR, hLt, hLd, hLB⟩ := hrel
      have KR := Lib.hid hLR
      have KL := Lib.hid hLl
      have KT := Lib.hid hLt
      have KD := Lib.hid hLd
      have KB := Lib.hid hLB
      clear hLl hLR hLt hLd hLB
      obtain ⟨_, _, he, _, hgl2, cells, hcells⟩ := Kd.R_form KR.out (by rw [KL.out]; omega)
      injection he with he1 he2 he3
      subst he3
      injection he1 with he1
      injection he1 with he1
      subst he1
      have KC := Lib.hid hcells
      clear hcells he2
      by_cases hlt2 : b < l.length
      · obtain ⟨ad, hA, hcell⟩ := Kd.at_string (Kd.R_reads' KR.out).2.2 (b : Int) (by omega) (by rw [KL.out]; omega)
        injection hA with hA
        subst hA
        rw [add_plain, Int.toNat_natCast] at hcell
        have hx1 : L[b]? = l[b]? := by
          have := congrArg (fun z => z[0]?) KD.out
          simpa [List.getElem?_drop] using this
        have hx0 : L[b]? = some (rdOf ByteArray.empty L (b : Int)) := by unfold rdOf; simp [List.getD_eq_getElem?_getD, show b < L.length by rw [KL.out]; exact hlt2]
        have hmem : rdOf ByteArray.empty L (b : Int) ∈ l := by rw [hx0] at hx1; exact List.mem_of_getElem? hx1.symm
        have HM := Lib.hid hmem
        have htk : l.take (b + 1) = l.take b ++ [rdOf ByteArray.empty L (b : Int)] := by
          rw [List.take_succ_eq_append_getElem hlt2]
          congr 2
          rw [hx0, List.getElem?_eq_getElem hlt2] at hx1
          exact (Option.some.inj hx1).symm
        have HT := Lib.hid htk
        clear hmem htk hx1 hx0
        generalize rdOf ByteArray.empty L (b : Int) = x at *
        have hfr := blk_frozen KC.out a
        obtain ⟨ca, hca⟩ : ∃ ca, wr.cell? ⟨g, a, none⟩ = some ca := by
          obtain ⟨ad, hA, hcell⟩ := Kd.at_string (Kd.R_reads' KR.out).2.2 (a : Int) (by omega) (by rw [KL.out]; omega)
          injection hA with hA
          subst hA
          rw [add_plain, Int.toNat_natCast] at hcell
          exact ⟨_, hcell⟩
        by_cases hp : p x = true
        · have HP := Lib.hid hp
          clear hp hfr hca
          go_wp2_with ((with_reducible refine (HF.out _ x HM.out).mono ?_); rintro e w1 ⟨rfl, h1⟩; rw [HP.out])
          go_roundw
          case rel =>
            refine ⟨a, b + 1, rfl, by go_num, L, KL.out, by omega, by omega, Kd.R_below KR.out h1, ?_, ?_, KB.out.trans (h1.mono ?_)⟩
            · rw [HT.out, List.filter_append, List.filter_cons_of_neg (by simp [HP.out]), List.filter_nil, List.append_nil]; exact KT.out
            · rw [← List.drop_drop, ← List.drop_drop, KD.out]
            · exact Nat.le_trans hbase KB.out.size
          case measure => simp [intOf]; omega
        · have HP := Lib.hid (Bool.eq_false_iff.mpr hp)
          clear hp
          have HFR := Lib.hid hfr
          have HCA := Lib.hid hca
          clear hfr hca
          go_wp2_with ((with_reducible refine (HF.out _ x HM.out).mono ?_); rintro e w1 ⟨rfl, h1⟩; rw [HP.out]; have hgw : w1.heap[g]? = some (.cells cells 9 (0, 0)) := blk_below KC.out h1; have hfr := blk_frozen hgw a; have hca : w1.cell? ⟨g, a, none⟩ = some ca := (h1.cell (p := ⟨g, a, none⟩) hgl2).trans HCA.out; clear hgw; have H2 := Lib.hid h1; clear h1)
          go_roundw
          case rel =>
            have h3 := Kd.R_putn (Kd.R_below KR.out H2.out) (a : Int) x
            refine ⟨a + 1, b + 1, by go_num, by go_num, L.set a x, by rw [List.length_set]; exact KL.out, by omega, by omega, h3, ?_, ?_, (KB.out.trans (H2.out.mono (Nat.le_trans hbase KB.out.size))).setCell hg _⟩
            · rw [HT.out, List.filter_append, List.filter_cons_of_pos (by simp [HP.out]), List.filter_nil, ← KT.out, List.take_succ_eq_append_getElem (by rw [List.length_set, KL.out]; omega), List.take_set_of_le (Nat.le_refl _), List.getElem_set_self]
            · rw [List.drop_set_of_lt (by omega), ← List.drop_drop, ← List.drop_drop, KD.out]
          case measure => simp [intOf]; omega
      · obtain rfl : b = l.length := by omega
        have hcl : ∀ j, j < l.length - a → (wr.cell? ⟨g, a + j, none⟩).isSome = true := by
          intro j hj
          obtain ⟨ad, hA, hcell⟩ := Kd.at_string (Kd.R_reads' KR.out).2.2 ((a + j : Nat) : Int) (by omega) (by rw [KL.out]; omega)
          injection hA with hA
          subst hA
          rw [add_plain, Int.toNat_natCast] at hcell
          rw [hcell]; rfl
        have e0 := Lib.run_clear_slice (P := Tryd.prog) wr 26 9 0 (.string ⟨#[]⟩) Tryd.underlying26 (fun W => by kernel_rfl) rfl rfl g a (l.length - a) (c0 - a) (by omega) hcl (fun j _ => blk_frozen KC.out (a + j))
        clear hcl
        obtain ⟨ys, hy1, hy2, hy3, hy4⟩ := row_clear hg (l.length - a) a KR.out KB.out
        have HY := Lib.hid (Kd.R_take (m := a) hy3 (by rw [hy1, KL.out]; omega))
        have HZ := Lib.hid hy4
        have HX := Lib.hid hy2
        clear hy1 hy2 hy3 hy4
        generalize wr.setCells g a (List.replicate (l.length - a) (.string ⟨#[]⟩)) = W9 at *
        go_wp2
        go_ret
        refine ⟨_, rfl, ?_, HZ.out⟩
        have := HY.out
        rw [HX.out, KT.out, List.take_length] at this
        exact this

set_option maxHeartbeats 1000000 in
theorem without_1 (name s : ByteArray) (B : Nat) (w : World) (hc : w.cell? ⟨B, 0, none⟩ = some (.string name)) (ha : name.size ≤ 9223372036854775807) (hb : s.size ≤ 9223372036854775807) :
    Calls Tryd.prog 39 #[.string s, .pointer (some ⟨B, 0, none⟩)] w fun e w' => e = .returned (.bool (sameB name s)) ∧ Below w.heap.size w w' := by
  go_enter Tryd.func39, Tryd.ntmps39
  go_wp2_with (go_at_call 24; (with_reducible refine (text_Same name s _ ha hb).mono ?_); rintro e w1 ⟨rfl, h1⟩)
  go_ret
  exact ⟨rfl, h1⟩
set_option maxHeartbeats 4000000 in
set_option maxRecDepth 100000 in
theorem indexFunc_without (name : ByteArray) (B : Nat) (A0 : Option Addr) (c0 : Nat) (l : List ByteArray) (w : World) (hr : Kd.C Kd.string w A0 l.length l) (hm : l.length ≤ 9223372036854775807) (hB : B < w.heap.size) (hc : w.cell? ⟨B, 0, none⟩ = some (.string name)) (ha : name.size ≤ 9223372036854775807) (hl : ∀ s ∈ l, s.size ≤ 9223372036854775807) :
    Calls Tryd.prog 34 #[.slice A0 l.length c0, .func (Fn.func 39) #[] #[.pointer (some ⟨B, 0, none⟩)]] w fun e w' => e = .returned (.int .i64 (idxI (sameB name) l)) ∧ Below w.heap.size w w' := by
  have HR := Lib.hid hr
  have HL := Lib.hid hl
  have HC := Lib.hid hc
  clear hr hl hc
  go_enter Tryd.func34, Tryd.ntmps34
  go_wp2
  go_loopw [8] (fun v W => ∃ k : Nat, k ≤ l.length ∧ v = .int .i64 k ∧ Hid (∀ s ∈ l.take k, sameB name s = false) ∧ Hid (Below w.heap.size w W)) (fun v _ => l.length - (intOf v).toNat)
  case atStart => exact ⟨0, Nat.zero_le _, rfl, Lib.hid (by simp), Lib.hid (Below.refl _ _)⟩
  case round =>
    obtain ⟨k, hk, rfl, HN, HB⟩ := hrel
    by_cases hlt : k < l.length
    · have HC2 : wr.cell? ⟨B, 0, none⟩ = some (.string name) := by rw [HB.out.cell (p := ⟨B, 0, none⟩) hB]; exact HC.out
      have HC2 := Lib.hid HC2
      obtain ⟨ad, rfl, hcell⟩ := Kd.at_string (Kd.C_below HR.out HB.out) (k : Int) (by omega) (by omega)
      have hmem : rdOf ByteArray.empty l (k : Int) ∈ l := by unfold rdOf; simp [List.getD_eq_getElem?_getD, show k < l.length from hlt]
      have hsz := HL.out _ hmem
      have htk : l.take (k + 1) = l.take k ++ [rdOf ByteArray.empty l (k : Int)] := by rw [List.take_succ_eq_append_getElem hlt]; unfold rdOf; simp [List.getD_eq_getElem?_getD, hlt]
      have HT := Lib.hid htk
      have HMEM := Lib.hid hmem
      have HSZ := Lib.hid hsz
      clear htk hmem hsz
      simp only [Int.toNat_natCast] at hcell
      generalize hx : rdOf ByteArray.empty l (k : Int) = x at *
      clear hx
      by_cases hp : sameB name x = true
      · have HP := Lib.hid hp
        clear hp
        go_wp2_with (go_at_call 39; (with_reducible refine (without_1 name x B _ HC2.out ha HSZ.out).mono ?_); rintro e w1 ⟨rfl, h1⟩; rw [HP.out])
        go_ret
        refine ⟨?_, below_step HB.out h1⟩
        rw [idxI_at HN.out HT.out HP.out hlt]
        rfl
      · have HP := Lib.hid (Bool.eq_false_iff.mpr hp)
        clear hp
        go_wp2_with (go_at_call 39; (with_reducible refine (without_1 name x B _ HC2.out ha HSZ.out).mono ?_); rintro e w1 ⟨rfl, h1⟩; rw [HP.out])
        go_roundw
        case rel =>
          refine ⟨k + 1, by omega, by go_num, Lib.hid ?_, Lib.hid (below_step HB.out h1)⟩
          rw [HT.out]
          intro s hs
          rcases List.mem_append.mp hs with h | h
          · exact HN.out s h
          · obtain rfl := List.mem_singleton.mp h; exact HP.out
        case measure => simp [intOf]; omega
    · obtain rfl : k = l.length := by omega
      go_wp2
      go_ret
      refine ⟨?_, HB.out⟩
      have hn := HN.out
      rw [List.take_length] at hn
      rw [idxI_none hn]
      rfl
set_option maxHeartbeats 1000000 in
theorem contains_without (name : ByteArray) (B : Nat) (A0 : Option Addr) (c0 : Nat) (l : List ByteArray) (w : World) (hr : Kd.C Kd.string w A0 l.length l) (hm : l.length ≤ 9223372036854775807) (hB : B < w.heap.size) (hc : w.cell? ⟨B, 0, none⟩ = some (.string name)) (ha : name.size ≤ 9223372036854775807) (hl : ∀ s ∈ l, s.size ≤ 9223372036854775807) :
    Calls Tryd.prog 38 #[.slice A0 l.length c0, .func (Fn.func 39) #[] #[.pointer (some ⟨B, 0, none⟩)]] w fun e w' => e = .returned (.bool (l.any (sameB name))) ∧ Below w.heap.size w w' := by
  have H := Lib.hid (idxI_any (sameB name) l)
  go_enter Tryd.func38, Tryd.ntmps38
  go_wp2_with (go_at_call 34; (with_reducible refine (indexFunc_without name B A0 c0 l _ hr hm hB hc ha hl).mono ?_); rintro e w1 ⟨rfl, h1⟩)
  go_ret
  exact ⟨by rw [← H.out]; rfl, h1⟩

end Go.Proofs.YtfmpajagkjealaaDoor.Hand
