/- The contracts of functions that the printer does not take, walked by hand: small letters, texts without some bytes at their ends, .. -/
import Derived.Test.YtijcibdpcolfpaaDoorShelf
import Derived.Test.YtijcibdpcolfpaaDoorLow
import Derived.Test.YtijcibdpcolfpaaDoorTrim
import Derived.Test.YtijcibdpcolfpaaDoorHex
import Derived.WalkKit
import Derived.LoopTactic
import Derived.Below
import Derived.Laws.Bits64b
import Derived.Lib.SliceRun
namespace Go.Proofs.YtijcibdpcolfpaaDoor.Hand
open Go.RowKit Go.Proofs.YtijcibdpcolfpaaDoorW.PrintWords Go.Proofs.YtijcibdpcolfpaaDoorW.PrintLast Go.Proofs.YtijcibdpcolfpaaDoorW.PrintMore
set_option linter.unusedVariables false
set_option linter.unusedSimpArgs false
def RelLow (s : ByteArray) (w : World) (k : Nat) (W : World) : Prop := Low.LowRow s k w.heap.size 5 W ∧ Below w.heap.size w W
def sameB (a b : ByteArray) : Bool := (Low.lower a).toList == (Low.lower b).toList

theorem blank_any (c : Int) (w : World) : Calls Tryd.prog 33 #[.int .u8 c] w fun e w' => e = .returned (.bool (Trim.blankB c)) ∧ w' = w := by
  unfold Trim.blankB
  by_cases h : c = 32
  · subst h
    go_enter Tryd.func33, Tryd.ntmps33
    go_wp2
    go_ret
    exact ⟨rfl, rfl⟩
  · have h2 : (c == 32) = false := by simpa using h
    go_enter Tryd.func33, Tryd.ntmps33
    go_wp2
    go_ret
    exact ⟨by rw [h2]; rfl, rfl⟩
set_option maxHeartbeats 4000000 in
set_option maxRecDepth 100000 in
theorem trimmed_blank (s : ByteArray) (w : World) (hs : s.size ≤ 9223372036854775807) :
    Calls Tryd.prog 43 #[.string s, .func (Fn.func 33) #[] #[]] w fun e w' => e = .returned (.string (Trim.trimB Trim.blankB s)) ∧ w' = w := by
  go_enter Tryd.func43, Tryd.ntmps43
  go_wp2
  go_loop [0] (fun v => ∃ i : Nat, i ≤ Trim.lead Trim.blankB (bytesOf s) ∧ v = .string (s.extract i s.size)) (fun v => match v with | .string x => x.size | _ => 0)
  case atStart => exact ⟨0, Nat.zero_le _, by rw [ByteArray.extract_zero_size]⟩
  case round =>
    obtain ⟨i, hi, rfl⟩ := hrel
    by_cases hlt : i < Trim.lead Trim.blankB (bytesOf s)
    · obtain ⟨h1, h2⟩ := Trim.left_yes hlt
      have hz : (s.extract i s.size).size = s.size - i := Trim.ext_size _ _ _ (Nat.le_refl _)
      have hn := Trim.ext_left s i 1
      obtain ⟨x, hx⟩ : ∃ x, x = s.extract i s.size := ⟨_, rfl⟩
      rw [← hx] at h2 hz hn ⊢
      have h0 : 0 < x.size := by omega
      have hem : x.toList.isEmpty = false := by rw [Trim.empty_iff]; exact decide_eq_false (by omega)
      have hb : Trim.blankB (x[0].toNat : Int) = true := by rw [← h2]; unfold bt; rw [dif_pos (show (0 : Int).toNat < x.size by simpa using h0)]; rfl
      have HN := Lib.hid hn; have HZ := Lib.hid hz; clear hn hz h2 hx
      go_wp2_with (go_at_call 33; (with_reducible refine (blank_any _ _).mono ?_); rintro e w' ⟨rfl, rfl⟩; rw [hb])
      all_goals
        go_round
        case rel => exact ⟨i + 1, by omega, by rw [HN.out]⟩
        case measure => simp; omega
    · obtain rfl : i = Trim.lead Trim.blankB (bytesOf s) := by omega
      clear hi hlt
      have hle := Trim.lead_le Trim.blankB (bytesOf s)
      rw [bytesOf_length] at hle
      have hz : (Trim.trimL Trim.blankB s).size = s.size - Trim.lead Trim.blankB (bytesOf s) := Trim.ext_size _ _ _ (Nat.le_refl _)
      have hno : 0 < (Trim.trimL Trim.blankB s).size → Trim.blankB (bt (Trim.trimL Trim.blankB s) 0) = false := fun h => Trim.left_no (by omega)
      rw [show s.extract (Trim.lead Trim.blankB (bytesOf s)) s.size = Trim.trimL Trim.blankB s from rfl]
      have hxs : (Trim.trimL Trim.blankB s).size ≤ 9223372036854775807 := by omega
      obtain ⟨x, hx⟩ : ∃ x, x = Trim.trimL Trim.blankB s := ⟨_, rfl⟩
      have HT0 : Trim.trimB Trim.blankB s = Trim.trimR Trim.blankB x := by rw [hx]; rfl
      have HT := Lib.hid HT0
      clear HT0
      rw [← hx] at hno hxs ⊢
      clear hle hz hs hx
      by_cases h0 : x.size = 0
      · have hem : x.toList.isEmpty = true := by rw [Trim.empty_iff]; exact decide_eq_true h0
        clear hno
        go_wp2
        clear h0
        go_loop [0] (fun v => ∃ m : Nat, x.size - Trim.lead Trim.blankB (bytesOf x).reverse ≤ m ∧ m ≤ x.size ∧ v = .string (x.extract 0 m)) (fun v => match v with | .string x => x.size | _ => 0)
        case atStart => exact ⟨x.size, by omega, Nat.le_refl _, by rw [ByteArray.extract_zero_size]⟩
        case round =>
          obtain ⟨m, hm1, hm2, rfl⟩ := hrel
          by_cases hlt : x.size - Trim.lead Trim.blankB (bytesOf x).reverse < m
          · obtain ⟨h1, h2⟩ := Trim.right_yes hm2 hlt
            have hz : (x.extract 0 m).size = m := Trim.ext_size _ _ _ hm2
            have hn := Trim.ext_right x m (m - 1) (by omega)
            obtain ⟨y, hy⟩ : ∃ y, y = x.extract 0 m := ⟨_, rfl⟩
            rw [← hy] at h2 hz hn ⊢
            have hemy : y.toList.isEmpty = false := by rw [Trim.empty_iff]; exact decide_eq_false (by omega)
            have h0y : 0 < y.size := by omega
            have hys : y.size ≤ 9223372036854775807 := by omega
            have hbt : Hid (∀ (j : Nat) (hj : j < y.size), j = m - 1 → Trim.blankB ((y[j]'hj).toNat : Int) = true) := Lib.hid (fun j hj e => by
              subst e
              rw [← h2]; unfold bt; rw [dif_pos (show ((m : Int) - 1).toNat < y.size by omega)]
              congr 3
              simp only [show ((m : Int) - 1).toNat = m - 1 by omega])
            have HN := Lib.hid hn; have HZ := Lib.hid hz; clear hn hz h2 hy
            go_wp2_with (go_at_call 33; (with_reducible refine (blank_any _ _).mono ?_); rintro e w' ⟨rfl, rfl⟩; rw [hbt.out _ _ (by have := HZ.out; omega)])
            all_goals
              go_round
              case rel => exact ⟨m - 1, by omega, by omega, by rw [← HN.out]; congr 2; have := HZ.out; omega⟩
              case measure => have := HZ.out; simp; omega
          · obtain rfl : m = x.size - Trim.lead Trim.blankB (bytesOf x).reverse := by omega
            have hno : 0 < x.size - Trim.lead Trim.blankB (bytesOf x).reverse → Trim.blankB (bt (Trim.trimR Trim.blankB x) (((x.size - Trim.lead Trim.blankB (bytesOf x).reverse : Nat) : Int) - 1)) = false := fun h => Trim.right_no h
            have hz : (Trim.trimR Trim.blankB x).size = x.size - Trim.lead Trim.blankB (bytesOf x).reverse := Trim.ext_size _ _ _ hm2
            rw [show x.extract 0 (x.size - Trim.lead Trim.blankB (bytesOf x).reverse) = Trim.trimR Trim.blankB x from rfl]
            rw [← hz] at hno
            have HQ0 := HT.out
            obtain ⟨y, hy⟩ : ∃ y, y = Trim.trimR Trim.blankB x := ⟨_, rfl⟩
            rw [← hy] at hno hz HQ0 ⊢
            have HQ := Lib.hid HQ0
            clear HQ0
            have hys : y.size ≤ 9223372036854775807 := by omega
            clear hz hy hm1 hm2 hlt
            by_cases h0y : y.size = 0
            · have hemy : y.toList.isEmpty = true := by rw [Trim.empty_iff]; exact decide_eq_true h0y
              clear hno h0y
              go_wp2
              go_ret
              exact ⟨by rw [HQ.out]; rfl, rfl⟩
            · have h0y : 0 < y.size := by omega
              have hemy : y.toList.isEmpty = false := by rw [Trim.empty_iff]; exact decide_eq_false (by omega)
              have hbt : Hid (∀ (j : Nat) (hj : j < y.size), j = y.size - 1 → Trim.blankB ((y[j]'hj).toNat : Int) = false) := Lib.hid (fun j hj e => by
                subst e
                rw [← hno h0y]; unfold bt; rw [dif_pos (show ((y.size : Int) - 1).toNat < y.size by omega)]
                congr 3
                simp only [show ((y.size : Int) - 1).toNat = y.size - 1 by omega])
              clear hno
              go_wp2_with (go_at_call 33; (with_reducible refine (blank_any _ _).mono ?_); rintro e w' ⟨rfl, rfl⟩; rw [hbt.out _ _ (by omega)])
              go_ret
              exact ⟨by rw [HQ.out]; rfl, rfl⟩
      · have h0 : 0 < x.size := by omega
        have hem : x.toList.isEmpty = false := by rw [Trim.empty_iff]; exact decide_eq_false (by omega)
        have hb : Trim.blankB (x[0].toNat : Int) = false := by rw [← hno h0]; unfold bt; rw [dif_pos (show (0 : Int).toNat < x.size by simpa using h0)]; rfl
        clear hno
        have HB0 := Lib.hid hb
        go_wp2_with (go_at_call 33; (with_reducible refine (blank_any _ _).mono ?_); rintro e w' ⟨rfl, rfl⟩; rw [hb])
        go_loop [0] (fun v => ∃ m : Nat, x.size - Trim.lead Trim.blankB (bytesOf x).reverse ≤ m ∧ m ≤ x.size ∧ v = .string (x.extract 0 m)) (fun v => match v with | .string x => x.size | _ => 0)
        case atStart => exact ⟨x.size, by omega, Nat.le_refl _, by rw [ByteArray.extract_zero_size]⟩
        case round =>
          obtain ⟨m, hm1, hm2, rfl⟩ := hrel
          by_cases hlt : x.size - Trim.lead Trim.blankB (bytesOf x).reverse < m
          · obtain ⟨h1, h2⟩ := Trim.right_yes hm2 hlt
            have hz : (x.extract 0 m).size = m := Trim.ext_size _ _ _ hm2
            have hn := Trim.ext_right x m (m - 1) (by omega)
            obtain ⟨y, hy⟩ : ∃ y, y = x.extract 0 m := ⟨_, rfl⟩
            rw [← hy] at h2 hz hn ⊢
            have hemy : y.toList.isEmpty = false := by rw [Trim.empty_iff]; exact decide_eq_false (by omega)
            have h0y : 0 < y.size := by omega
            have hys : y.size ≤ 9223372036854775807 := by omega
            have hbt : Hid (∀ (j : Nat) (hj : j < y.size), j = m - 1 → Trim.blankB ((y[j]'hj).toNat : Int) = true) := Lib.hid (fun j hj e => by
              subst e
              rw [← h2]; unfold bt; rw [dif_pos (show ((m : Int) - 1).toNat < y.size by omega)]
              congr 3
              simp only [show ((m : Int) - 1).toNat = m - 1 by omega])
            have HN := Lib.hid hn; have HZ := Lib.hid hz; clear hn hz h2 hy
            go_wp2_with (go_at_call 33; (with_reducible refine (blank_any _ _).mono ?_); rintro e w' ⟨rfl, rfl⟩; rw [hbt.out _ _ (by have := HZ.out; omega)])
            all_goals
              go_round
              case rel => exact ⟨m - 1, by omega, by omega, by rw [← HN.out]; congr 2; have := HZ.out; omega⟩
              case measure => have := HZ.out; simp; omega
          · obtain rfl : m = x.size - Trim.lead Trim.blankB (bytesOf x).reverse := by omega
            have hno : 0 < x.size - Trim.lead Trim.blankB (bytesOf x).reverse → Trim.blankB (bt (Trim.trimR Trim.blankB x) (((x.size - Trim.lead Trim.blankB (bytesOf x).reverse : Nat) : Int) - 1)) = false := fun h => Trim.right_no h
            have hz : (Trim.trimR Trim.blankB x).size = x.size - Trim.lead Trim.blankB (bytesOf x).reverse := Trim.ext_size _ _ _ hm2
            rw [show x.extract 0 (x.size - Trim.lead Trim.blankB (bytesOf x).reverse) = Trim.trimR Trim.blankB x from rfl]
            rw [← hz] at hno
            have HQ0 := HT.out
            obtain ⟨y, hy⟩ : ∃ y, y = Trim.trimR Trim.blankB x := ⟨_, rfl⟩
            rw [← hy] at hno hz HQ0 ⊢
            have HQ := Lib.hid HQ0
            clear HQ0
            have hys : y.size ≤ 9223372036854775807 := by omega
            clear hz hy hm1 hm2 hlt
            by_cases h0y : y.size = 0
            · have hemy : y.toList.isEmpty = true := by rw [Trim.empty_iff]; exact decide_eq_true h0y
              clear hno h0y
              go_wp2
              go_ret
              exact ⟨by rw [HQ.out]; rfl, rfl⟩
            · have h0y : 0 < y.size := by omega
              have hemy : y.toList.isEmpty = false := by rw [Trim.empty_iff]; exact decide_eq_false (by omega)
              have hbt : Hid (∀ (j : Nat) (hj : j < y.size), j = y.size - 1 → Trim.blankB ((y[j]'hj).toNat : Int) = false) := Lib.hid (fun j hj e => by
                subst e
                rw [← hno h0y]; unfold bt; rw [dif_pos (show ((y.size : Int) - 1).toNat < y.size by omega)]
                congr 3
                simp only [show ((y.size : Int) - 1).toNat = y.size - 1 by omega])
              clear hno
              go_wp2_with (go_at_call 33; (with_reducible refine (blank_any _ _).mono ?_); rintro e w' ⟨rfl, rfl⟩; rw [hbt.out _ _ (by omega)])
              go_ret
              exact ⟨by rw [HQ.out]; rfl, rfl⟩
set_option maxHeartbeats 1000000 in
theorem text_Trim (s : ByteArray) (w : World) (hs : s.size ≤ 9223372036854775807) : Calls Tryd.prog 28 #[.string s] w fun e w' => e = .returned (.string (Trim.trimB Trim.blankB s)) ∧ w' = w := by
  go_enter Tryd.func28, Tryd.ntmps28
  go_wp2_with (go_at_call 43; (with_reducible refine (trimmed_blank _ _ hs).mono ?_); rintro e w' ⟨rfl, rfl⟩)
  go_ret
  exact ⟨rfl, rfl⟩

end Go.Proofs.YtijcibdpcolfpaaDoor.Hand
