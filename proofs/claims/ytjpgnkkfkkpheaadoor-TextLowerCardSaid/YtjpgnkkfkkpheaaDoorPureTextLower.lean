/- It is proved that TextLower answers true for every list of bytes and every place: small letters are small, no other byte changes, and texts that are alike in small letters are the same. -/
import Derived.Test.YtjpgnkkfkkpheaaDoorPTextLowerx4
import Derived.Test.YtjpgnkkfkkpheaaDoorTxtTextLower
import Derived.Test.YtjpgnkkfkkpheaaDoorLowP
namespace Go.Proofs.YtjpgnkkfkkpheaaDoor.Pure
open Go.RowKit Go.Proofs.YtjpgnkkfkkpheaaDoor.PTextLower Go.Proofs.YtjpgnkkfkkpheaaDoorW.PrintWords Go.Proofs.YtjpgnkkfkkpheaaDoorW.PrintLast Go.Proofs.YtjpgnkkfkkpheaaDoor.Aid Go.Proofs.YtjpgnkkfkkpheaaDoor.Low Go.Proofs.YtjpgnkkfkkpheaaDoor.LowP Go.Proofs.YtjpgnkkfkkpheaaDoor.Hand

theorem lower_some {s : ByteArray} (h : s.size ≤ 9223372036854775807) : text_Lower.f s = some (lower s) := by unfold text_Lower.f; rw [if_pos h]
theorem same_some {a b : ByteArray} (h : a.size ≤ 9223372036854775807) (h' : b.size ≤ 9223372036854775807) : text_Same.f a b = some (sameB a b) := by unfold text_Same.f; rw [if_pos ⟨h, h'⟩]
theorem flip_byte : ∀ n : Fin 256, (0 ≤ Go.bits .xor .u8 (n.val : Int) 32 ∧ Go.bits .xor .u8 (n.val : Int) 32 < 256) ∧ decide (loC (Go.bits .xor .u8 (n.val : Int) 32) = loC (n.val : Int)) = (if (Go.bits .or .u8 (n.val : Int) 32) ≥ 97 then decide ((Go.bits .or .u8 (n.val : Int) 32) ≤ 122) else false) := by
  decide +kernel
theorem rest (l : List Int) (a1 : Int) (hl : ∀ x ∈ l, 0 ≤ x ∧ x < 256) (hn : l.length ≤ 80) (ha : 0 ≤ a1 ∧ a1 < 256) (d : Nat) : ∀ (i : Nat), i + d = l.length →
    Ev (fun k => parallaxlaw3_TextLower.l0 k l a1 (strOfNums l) (lower (strOfNums l)) (i : Int)) true := by
  have hbs := bytes_nums hl
  have hsz : (strOfNums l).size = l.length := strOfNums_size l
  have hsl := size_lower (strOfNums l)
  induction d with
  | zero =>
    intro i hi
    refine Ev.step (fun _ => parallaxlaw3_TextLower.l0.eq_2 ..) (Ev.neg (by omega) ?_)
    by_cases h0 : l.length = 0
    · exact Ev.pos (by omega) (Ev.now _)
    · refine Ev.neg (by omega) (Ev.pos (by simp; omega) (Ev.val rfl (Ev.neg (by rw [List.nil_append]; omega) ?_)))
      rw [List.nil_append, wrap_in (i := a1) (by omega) (by omega)]
      have hm0 : 0 ≤ Int.tmod a1 (l.length : Int) := Int.tmod_nonneg _ ha.1
      have hm1 : Int.tmod a1 (l.length : Int) < (l.length : Int) := Int.tmod_lt_of_pos _ (by omega)
      obtain ⟨j, hj⟩ : ∃ j : Nat, Int.tmod a1 (l.length : Int) = j := ⟨(Int.tmod a1 (l.length : Int)).toNat, by omega⟩
      rw [hj] at hm0 hm1 ⊢
      have hjl : j < l.length := by omega
      refine Ev.pos hm0 (Ev.pos hm1 (Ev.pos hm0 (Ev.pos hm1 ?_)))
      have hc : rd l (j : Int) = l[j] := by rw [rd_nat]; simp [List.getD_eq_getElem?_getD, hjl]
      have hr := hl _ (List.getElem_mem hjl)
      have hf := byte_all (p := fun c => (0 ≤ Go.bits .xor .u8 c 32 ∧ Go.bits .xor .u8 c 32 < 256) ∧ decide (loC (Go.bits .xor .u8 c 32) = loC c) = (if (Go.bits .or .u8 c 32) ≥ 97 then decide ((Go.bits .or .u8 c 32) ≤ 122) else false)) flip_byte hr.1 hr.2
      rw [hc, Int.toNat_natCast]
      have hl2 : ∀ x ∈ l.set j (Go.bits .xor .u8 l[j] 32), 0 ≤ x ∧ x < 256 := by
        intro x hx
        rcases List.mem_or_eq_of_mem_set hx with h | h
        · exact hl x h
        · rw [h]; exact hf.1
      have hs2 : (strOfNums (l.set j (Go.bits .xor .u8 l[j] 32))).size = l.length := by rw [strOfNums_size, List.length_set]
      refine Ev.val (same_some (by omega) (by omega)) ?_
      have hsame : sameB (strOfNums l) (strOfNums (l.set j (Go.bits .xor .u8 l[j] 32))) = decide (loC (Go.bits .xor .u8 l[j] 32) = loC l[j]) := by
        rw [same_decide, hbs, bytes_nums hl2, decide_eq_decide]
        constructor
        · intro h
          have := congrArg (fun z => z[j]?) h
          simp [hjl] at this
          exact this.symm
        · intro h
          rw [List.map_set, h]
          apply List.ext_getElem (by simp)
          intro i h1 h2
          by_cases e : j = i
          · subst e; simp
          · simp [List.getElem_set_ne e]
      rw [hsame, hf.2]
      by_cases h97 : (Go.bits .or .u8 l[j] 32) ≥ 97
      · refine Ev.pos h97 ((Ev.now _).to ?_)
        rw [if_pos h97]; simp
      · refine Ev.neg h97 ((Ev.now _).to ?_)
        rw [if_neg h97]; simp
  | succ d ih =>
    intro i hi
    have hw : wrap64 ((i : Int) + 1) = ((i + 1 : Nat) : Int) := wrap_nat (by omega)
    have hb := bt_lower (strOfNums l) i (by omega)
    have hr := bt_lt (strOfNums l) (i : Int)
    refine Ev.step (fun _ => parallaxlaw3_TextLower.l0.eq_2 ..) (Ev.pos (by omega) (Ev.pos (by omega) ?_))
    rw [hb, hw]
    by_cases h1 : bt (strOfNums l) (i : Int) ≥ 65
    · by_cases h2 : bt (strOfNums l) (i : Int) ≤ 90
      · have : loC (bt (strOfNums l) (i : Int)) = (bt (strOfNums l) (i : Int) + 32) % 256 := by rw [lo_up h1 h2]; omega
        exact Ev.pos h1 (Ev.pos h2 (Ev.pos (by omega) (Ev.pos this (ih (i + 1) (by omega)))))
      · exact Ev.pos h1 (Ev.neg h2 (Ev.pos (by omega) (Ev.pos (lo_not (by omega)) (ih (i + 1) (by omega)))))
    · exact Ev.neg h1 (Ev.pos (by omega) (Ev.pos (lo_not (by omega)) (ih (i + 1) (by omega))))

theorem TextLower : parallaxlaw3_TextLower.Pure := by
  intro l a1 _ _ hw ha
  have hl : ∀ x ∈ l, 0 ≤ x ∧ x < 256 := fun x hx => u8_wf (hw x hx)
  have ha := u8_wf ha
  refine Ev.rounds (g := fun k => parallaxlaw3_TextLower.f k l a1) ?_
  unfold parallaxlaw3_TextLower.f
  refine Ev.bind known_ev (Ev.pos rfl ?_)
  by_cases h : (l.length : Int) > 80
  · exact Ev.pos h (Ev.now _)
  · have hsz : (strOfNums l).size = l.length := strOfNums_size l
    have hsl := size_lower (strOfNums l)
    refine Ev.neg h (Ev.val (lower_some (by omega)) (Ev.pos (by omega) (Ev.val (lower_some (by omega)) (Ev.pos (by rw [lower_lower]) ?_))))
    exact rest l a1 hl (by omega) ha l.length 0 (by omega)

end Go.Proofs.YtjpgnkkfkkpheaaDoor.Pure
