/- It is proved that TextLists answers true for every list of byte lists: the parts of a list, joined again, are the list, but for blanks. -/
import Derived.Test.YtjpgnkkfkkpheaaDoorPTextListsx4
import Derived.Test.YtjpgnkkfkkpheaaDoorTxtTextLists
import Derived.Test.YtjpgnkkfkkpheaaDoorLowP
import Derived.Test.YtjpgnkkfkkpheaaDoorTrimP
namespace Go.Proofs.YtjpgnkkfkkpheaaDoor.Pure
open Go.RowKit Go.Proofs.YtjpgnkkfkkpheaaDoor.PTextLists Go.Proofs.YtjpgnkkfkkpheaaDoorW.PrintWords Go.Proofs.YtjpgnkkfkkpheaaDoorW.PrintLast Go.Proofs.YtjpgnkkfkkpheaaDoor.Aid Go.Proofs.YtjpgnkkfkkpheaaDoor.Parts Go.Proofs.YtjpgnkkfkkpheaaDoor.TrimP Go.Proofs.YtjpgnkkfkkpheaaDoor.Trim

/-- the text's parts, without blanks, are these -/
def Inv (s : ByteArray) (want : List ByteArray) : Prop := (splitU 44 s.data.toList).map (trimU (asU blankB)) = want.map (·.data.toList)
/-- neither comma nor blank -/
def Word (w : ByteArray) : Prop := ∀ b ∈ w.data.toList, b ≠ 44 ∧ asU blankB b = false
def Pad (x : List UInt8) : Prop := ∀ b ∈ x, b ≠ 44 ∧ asU blankB b = true

theorem inv_parts {s : ByteArray} {want : List ByteArray} (h : Inv s want) : (parts 44 s).map (trimB blankB) = want := by
  unfold Inv at h
  unfold parts
  rw [List.map_map]
  have e : (trimB blankB ∘ BA) = BA ∘ trimU (asU blankB) := by funext l; simp [trimB_eq, data_BA]
  rw [e, ← List.map_map, h, List.map_map]
  have e2 : (BA ∘ fun x : ByteArray => x.data.toList) = id := by funext s; simp [BA_data]
  rw [e2, List.map_id]
theorem inv_list {s : ByteArray} {want : List ByteArray} (h : Inv s want) : listB [s] = want := by
  unfold listB; simp [inv_parts h]
theorem last_of {c : UInt8} (l : List UInt8) : ∃ ps z, splitU c l = ps ++ [z] := by
  have := splitU_ne c l
  exact ⟨(splitU c l).dropLast, (splitU c l).getLast this, (List.dropLast_concat_getLast this).symm⟩
theorem inv_pad {s : ByteArray} {want : List ByteArray} {x y : List UInt8} (hx : Pad x) (hy : Pad y) (h : Inv s want) : Inv (BA x ++ s ++ BA y) want := by
  unfold Inv at h ⊢
  rw [Parts.data_app, Parts.data_app, data_BA, data_BA]
  obtain ⟨z, ps, hz⟩ : ∃ z ps, splitU 44 s.data.toList = z :: ps := by
    cases e : splitU 44 s.data.toList with
    | nil => exact absurd e (splitU_ne 44 _)
    | cons z ps => exact ⟨z, ps, rfl⟩
  have h1 := splitU_pre 44 x (fun e => (hx 44 e).1 rfl) s.data.toList z ps hz
  obtain ⟨qs, u, hq⟩ := last_of (c := 44) (x ++ s.data.toList)
  rw [splitU_ext 44 y (fun e => (hy 44 e).1 rfl) _ qs u hq]
  rw [← h, hz]
  rw [h1] at hq
  rw [List.map_append, List.map_cons, List.map_nil, trimU_right (fun b hb => (hy b hb).2)]
  have := congrArg (List.map (trimU (asU blankB))) hq
  rw [List.map_cons, List.map_append, List.map_cons, List.map_nil, trimU_left (fun b hb => (hx b hb).2)] at this
  rw [← this, List.map_cons]
theorem inv_first {w : ByteArray} (hw : Word w) : Inv w [w] := by
  unfold Inv
  rw [splitU_none 44 _ (fun e => (hw 44 e).1 rfl), List.map_cons, List.map_nil, trimU_none (fun b hb => (hw b hb).2)]; rfl
theorem inv_next {s w : ByteArray} {want : List ByteArray} {x y : List UInt8} (hx : Pad x) (hy : Pad y) (hw : Word w) (h : Inv s want) : Inv (s ++ BA (x ++ 44 :: y) ++ w) (want ++ [w]) := by
  unfold Inv at h ⊢
  rw [Parts.data_app, Parts.data_app, data_BA]
  have e : s.data.toList ++ (x ++ 44 :: y) ++ w.data.toList = (s.data.toList ++ x) ++ 44 :: (y ++ w.data.toList) := by simp
  rw [e, splitU_app]
  obtain ⟨qs, u, hq⟩ := last_of (c := 44) s.data.toList
  rw [splitU_ext 44 x (fun e => (hx 44 e).1 rfl) _ qs u hq]
  rw [splitU_none 44 (y ++ w.data.toList) (fun e => by
    rcases List.mem_append.mp e with h1 | h1
    · exact (hy 44 h1).1 rfl
    · exact (hw 44 h1).1 rfl)]
  rw [hq] at h
  rw [List.map_append, List.map_append, List.map_cons, List.map_nil, List.map_cons, List.map_nil, trimU_right (fun b hb => (hx b hb).2), trimU_left (fun b hb => (hy b hb).2), trimU_none (fun b hb => (hw b hb).2)]
  rw [List.map_append, List.map_cons, List.map_nil] at h
  rw [List.map_append, h]; rfl

theorem sep_of (r : Nat) (hr : r < 3) : ∃ x y, Pad x ∧ Pad y ∧ rdOf ByteArray.empty ([(⟨#[44]⟩ : ByteArray), (⟨#[32, 44]⟩ : ByteArray), (⟨#[44, 32, 9]⟩ : ByteArray)] : List ByteArray) (r : Int) = BA (x ++ 44 :: y) ∧ (x ++ 44 :: y).length ≤ 3 := by
  match r, hr with
  | 0, _ => exact ⟨[], [], by simp [Pad], by simp [Pad], rfl, by simp⟩
  | 1, _ => exact ⟨[32], [], by simp [Pad]; decide, by simp [Pad], rfl, by simp⟩
  | 2, _ => exact ⟨[], [32, 9], by simp [Pad], by simp [Pad]; decide, rfl, by simp⟩
theorem rd_mem (l : List (List Int)) (i : Nat) (h : i < l.length) : rd_L3 l (i : Int) ∈ l := by
  unfold rd_L3; simp [List.getD_eq_getElem?_getD, h]

theorem same_loop (want : List ByteArray) (hn : want.length ≤ 8) (d : Nat) : ∀ i : Nat, i + d = want.length → Ev (fun k => parallaxlaw3_TextLists.l2 k want want (want ++ want) (i : Int)) true := by
  induction d with
  | zero => intro i hi; exact Ev.step (fun _ => parallaxlaw3_TextLists.l2.eq_2 ..) (Ev.neg (by omega) (Ev.now _))
  | succ d ih =>
    intro i hi
    have hi8 : i < 9 := by omega
    have h2 : (want ++ want).length = want.length + want.length := List.length_append
    have e1 : rdOf ByteArray.empty (want ++ want) (i : Int) = rdOf ByteArray.empty want (i : Int) := by
      unfold rdOf; rw [Int.toNat_natCast, List.getD_eq_getElem?_getD, List.getD_eq_getElem?_getD, List.getElem?_append_left (by omega)]
    have e2 : rdOf ByteArray.empty (want ++ want) ((i + want.length : Nat) : Int) = rdOf ByteArray.empty want (i : Int) := by
      unfold rdOf; rw [Int.toNat_natCast, Int.toNat_natCast, List.getD_eq_getElem?_getD, List.getD_eq_getElem?_getD, List.getElem?_append_right (by omega), Nat.add_sub_cancel]
    refine Ev.step (fun _ => parallaxlaw3_TextLists.l2.eq_2 ..) (Ev.pos (by omega) (Ev.pos (by omega) (Ev.pos (by omega) (Ev.pos rfl (Ev.pos (by omega) ?_)))))
    refine Ev.pos (by rw [e1]) ?_
    have hlt : i < 9223372036854775807 := by omega
    have hw1 : wrap64 ((i : Int) + (want.length : Int)) = ((i + want.length : Nat) : Int) := by rw [wrap_in (i := (i : Int) + (want.length : Int)) (by omega) (by omega)]; omega
    rw [hw1]
    refine Ev.pos (by omega) (Ev.pos (by omega) (Ev.pos (by rw [e2]) ?_))
    clear hw1
    rw [wrap_nat hlt]
    exact ih (i + 1) (by omega)

theorem final (l : List (List Int)) (s : ByteArray) (want : List ByteArray) (n : Int) (hn : ¬ n < (l.length : Int)) (hs : s.size ≤ 1000) (hw : want.length ≤ 8) (h : Inv s want) : Ev (fun k => parallaxlaw3_TextLists.l0 k l s want n) true := by
  have hsp : ((⟨#[32]⟩ : ByteArray) ++ s ++ (⟨#[32]⟩ : ByteArray)) = BA [32] ++ s ++ BA [32] := rfl
  have hp : Pad [32] := by simp [Pad]; decide
  have h2 := inv_pad hp hp h
  have z1 : ((⟨#[32]⟩ : ByteArray) ++ s).size = 1 + s.size := by rw [ByteArray.size_append]; rfl
  have z2 : (BA [32] ++ s ++ BA [32]).size = 1 + s.size + 1 := by rw [ByteArray.size_append, ByteArray.size_append]; rfl
  have e1 : listB [s] = want := inv_list h
  have e2 : listB [BA [32] ++ s ++ BA [32], s] = want ++ want := by
    show listB ([BA [32] ++ s ++ BA [32]] ++ [s]) = _
    unfold listB
    rw [List.flatMap_append]
    exact (congr (congrArg _ (inv_list h2)) e1)
  have hL1 := list_ev [s] (by simp; omega) (by simp) (by rw [e1]; omega)
  have hL2 := list_ev [BA [32] ++ s ++ BA [32], s] (by simp [z2]; omega) (by simp) (by rw [e2]; simp; omega)
  rw [e1] at hL1
  rw [e2] at hL2
  refine Ev.step (fun _ => parallaxlaw3_TextLists.l0.eq_2 ..) (Ev.neg hn (Ev.bind hL1 (Ev.pos (by omega) (Ev.pos (by omega) ?_))))
  rw [hsp]
  refine Ev.bind hL2 (Ev.pos rfl (Ev.pos ?_ (same_loop want hw want.length 0 (by omega))))
  rw [List.length_append, wrap_in (i := 2 * (want.length : Int)) (by omega) (by omega)]; omega

/-- one word is read, then what follows -/
theorem word_in (l : List (List Int)) (s : ByteArray) (want : List ByteArray) (i : Nat) (hi : i < l.length) (hb : ∀ c ∈ rd_L3 l (i : Int), 0 ≤ c ∧ c < 256) (hlen : (rd_L3 l (i : Int)).length ≤ 30)
    (hR : ∀ w : ByteArray, Word w → w.size ≤ 30 → Ev (fun k => parallaxlaw3_TextLists.l1 k l s want (i : Int) w ((rd_L3 l (i : Int)).length : Int)) true) (d : Nat) : ∀ (j : Nat) (w : ByteArray), j + d = (rd_L3 l (i : Int)).length → Word w → w.size ≤ j →
    Ev (fun k => parallaxlaw3_TextLists.l1 k l s want (i : Int) w (j : Int)) true := by
  induction d with
  | zero =>
    intro j w hj hw hs
    obtain rfl : j = (rd_L3 l (i : Int)).length := by omega
    exact hR w hw (by omega)
  | succ d ih =>
    intro j w hj hw hs
    have hj9 : j < 9223372036854775807 := by omega
    have hm : rd (rd_L3 l (i : Int)) (j : Int) ∈ rd_L3 l (i : Int) := by rw [rd_nat]; simp [List.getD_eq_getElem?_getD, show j < (rd_L3 l (i : Int)).length by omega]
    have hc := hb _ hm
    refine Ev.step (fun _ => parallaxlaw3_TextLists.l1.eq_2 ..) (Ev.pos (by omega) (Ev.pos (by omega) (Ev.pos (by omega) (Ev.pos (by omega) ?_))))
    rw [wrap_nat hj9]
    generalize rd (rd_L3 l (i : Int)) (j : Int) = c at hc ⊢
    by_cases h1 : c = 44
    · exact Ev.pos h1 (ih (j + 1) w (by omega) hw (by omega))
    · refine Ev.neg h1 ?_
      by_cases h2 : c = 32
      · exact Ev.pos h2 (ih (j + 1) w (by omega) hw (by omega))
      · refine Ev.neg h2 ?_
        by_cases h3 : c = 9
        · exact Ev.pos h3 (ih (j + 1) w (by omega) hw (by omega))
        · have hz : (strOfNums [c]).size = 1 := strOfNums_size _
          refine Ev.neg h3 (Ev.val rfl (Ev.pos (by omega) ?_))
          refine ih (j + 1) _ (by omega) ?_ (by rw [ByteArray.size_append]; omega)
          intro b hb
          rw [Parts.data_app] at hb
          rcases List.mem_append.mp hb with h | h
          · exact hw b h
          · rw [strOfNums_data] at h
            simp only [List.map_cons, List.map_nil, List.mem_singleton] at h
            have hn : ((UInt8.ofNat c.toNat).toNat : Int) = c := LowP.nat_u8 hc.1 hc.2
            subst h
            refine ⟨fun e => h1 ?_, ?_⟩
            · rw [← hn, e]; rfl
            · unfold asU blankB
              rw [hn]
              simp [h2, h3]

theorem lists (l : List (List Int)) (hn : l.length ≤ 8) (hb : ∀ x ∈ l, ∀ c ∈ x, 0 ≤ c ∧ c < 256) (d : Nat) : ∀ (i : Nat) (s : ByteArray) (want : List ByteArray), i + d = l.length → want.length = i → s.size ≤ 33 * i → (0 < i → Inv s want) → (i = 0 → s = ⟨#[]⟩) → (d = 0 → 0 < i) →
    Ev (fun k => parallaxlaw3_TextLists.l0 k l s want (i : Int)) true := by
  induction d with
  | zero =>
    intro i s want hi hw hs hI h0 hd
    exact final l s want _ (by omega) (by omega) (by omega) (hI (hd rfl))
  | succ d ih =>
    intro i s want hi hw hs hI h0 _
    have hi9 : i < 9223372036854775807 := by omega
    have hm := rd_mem l i (by omega)
    by_cases hlen : ((rd_L3 l (i : Int)).length : Int) > 30
    · exact Ev.step (fun _ => parallaxlaw3_TextLists.l0.eq_2 ..) (Ev.pos (by omega) (Ev.pos (by omega) (Ev.pos hlen (Ev.now _))))
    · refine Ev.step (fun _ => parallaxlaw3_TextLists.l0.eq_2 ..) (Ev.pos (by omega) (Ev.pos (by omega) (Ev.neg hlen ?_)))
      refine word_in l s want i (by omega) (hb _ hm) (by omega) ?_ (rd_L3 l (i : Int)).length 0 _ (by omega) (fun b hb => by simp at hb) (by simp [ByteArray.size])
      intro w hw1 hw2
      refine Ev.step (fun _ => parallaxlaw3_TextLists.l1.eq_2 ..) (Ev.pos (by omega) (Ev.pos (by omega) (Ev.neg (by omega) ?_)))
      rw [wrap_nat hi9]
      by_cases hz : i = 0
      · subst hz
        have hs0 := h0 rfl
        refine Ev.neg (by omega) (Ev.pos (by omega) (Ev.pos (by omega) ?_))
        refine ih 1 _ _ (by omega) (by simp [hw]) (by rw [ByteArray.size_append]; omega) (fun _ => ?_) (by omega) (by omega)
        have : want = [] := List.eq_nil_of_length_eq_zero hw
        subst this
        have e : s ++ w = w := by apply ba_inj; rw [Parts.data_app, hs0]; rfl
        rw [e]; exact inv_first hw1
      · have ht : Int.tmod (i : Int) 3 = ((i % 3 : Nat) : Int) := by rw [Int.tmod_eq_emod_of_nonneg (by omega)]; omega
        obtain ⟨x, y, hx, hy, he, hl3⟩ := sep_of (i % 3) (by omega)
        refine Ev.pos (by omega) (Ev.val rfl ?_)
        rw [ht, he]
        have z1 : (BA (x ++ 44 :: y)).size = (x ++ 44 :: y).length := size_BA _
        have z2 : (s ++ BA (x ++ 44 :: y)).size = s.size + (BA (x ++ 44 :: y)).size := ByteArray.size_append
        refine Ev.pos (by omega) (Ev.pos (by simp only [List.length_cons, List.length_nil]; omega) (Ev.pos (by omega) (Ev.pos (by omega) (Ev.pos (by omega) ?_))))
        refine ih (i + 1) _ _ (by omega) (by simp [hw]) (by rw [ByteArray.size_append]; omega) (fun _ => inv_next hx hy hw1 (hI (by omega))) (by omega) (by omega)

theorem TextLists : parallaxlaw3_TextLists.Pure := by
  intro l hl
  refine Ev.rounds (g := fun k => parallaxlaw3_TextLists.f k l) ?_
  unfold parallaxlaw3_TextLists.f
  refine Ev.bind known_ev (Ev.pos rfl ?_)
  by_cases h : (l.length : Int) > 8
  · exact Ev.pos h (Ev.now _)
  · refine Ev.neg h ?_
    by_cases h0 : (l.length : Int) = 0
    · exact Ev.pos h0 (Ev.now _)
    · refine Ev.neg h0 ?_
      exact lists l (by omega) (fun x hx c hc => u8_wf ((hl.2 x hx).2 c hc)) l.length 0 _ _ (by omega) rfl (by simp [ByteArray.size]) (by omega) (fun _ => rfl) (by omega)

end Go.Proofs.YtjpgnkkfkkpheaaDoor.Pure
