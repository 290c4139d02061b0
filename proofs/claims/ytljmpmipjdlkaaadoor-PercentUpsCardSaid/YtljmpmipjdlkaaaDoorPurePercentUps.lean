/- It is proved that PercentUps answers true at every input: dots go up, and never above the beginning. -/
import Derived.Test.YtljmpmipjdlkaaaDoorPPercentUpsx5
import Derived.Test.YtljmpmipjdlkaaaDoorAid
namespace Go.Proofs.YtljmpmipjdlkaaaDoor.Pure
open Go.RowKit Go.Proofs.YtljmpmipjdlkaaaDoor.PPercentUps Go.Proofs.YtljmpmipjdlkaaaDoorW.PrintWords Go.Proofs.YtljmpmipjdlkaaaDoorW.PrintLast Go.Proofs.YtljmpmipjdlkaaaDoorW.PrintMore Go.Proofs.YtljmpmipjdlkaaaDoor.Aid
set_option linter.unusedVariables false
set_option linter.unusedSimpArgs false

def nilT : ByteArray := ⟨#[]⟩
/-- a segment's place among those ahead of it -/
def stackB (st : List ByteArray) (s : ByteArray) : List ByteArray := if s.toList = ([46, 46] : List UInt8) then st.take (st.length - 1) else if s.toList = ([46] : List UInt8) then st else st ++ [s]
def isDot (s : ByteArray) : Bool := decide (s.toList = ([46, 46] : List UInt8) ∨ s.toList = ([46] : List UInt8))
def foldB (l : List ByteArray) : List ByteArray := l.foldl stackB []
/-- segments without dots -/
def dotsB (l : List ByteArray) : List ByteArray := if l.getLast?.any isDot = true then foldB l ++ [nilT] else if (foldB l).length = 0 then foldB l ++ [nilT] else foldB l
theorem foldB_snoc (l : List ByteArray) (s : ByteArray) : foldB (l ++ [s]) = stackB (foldB l) s := by unfold foldB; rw [List.foldl_append]; rfl
theorem stack_len (st : List ByteArray) (s : ByteArray) : (stackB st s).length ≤ st.length + 1 := by
  unfold stackB
  split
  · rw [List.length_take]; omega
  · split
    · omega
    · rw [List.length_append]; exact Nat.le_refl _
theorem fold_len (l : List ByteArray) : (foldB l).length ≤ l.length := by
  suffices h : ∀ st : List ByteArray, (l.foldl stackB st).length ≤ st.length + l.length by have := h []; unfold foldB; simpa using this
  induction l with
  | nil => intro st; exact Nat.le_refl _
  | cons s l ih =>
    intro st
    have h1 := ih (stackB st s)
    have h2 := stack_len st s
    rw [List.foldl_cons, List.length_cons]; omega
theorem take_snoc (l : List ByteArray) (i : Nat) (h : i < l.length) : l.take (i + 1) = l.take i ++ [rdOf ByteArray.empty l (i : Int)] := by
  rw [List.take_succ_eq_append_getElem h]; unfold rdOf; simp [List.getD_eq_getElem?_getD, h]
theorem last_is (l : List ByteArray) (i : Nat) (h : i + 1 = l.length) : l.getLast? = some (rdOf ByteArray.empty l (i : Int)) := by
  have e := take_snoc l i (by omega)
  rw [List.take_of_length_le (by omega)] at e
  conv => lhs; rw [e]
  simp
theorem dots_fin (segs st : List ByteArray) (hl : st.length ≤ 1000001) (n : Nat) : Ev (fun k => percent_Dots.l0 k segs st segs (n : Int) (n : Int)) (if st.length = 0 then st ++ [nilT] else st) := by
  refine Ev.step (fun _ => percent_Dots.l0.eq_2 ..) (Ev.neg (by omega) ?_)
  by_cases h : st.length = 0
  · rw [if_pos h]
    exact Ev.pos (by omega) (Ev.pos (by omega) (Ev.now _))
  · rw [if_neg h]
    exact Ev.neg (by omega) (Ev.now _)
theorem dots_step (segs st : List ByteArray) (hn : segs.length ≤ 1000000) (hst : st.length ≤ 1000000) (i : Nat) (hi : i < segs.length) (R : List ByteArray)
    (hlast : i + 1 = segs.length → isDot (rdOf ByteArray.empty segs (i : Int)) = true → Ev (fun k => percent_Dots.l0 k segs (stackB st (rdOf ByteArray.empty segs (i : Int)) ++ [nilT]) segs (segs.length : Int) ((i + 1 : Nat) : Int)) R)
    (hnext : (i + 1 = segs.length → isDot (rdOf ByteArray.empty segs (i : Int)) = false) → Ev (fun k => percent_Dots.l0 k segs (stackB st (rdOf ByteArray.empty segs (i : Int))) segs (segs.length : Int) ((i + 1 : Nat) : Int)) R) :
    Ev (fun k => percent_Dots.l0 k segs st segs (segs.length : Int) (i : Int)) R := by
  have hw : wrap64 ((segs.length : Int) - 1) = ((segs.length - 1 : Nat) : Int) := by rw [wrap_in (by omega) (by omega)]; omega
  have hm : mx (wrap64 ((st.length : Int) - 1)) 0 = ((st.length - 1 : Nat) : Int) := by
    rw [wrap_in (by omega) (by omega)]; unfold mx; split <;> omega
  refine Ev.step (fun _ => percent_Dots.l0.eq_2 ..) (Ev.pos (by omega) (Ev.pos (by omega) (Ev.pos (by omega) ?_)))
  rw [hw, hm, wrap_nat (by omega), Int.toNat_natCast]
  generalize rdOf ByteArray.empty segs (i : Int) = s at hlast hnext ⊢
  by_cases h2 : s.toList = ([46, 46] : List UInt8)
  · have hs : stackB st s = st.take (st.length - 1) := if_pos h2
    have hd : isDot s = true := decide_eq_true (.inl h2)
    rw [hs] at hlast hnext
    refine Ev.pos h2 (Ev.pos (by omega) (Ev.pos (by omega) (Ev.val rfl ?_)))
    by_cases hl : i + 1 = segs.length
    · exact Ev.pos (by omega) (Ev.pos (by rw [List.length_take]; omega) (hlast hl hd))
    · exact Ev.neg (by omega) (hnext (fun e => absurd e hl))
  · by_cases h1 : s.toList = ([46] : List UInt8)
    · have hs : stackB st s = st := (if_neg h2).trans (if_pos h1)
      have hd : isDot s = true := decide_eq_true (.inr h1)
      rw [hs] at hlast hnext
      refine Ev.neg h2 (Ev.pos h1 ?_)
      by_cases hl : i + 1 = segs.length
      · exact Ev.pos (by omega) (Ev.pos (by omega) (hlast hl hd))
      · exact Ev.neg (by omega) (hnext (fun e => absurd e hl))
    · have hs : stackB st s = st ++ [s] := (if_neg h2).trans (if_neg h1)
      have hd : isDot s = false := decide_eq_false (fun h => h.elim h2 h1)
      rw [hs] at hnext
      exact Ev.neg h2 (Ev.neg h1 (Ev.pos (by omega) (hnext (fun _ => hd))))
theorem dots_loop (segs : List ByteArray) (hn : segs.length ≤ 1000000) (d : Nat) : ∀ i : Nat, i + (d + 1) = segs.length → Ev (fun k => percent_Dots.l0 k segs (foldB (segs.take i)) segs (segs.length : Int) (i : Int)) (dotsB segs) := by
  induction d with
  | zero =>
    intro i hi
    have hs := take_snoc segs i (by omega)
    rw [List.take_of_length_le (by omega)] at hs
    have hf : foldB segs = stackB (foldB (segs.take i)) (rdOf ByteArray.empty segs (i : Int)) := by conv => lhs; rw [hs]; rw [foldB_snoc]
    have hlast := last_is segs i (by omega)
    have hl := fold_len (segs.take i)
    rw [List.length_take] at hl
    have hl2 := stack_len (foldB (segs.take i)) (rdOf ByteArray.empty segs (i : Int))
    have hi1 : i + 1 = segs.length := by omega
    refine dots_step segs _ hn (by omega) i (by omega) _ (fun _ hd => ?_) (fun hd => ?_)
    · rw [hi1]
      refine (dots_fin segs _ (by rw [List.length_append]; show _ + 1 ≤ _; omega) segs.length).to ?_
      rw [if_neg (by rw [List.length_append]; show ¬ _ + 1 = 0; omega)]
      unfold dotsB
      rw [hlast, Option.any_some, hd, if_pos rfl, hf]
    · rw [hi1]
      refine (dots_fin segs _ (by omega) segs.length).to ?_
      unfold dotsB
      rw [hlast, Option.any_some, hd hi1, if_neg (c := (false = true)) (by simp), hf]
  | succ d ih =>
    intro i hi
    have hl := fold_len (segs.take i)
    rw [List.length_take] at hl
    refine dots_step segs _ hn (by omega) i (by omega) _ (fun h => absurd h (by omega)) (fun _ => ?_)
    have := ih (i + 1) (by omega)
    rw [take_snoc segs i (by omega), foldB_snoc] at this
    exact this
theorem dots_ev (segs : List ByteArray) (hn : segs.length ≤ 1000000) : Ev (fun k => percent_Dots.f k segs) (dotsB segs) := by
  unfold percent_Dots.f
  cases h : segs.length with
  | zero =>
    have : segs = [] := List.length_eq_zero_iff.mp h
    subst this
    exact dots_fin [] [] (by decide) 0
  | succ d =>
    have := dots_loop segs hn d 0 (by omega)
    rw [h] at this
    exact this
def names : List ByteArray := [(⟨#[97]⟩ : ByteArray), (⟨#[98]⟩ : ByteArray), (⟨#[46, 46]⟩ : ByteArray), (⟨#[46]⟩ : ByteArray), (⟨#[99]⟩ : ByteArray)]
def segOf (x : Int) : ByteArray := rdOf ByteArray.empty names (Int.tmod x 5)
theorem tab_seg : ∀ n : Fin 256, (decide (Int.tmod (n.val : Int) 5 = 2) || (Int.tmod (n.val : Int) 5 == 3)) = isDot (segOf (n.val : Int)) := by decide +kernel
theorem cmp_loop (x : List ByteArray) (hx : x.length ≤ 1000000) (d : Nat) : ∀ i : Nat, i + d = x.length → Ev (fun k => parallaxlaw19_PercentUps.l1 k x x (i : Int)) true := by
  induction d with
  | zero => intro i hi; exact Ev.step (fun _ => parallaxlaw19_PercentUps.l1.eq_2 ..) (Ev.neg (by omega) (Ev.now _))
  | succ d ih =>
    intro i hi
    refine Ev.step (fun _ => parallaxlaw19_PercentUps.l1.eq_2 ..) (Ev.pos (by omega) (Ev.pos (by omega) (Ev.pos (by omega) (Ev.pos rfl ?_))))
    rw [wrap_nat (by omega)]
    exact ih (i + 1) (by omega)
theorem j5_ev (x : List ByteArray) (hx : x.length ≤ 1000000) : Ev (fun k => parallaxlaw19_PercentUps.j5 k x x) true :=
  Ev.step (fun _ => parallaxlaw19_PercentUps.j5.eq_2 ..) (Ev.pos rfl (cmp_loop x hx x.length 0 (by omega)))
theorem j4_ev (st x : List ByteArray) (hst : st.length ≤ 1000) (b : Bool) (h : x = if b = true then st ++ [nilT] else st) : Ev (fun k => parallaxlaw19_PercentUps.j4 k st x b) true := by
  refine Ev.step (fun _ => parallaxlaw19_PercentUps.j4.eq_2 ..) ?_
  cases b with
  | true =>
    rw [if_pos rfl] at h
    subst h
    refine Ev.pos rfl (Ev.pos (by simp; omega) (Ev.val rfl (Ev.pos (by simp; omega) ?_)))
    rw [List.nil_append]
    exact j5_ev _ (by rw [List.length_append]; show _ + 1 ≤ _; omega)
  | false =>
    rw [if_neg (by simp)] at h
    subst h
    exact Ev.neg (by simp) (j5_ev _ (by omega))
theorem map_take (l : List Int) (i : Nat) (h : i < l.length) : (l.map segOf).take (i + 1) = (l.map segOf).take i ++ [segOf (rd l (i : Int))] := by
  rw [List.take_succ_eq_append_getElem (by rw [List.length_map]; exact h), List.getElem_map, rd_nat, List.getD_eq_getElem?_getD, List.getElem?_eq_getElem h, Option.getD_some]
theorem end_ev (l : List Int) (hl : l.length ≤ 12) (hw : ∀ x ∈ l, 0 ≤ x ∧ x < 256) : Ev (fun k => parallaxlaw19_PercentUps.l0 k l (l.map segOf) (foldB (l.map segOf)) (l.length : Int)) true := by
  have hf := fold_len (l.map segOf)
  rw [List.length_map] at hf
  refine Ev.step (fun _ => parallaxlaw19_PercentUps.l0.eq_2 ..) (Ev.neg (by omega) (Ev.bind (dots_ev _ (by rw [List.length_map]; omega)) ?_))
  by_cases h0 : l.length = 0
  · have : l = [] := List.length_eq_zero_iff.mp h0
    subst this
    exact Ev.pos rfl (j4_ev _ _ (by decide) true rfl)
  · have hr : 0 ≤ rd l ((l.length - 1 : Nat) : Int) ∧ rd l ((l.length - 1 : Nat) : Int) < 256 := by
      rw [rd_nat, List.getD_eq_getElem?_getD, List.getElem?_eq_getElem (by omega), Option.getD_some]
      exact hw _ (List.getElem_mem _)
    have hlast : (l.map segOf).getLast? = some (segOf (rd l ((l.length - 1 : Nat) : Int))) := by
      have := last_is (l.map segOf) (l.length - 1) (by rw [List.length_map]; omega)
      rw [this]
      unfold rdOf
      rw [Int.toNat_natCast, List.getD_eq_getElem?_getD, List.getElem?_map, rd_nat, List.getD_eq_getElem?_getD, List.getElem?_eq_getElem (by omega)]
      rfl
    have hd := byte_all (p := fun x => (decide (Int.tmod x 5 = 2) || (Int.tmod x 5 == 3)) = isDot (segOf x)) tab_seg hr.1 hr.2
    have hw1 : wrap64 ((l.length : Int) - 1) = ((l.length - 1 : Nat) : Int) := by rw [wrap_in (by omega) (by omega)]; omega
    have hfn : isDot (segOf (rd l ((l.length - 1 : Nat) : Int))) = false → (foldB (l.map segOf)).length ≠ 0 := by
      intro hnd
      have e := map_take l (l.length - 1) (by omega)
      rw [List.take_of_length_le (by rw [List.length_map]; omega)] at e
      rw [e, foldB_snoc]
      unfold stackB
      have h1 : ¬ ((segOf (rd l ((l.length - 1 : Nat) : Int))).toList = ([46, 46] : List UInt8) ∨ (segOf (rd l ((l.length - 1 : Nat) : Int))).toList = ([46] : List UInt8)) := of_decide_eq_false hnd
      rw [if_neg (fun h => h1 (.inl h)), if_neg (fun h => h1 (.inr h)), List.length_append]
      show _ + 1 ≠ 0
      omega
    have hx : dotsB (l.map segOf) = if isDot (segOf (rd l ((l.length - 1 : Nat) : Int))) = true then foldB (l.map segOf) ++ [nilT] else foldB (l.map segOf) := by
      unfold dotsB
      rw [hlast, Option.any_some]
      cases hb : isDot (segOf (rd l ((l.length - 1 : Nat) : Int))) with
      | true => rfl
      | false => rw [if_neg (by simp), if_neg (hfn hb)]; rfl
    rw [hw1]
    refine Ev.neg (by omega) (Ev.pos (by omega) (Ev.pos (by omega) ?_))
    by_cases h2 : Int.tmod (rd l ((l.length - 1 : Nat) : Int)) 5 = 2
    · rw [decide_eq_true h2, Bool.true_or] at hd
      rw [← hd] at hx
      exact Ev.pos h2 (j4_ev _ _ (by omega) true hx)
    · rw [decide_eq_false h2, Bool.false_or] at hd
      rw [← hd] at hx
      exact Ev.neg h2 (j4_ev _ _ (by omega) _ hx)
theorem main_loop (l : List Int) (hl : l.length ≤ 12) (hw : ∀ x ∈ l, 0 ≤ x ∧ x < 256) (d : Nat) : ∀ i : Nat, i + d = l.length → Ev (fun k => parallaxlaw19_PercentUps.l0 k l ((l.map segOf).take i) (foldB ((l.map segOf).take i)) (i : Int)) true := by
  induction d with
  | zero =>
    intro i hi
    rw [List.take_of_length_le (by rw [List.length_map]; omega), show (i : Int) = (l.length : Int) by omega]
    exact end_ev l hl hw
  | succ d ih =>
    intro i hi
    have hr : 0 ≤ rd l (i : Int) ∧ rd l (i : Int) < 256 := by
      rw [rd_nat, List.getD_eq_getElem?_getD, List.getElem?_eq_getElem (by omega), Option.getD_some]
      exact hw _ (List.getElem_mem _)
    have h0 : 0 ≤ Int.tmod (rd l (i : Int)) 5 := by rw [Int.tmod_eq_emod_of_nonneg hr.1]; exact Int.emod_nonneg _ (by decide)
    have h5 : Int.tmod (rd l (i : Int)) 5 < 5 := by rw [Int.tmod_eq_emod_of_nonneg hr.1]; exact Int.emod_lt_of_pos _ (by decide)
    have hn := ih (i + 1) (by omega)
    rw [map_take l i (by omega), foldB_snoc] at hn
    have hf := fold_len ((l.map segOf).take i)
    rw [List.length_take, List.length_map] at hf
    have ht : ((l.map segOf).take i).length ≤ 12 := by rw [List.length_take, List.length_map]; omega
    have hs : rdOf ByteArray.empty ([(⟨#[97]⟩ : ByteArray), (⟨#[98]⟩ : ByteArray), (⟨#[46, 46]⟩ : ByteArray), (⟨#[46]⟩ : ByteArray), (⟨#[99]⟩ : ByteArray)] : List ByteArray) (Int.tmod (rd l (i : Int)) 5) = segOf (rd l (i : Int)) := rfl
    refine Ev.step (fun _ => parallaxlaw19_PercentUps.l0.eq_2 ..) (Ev.pos (by omega) (Ev.val rfl (Ev.pos (by omega) (Ev.pos h0 (Ev.pos h5 ?_)))))
    rw [hs]
    generalize (l.map segOf).take i = sg at *
    generalize segOf (rd l (i : Int)) = s at *
    generalize foldB sg = st at *
    have j3 : ∀ x : List ByteArray, x = stackB st s → Ev (fun k => parallaxlaw19_PercentUps.j3 k l (sg ++ [s]) x (i : Int)) true := fun x hx => by
      refine Ev.step (fun _ => parallaxlaw19_PercentUps.j3.eq_2 ..) ?_
      rw [wrap_nat (by omega), hx]
      exact hn
    refine Ev.pos (by omega) (Ev.val rfl ?_)
    by_cases h2 : s.toList = ([46, 46] : List UInt8)
    · have hst : stackB st s = st.take (st.length - 1) := if_pos h2
      refine Ev.pos h2 ?_
      by_cases hz : (st.length : Int) > 0
      · have hw1 : wrap64 ((st.length : Int) - 1) = ((st.length - 1 : Nat) : Int) := by rw [wrap_in (by omega) (by omega)]; omega
        rw [hw1, Int.toNat_natCast]
        exact Ev.pos hz (Ev.pos (by omega) (Ev.pos (by omega) (Ev.step (fun _ => parallaxlaw19_PercentUps.j1.eq_2 ..) (j3 _ hst.symm))))
      · refine Ev.neg hz (Ev.step (fun _ => parallaxlaw19_PercentUps.j1.eq_2 ..) (j3 _ ?_))
        rw [hst]
        have : st = [] := List.length_eq_zero_iff.mp (by omega)
        rw [this]; rfl
    · refine Ev.neg h2 ?_
      by_cases h1 : s.toList = ([46] : List UInt8)
      · have hst : stackB st s = st := (if_neg h2).trans (if_pos h1)
        exact Ev.pos h1 (Ev.step (fun _ => parallaxlaw19_PercentUps.j2.eq_2 ..) (j3 _ hst.symm))
      · have hst : stackB st s = st ++ [s] := (if_neg h2).trans (if_neg h1)
        refine Ev.neg h1 (Ev.pos (by simp; omega) (Ev.val rfl (Ev.pos (by simp; omega) (Ev.step (fun _ => parallaxlaw19_PercentUps.j2.eq_2 ..) (j3 _ ?_)))))
        rw [hst]; rfl
theorem known60 : parallaxlaw19_known.f 60 = some true := by decide +kernel
theorem PercentUps : parallaxlaw19_PercentUps.Pure := by
  intro l _ _ hw
  suffices h : Ev (fun k => parallaxlaw19_PercentUps.f k l) true by
    obtain ⟨k, hk⟩ := h
    exact ⟨k, hk k (Nat.le_refl _)⟩
  unfold parallaxlaw19_PercentUps.f
  refine Ev.bind (Ev.of (fun k => parallaxlaw19_known.mono k) known60) (Ev.pos rfl ?_)
  by_cases h12 : (l.length : Int) > 12
  · exact Ev.pos h12 (Ev.now _)
  · exact Ev.neg h12 (main_loop l (by omega) (fun x hx => u8_wf (hw x hx)) l.length 0 (by omega))
end Go.Proofs.YtljmpmipjdlkaaaDoor.Pure
