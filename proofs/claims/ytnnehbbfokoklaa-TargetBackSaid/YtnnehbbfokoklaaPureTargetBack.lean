/- It is proved that TargetBack answers true at every input: a target's text is read as it. -/
import Derived.Test.YtnnehbbfokoklaaPTargetBackx7
import Derived.Test.YtnnehbbfokoklaaTxtTargetBack
namespace Go.Proofs.Ytnnehbbfokoklaa.Pure
open Go.RowKit Go.Proofs.Ytnnehbbfokoklaa.PTargetBack Go.Proofs.YtnnehbbfokoklaaW.PrintWords Go.Proofs.YtnnehbbfokoklaaW.PrintLast Go.Proofs.YtnnehbbfokoklaaW.PrintMore Go.Proofs.Ytnnehbbfokoklaa.Aid Go.Proofs.Ytnnehbbfokoklaa.Parts
set_option linter.unusedVariables false
set_option linter.unusedSimpArgs false

def httpT : ByteArray := ⟨#[104, 116, 116, 112, 58, 47, 47]⟩
def nilT : ByteArray := ⟨#[]⟩
/-- what stands behind a path -/
def tailT (q : ByteArray) (a : Bool) : ByteArray := if a = true then (⟨#[63]⟩ : ByteArray) ++ q else (⟨#[]⟩ : ByteArray)
theorem cut_back (s : ByteArray) : beforeB 63 s ++ tailT (afterB 63 s) (hasC 63 s) = s := by
  apply ba_inj
  by_cases hm : (63 : UInt8) ∈ s.data.toList
  · obtain ⟨a, r, e, hn⟩ := List.eq_append_cons_of_mem hm
    obtain ⟨t1, t2⟩ := take_at 63 a r hn
    have hh : hasC 63 s = true := decide_eq_true hm
    rw [hh]
    unfold tailT beforeB afterB
    rw [if_pos rfl, data_app, data_app, data_BA, data_BA, e, t1, t2]
    rfl
  · obtain ⟨t1, t2⟩ := take_no 63 _ hm
    have hh : hasC 63 s = false := decide_eq_false hm
    rw [hh]
    unfold tailT beforeB
    rw [if_neg (by simp), data_app, data_BA, t1]
    simp
theorem before_no (s : ByteArray) : ∀ x ∈ bytesOf (beforeB 63 s), x ≠ 63 := by
  intro x hx
  unfold bytesOf beforeB at hx
  rw [data_BA] at hx
  obtain ⟨b, hb, rfl⟩ := List.mem_map.mp hx
  have := TrimP.all_take hb
  intro e
  have hb : b ≠ 63 := by simpa using this
  apply hb
  apply UInt8.toNat_inj.mp
  show b.toNat = 63
  omega
theorem after_none (s : ByteArray) (h : hasC 63 s = false) : afterB 63 s = nilT := by
  have hm : (63 : UInt8) ∉ s.data.toList := by simpa [hasC] using h
  obtain ⟨_, t2⟩ := take_no 63 _ hm
  unfold afterB
  rw [t2]; rfl
theorem whole_cut {p q : ByteArray} {a : Bool} (h63 : ∀ x ∈ bytesOf p, x ≠ 63) (hn : a = false → q = nilT) : beforeB 63 (p ++ tailT q a) = p ∧ afterB 63 (p ++ tailT q a) = q ∧ hasC 63 (p ++ tailT q a) = a := by
  have h63' : ∀ x ∈ bytesOf p, x ≠ ((63 : UInt8).toNat : Int) := h63
  cases a with
  | true =>
    have e : p ++ tailT q true = p ++ BA [63] ++ q := ba_inj (by unfold tailT; rw [if_pos rfl, data_app, data_app, data_app, data_app]; simp [data_BA])
    rw [e]
    exact ⟨(cut_app 63 p q h63').1, (cut_after 63 p q h63').1, (cut_after 63 p q h63').2⟩
  | false =>
    have e : p ++ tailT q false = p := ba_inj (by unfold tailT; rw [if_neg (by simp), data_app]; simp)
    rw [e]
    refine ⟨(cut_none 63 p h63').1, ?_, cut_has 63 p h63'⟩
    rw [after_none p (cut_has 63 p h63'), hn rfl]
theorem pref_is {s : ByteArray} (h : prefB s (⟨#[47]⟩ : ByteArray) = true) : ∃ t, s.data.toList = 47 :: t := by
  unfold prefB at h
  rw [beq_iff_eq, ByteArray.toList_eq, ByteArray.toList_eq, ext_data] at h
  have h' : (s.data.toList.drop 0).take (1 - 0) = [47] := h
  rw [List.drop_zero] at h'
  cases hs : s.data.toList with
  | nil => rw [hs] at h'; simp at h'
  | cons b t => rw [hs] at h'; simp at h'; rw [h']; exact ⟨t, rfl⟩
theorem size_pos {s : ByteArray} {c : UInt8} {t : List UInt8} (h : s.data.toList = c :: t) : s.size ≠ 0 := by
  rw [← data_length, h]; simp
/-- where the first of some signs stands -/
theorem any_split (cs l : List UInt8) (h : 0 ≤ Lib.indexAny l cs) : ∃ a x r, l = a ++ x :: r ∧ (∀ y ∈ a, cs.contains y = false) ∧ cs.contains x = true ∧ Lib.indexAny l cs = (a.length : Nat) := by
  induction l with
  | nil => simp [Lib.indexAny] at h
  | cons b l ih =>
    have hg := Lib.indexAny_ge cs l
    unfold Lib.indexAny at h ⊢
    by_cases hb : cs.contains b = true
    · rw [if_pos hb]
      exact ⟨[], b, l, rfl, by simp, hb, rfl⟩
    · rw [if_neg hb] at h ⊢
      by_cases h1 : (Lib.indexAny l cs == -1) = true
      · simp only [h1, if_true] at h
        omega
      · have h1' : ¬ Lib.indexAny l cs = -1 := by simpa using h1
        simp only [if_neg h1]
        obtain ⟨a, x, r, e1, e2, e3, e4⟩ := ih (by omega)
        refine ⟨b :: a, x, r, by rw [e1]; rfl, ?_, e3, by rw [e4]; simp⟩
        intro y hy
        rcases List.mem_cons.mp hy with rfl | hy
        · simpa using hb
        · exact e2 y hy
theorem any_at (cs a r : List UInt8) (x : UInt8) (ha : ∀ y ∈ a, cs.contains y = false) (hx : cs.contains x = true) : Lib.indexAny (a ++ x :: r) cs = (a.length : Nat) := by
  induction a with
  | nil => unfold Lib.indexAny; simp only [List.nil_append, if_pos hx]; rfl
  | cons b a ih =>
    rw [List.cons_append]
    unfold Lib.indexAny
    have h2 := ih (fun y hy => ha y (by simp [hy]))
    have hb : ¬ cs.contains b = true := by rw [ha b (by simp)]; simp
    rw [if_neg hb, h2]
    have h1 : ¬ ((a.length : Int) == -1) = true := by simp
    simp only [if_neg h1, List.length_cons]
    omega
/-- a host as it is read has no signs of a path or a query -/
theorem host_free (R : ByteArray) : ∀ y ∈ (R.extract 0 (hostEnd R)).data.toList, ([47, 63] : List UInt8).contains y = false := by
  obtain ⟨h0, h1⟩ := hostEnd_le R
  obtain ⟨a, x, r, e1, e2, e3, e4⟩ := any_split [47, 63] _ h0
  have hn : hostEnd R = a.length := by unfold hostEnd; rw [e4]; simp
  rw [data_app] at e1
  have ha : (R.extract 0 (hostEnd R)).data.toList = a := by
    rw [ext_data, List.drop_zero, Nat.sub_zero, hn]
    have : (R.data.toList ++ (⟨#[47]⟩ : ByteArray).data.toList).take a.length = a := by rw [e1]; simp
    rw [List.take_append_of_le_length (by rw [data_length]; omega)] at this
    exact this
  rw [ha]
  exact e2
theorem put_two (h p q : ByteArray) (a : Bool) : putT 2 h p q a = ((httpT ++ h) ++ p) ++ tailT q a := by simp [putT, tailT, httpT]
theorem two_data (h p q : ByteArray) (a : Bool) : (((httpT ++ h) ++ p) ++ tailT q a).data.toList = [104, 116, 116, 112, 58, 47, 47] ++ (h ++ (p ++ tailT q a)).data.toList := by
  simp only [data_app, List.append_assoc]
  rfl
/-- a whole address's text is read as it -/
theorem parse_two {m h p q : ByteArray} {a : Bool} (hm : m.toList ≠ ([67, 79, 78, 78, 69, 67, 84] : List UInt8)) (hh : hostB h = true) (hf : ∀ y ∈ h.data.toList, ([47, 63] : List UInt8).contains y = false) (h63 : ∀ x ∈ bytesOf p, x ≠ 63) (hn : a = false → q = nilT) (hp : pathB p = true) (hq : queryB q = true) : parseB m (((httpT ++ h) ++ p) ++ tailT q a) = (2, h, p, q, a, 0) := by
  have d := two_data h p q a
  obtain ⟨t, ht⟩ := pref_is (s := p) (by unfold pathB at hp; rw [Bool.and_eq_true] at hp; exact hp.1)
  have hpre : prefB (((httpT ++ h) ++ p) ++ tailT q a) (⟨#[47]⟩ : ByteArray) = false := by
    unfold prefB
    rw [ByteArray.toList_eq, ByteArray.toList_eq, ext_data, d]
    rfl
  have sz : (((httpT ++ h) ++ p) ++ tailT q a).size = 7 + (h ++ (p ++ tailT q a)).size := by
    rw [← data_length, d, List.length_append, data_length]; rfl
  have r1 : (((httpT ++ h) ++ p) ++ tailT q a).extract 7 (((httpT ++ h) ++ p) ++ tailT q a).size = h ++ (p ++ tailT q a) := by
    apply ba_inj
    rw [ext_data, d, List.take_of_length_le]
    · rfl
    · rw [List.length_drop, ← d, data_length]; exact Nat.le_refl _
  have r2 : (((httpT ++ h) ++ p) ++ tailT q a).extract 0 7 = httpT := by
    apply ba_inj
    rw [ext_data, d]
    rfl
  have hw : wholeB (((httpT ++ h) ++ p) ++ tailT q a) = true := by
    unfold wholeB
    rw [r2, sz, decide_eq_true (by omega : 7 ≤ 7 + (h ++ (p ++ tailT q a)).size)]
    decide +kernel
  have he : hostEnd (h ++ (p ++ tailT q a)) = h.size := by
    unfold hostEnd
    rw [data_app, data_app, data_app, ht, List.append_assoc, List.cons_append, List.cons_append, any_at [47, 63] h.data.toList _ 47 hf (by decide), data_length]
    simp
  have x1 : (h ++ (p ++ tailT q a)).extract 0 h.size = h := ba_inj (by rw [ext_data, data_app, List.drop_zero, Nat.sub_zero, ← data_length h, List.take_left])
  have x2 : (h ++ (p ++ tailT q a)).extract h.size (h ++ (p ++ tailT q a)).size = p ++ tailT q a := by
    apply ba_inj
    rw [ext_data, data_app, List.take_of_length_le]
    · rw [← data_length h, List.drop_left]
    · rw [List.length_drop, ← data_app, data_length]; exact Nat.le_refl _
  obtain ⟨w1, w2, w3⟩ := whole_cut h63 hn
  have hpo : pathOf 2 (p ++ tailT q a) = p := by
    unfold pathOf
    rw [w1, if_neg (fun e => size_pos ht e.2)]
  unfold parseB
  rw [if_neg hm, if_neg (fun e => by have := e.2; rw [ByteArray.toList_eq, d] at this; simp at this), if_neg (by rw [hpre]; simp), if_pos hw, r1, he, x1, x2, if_pos hh]
  unfold originB
  rw [hpo, w2, w3, hp, hq]
  rfl
/-- a target's text -/
def putR (r : Int × ByteArray × ByteArray × ByteArray × Bool × Int) : ByteArray := putT r.1 r.2.1 r.2.2.1 r.2.2.2.1 r.2.2.2.2.1
theorem pathOf_no (form : Int) (s : ByteArray) : ∀ x ∈ bytesOf (pathOf form s), x ≠ 63 := by
  unfold pathOf
  split
  · decide
  · exact before_no s
theorem pathOf_size (form : Int) (s : ByteArray) : (pathOf form s).size ≤ s.size + 1 := by
  unfold pathOf
  have := before_size 63 s
  split
  · show 1 ≤ _; omega
  · omega
theorem parse_back (m s : ByteArray) (h : (parseB m s).2.2.2.2.2 = 0) : parseB m (putR (parseB m s)) = parseB m s := by
  by_cases hm : m.toList = ([67, 79, 78, 78, 69, 67, 84] : List UInt8)
  · have e : parseB m s = if (hostB s && hasC 58 s) = true then (3, s, (⟨#[]⟩ : ByteArray), (⟨#[]⟩ : ByteArray), false, 0) else badT := by unfold parseB; rw [if_pos hm]
    by_cases hc : (hostB s && hasC 58 s) = true
    · rw [if_pos hc] at e
      have : putR (parseB m s) = s := by rw [e]; simp [putR, putT]
      rw [this]
    · rw [if_neg hc] at e
      rw [e] at h; exact absurd h (by decide)
  · by_cases ho : m.toList = ([79, 80, 84, 73, 79, 78, 83] : List UInt8) ∧ s.toList = ([42] : List UInt8)
    · have e : parseB m s = (4, (⟨#[]⟩ : ByteArray), (⟨#[]⟩ : ByteArray), (⟨#[]⟩ : ByteArray), false, 0) := by unfold parseB; rw [if_neg hm, if_pos ho]
      have : putR (parseB m s) = s := by
        rw [e]
        apply ba_inj
        have := ho.2
        rw [ByteArray.toList_eq] at this
        rw [this]
        simp [putR, putT]
      rw [this]
    · by_cases hp : prefB s (⟨#[47]⟩ : ByteArray) = true
      · have e : parseB m s = originB 1 (⟨#[]⟩ : ByteArray) s := by unfold parseB; rw [if_neg hm, if_neg ho, if_pos hp]
        by_cases hc : (pathB (pathOf 1 s) && queryB (afterB 63 s)) = true
        · have e2 : parseB m s = (1, (⟨#[]⟩ : ByteArray), pathOf 1 s, afterB 63 s, hasC 63 s, 0) := by rw [e]; unfold originB; rw [if_pos hc]
          have : putR (parseB m s) = s := by
            rw [e2]
            have hpo : pathOf 1 s = beforeB 63 s := if_neg (fun h => absurd h.1 (by decide))
            rw [hpo]
            have := cut_back s
            unfold tailT at this
            simpa [putR, putT] using this
          rw [this]
        · have e2 : parseB m s = badT := by rw [e]; unfold originB; rw [if_neg hc]
          rw [e2] at h; exact absurd h (by decide)
      · by_cases hw : wholeB s = true
        · have e : parseB m s = (if hostB ((s.extract 7 s.size).extract 0 (hostEnd (s.extract 7 s.size))) = true then originB 2 ((s.extract 7 s.size).extract 0 (hostEnd (s.extract 7 s.size))) ((s.extract 7 s.size).extract (hostEnd (s.extract 7 s.size)) (s.extract 7 s.size).size) else badT) := by unfold parseB; rw [if_neg hm, if_neg ho, if_neg hp, if_pos hw]
          generalize s.extract 7 s.size = R at e
          by_cases hh : hostB (R.extract 0 (hostEnd R)) = true
          · rw [if_pos hh] at e
            have hf := host_free R
            generalize R.extract (hostEnd R) R.size = z at e
            generalize R.extract 0 (hostEnd R) = ho at e hh hf
            by_cases hc : (pathB (pathOf 2 z) && queryB (afterB 63 z)) = true
            · have e2 : parseB m s = (2, ho, pathOf 2 z, afterB 63 z, hasC 63 z, 0) := by rw [e]; unfold originB; rw [if_pos hc]
              rw [e2]
              have : putR (2, ho, pathOf 2 z, afterB 63 z, hasC 63 z, (0 : Int)) = ((httpT ++ ho) ++ pathOf 2 z) ++ tailT (afterB 63 z) (hasC 63 z) := put_two _ _ _ _
              rw [this]
              rw [Bool.and_eq_true] at hc
              exact parse_two hm hh hf (pathOf_no 2 z) (after_none z) hc.1 hc.2
            · have e2 : parseB m s = badT := by rw [e]; unfold originB; rw [if_neg hc]
              rw [e2] at h; exact absurd h (by decide)
          · rw [if_neg hh] at e
            rw [e] at h; exact absurd h (by decide)
        · have e : parseB m s = badT := by unfold parseB; rw [if_neg hm, if_neg ho, if_neg hp, if_neg hw]
          rw [e] at h; exact absurd h (by decide)
theorem origin_sizes (form : Int) (h s : ByteArray) (n : Nat) (hh : h.size ≤ n) (hs : s.size ≤ n) : (originB form h s).2.1.size ≤ n + 1 ∧ (originB form h s).2.2.1.size ≤ n + 1 ∧ (originB form h s).2.2.2.1.size ≤ n + 1 := by
  unfold originB
  have h1 := pathOf_size form s
  have h2 := after_size 63 s
  split
  · exact ⟨by show h.size ≤ _; omega, by show (pathOf form s).size ≤ _; omega, by show (afterB 63 s).size ≤ _; omega⟩
  · exact ⟨Nat.zero_le _, Nat.zero_le _, Nat.zero_le _⟩
theorem parse_sizes (m s : ByteArray) : (parseB m s).2.1.size ≤ s.size + 1 ∧ (parseB m s).2.2.1.size ≤ s.size + 1 ∧ (parseB m s).2.2.2.1.size ≤ s.size + 1 := by
  have hR : (s.extract 7 s.size).size ≤ s.size := by rw [ByteArray.size_extract]; omega
  unfold parseB
  split
  · split
    · exact ⟨by show s.size ≤ _; omega, Nat.zero_le _, Nat.zero_le _⟩
    · exact ⟨Nat.zero_le _, Nat.zero_le _, Nat.zero_le _⟩
  · split
    · exact ⟨Nat.zero_le _, Nat.zero_le _, Nat.zero_le _⟩
    · split
      · exact origin_sizes 1 _ s s.size (Nat.zero_le _) (Nat.le_refl _)
      · split
        · split
          · exact origin_sizes 2 _ _ s.size (by rw [ByteArray.size_extract]; omega) (by rw [ByteArray.size_extract]; omega)
          · exact ⟨Nat.zero_le _, Nat.zero_le _, Nat.zero_le _⟩
        · exact ⟨Nat.zero_le _, Nat.zero_le _, Nat.zero_le _⟩
theorem any_ev (s : ByteArray) (hs : s.size ≤ 1000000) : Ev (fun _ => strings_IndexAny.f ((s.extract 7 s.size) ++ (⟨#[47]⟩ : ByteArray)) (⟨#[47, 63]⟩ : ByteArray)) (Lib.indexAny ((s.extract 7 s.size) ++ (⟨#[47]⟩ : ByteArray)).data.toList [47, 63]) := by
  refine Ev.some_ ?_
  unfold strings_IndexAny.f
  exact if_pos ⟨by rw [ByteArray.size_append, ByteArray.size_extract]; show _ + 1 < _; omega, by decide, by decide, by decide⟩
theorem pr_ev (m s : ByteArray) (hs : s.size ≤ 1000000) : Ev (fun k => target_Parse.f k m s) (parseB m s) :=
  parse_ev m s (by omega) (fun _ _ => by
    obtain ⟨k, hk⟩ := any_ev s hs
    exact hk k (Nat.le_refl _))
theorem putR_size (r : Int × ByteArray × ByteArray × ByteArray × Bool × Int) (n : Nat) (h1 : r.2.1.size ≤ n) (h2 : r.2.2.1.size ≤ n) (h3 : r.2.2.2.1.size ≤ n) : (putR r).size ≤ 3 * n + 10 := by
  unfold putR putT
  have q7 : (⟨#[104, 116, 116, 112, 58, 47, 47]⟩ : ByteArray).size = 7 := rfl
  have q1 : (⟨#[63]⟩ : ByteArray).size = 1 := rfl
  have q2 : (⟨#[42]⟩ : ByteArray).size = 1 := rfl
  have q0 : (⟨#[]⟩ : ByteArray).size = 0 := rfl
  simp only
  repeat' split
  all_goals first | omega | (simp only [ByteArray.size_append, q7, q1, q2]; omega)
theorem loop_ev (m : ByteArray) (l : List ByteArray) (hl : ∀ x ∈ l, x.size ≤ 1000) (hn : l.length ≤ 10) (d : Nat) : ∀ i : Nat, i + d = l.length → Ev (fun k => parallaxlaw7_TargetBack.l0 k m l (l.length : Int) (i : Int)) true := by
  induction d with
  | zero => intro i hi; exact Ev.step (fun _ => parallaxlaw7_TargetBack.l0.eq_2 ..) (Ev.neg (by omega) (Ev.now _))
  | succ d ih =>
    intro i hi
    have hj : Ev (fun k => parallaxlaw7_TargetBack.j1 k m l (l.length : Int) (i : Int)) true := by
      refine Ev.step (fun _ => parallaxlaw7_TargetBack.j1.eq_2 ..) ?_
      rw [wrap_nat (by omega)]
      exact ih (i + 1) (by omega)
    have hs := hl _ (rdOf_mem l i (by omega))
    refine Ev.step (fun _ => parallaxlaw7_TargetBack.l0.eq_2 ..) (Ev.pos (by omega) (Ev.pos (by omega) (Ev.pos (by omega) ?_)))
    generalize rdOf ByteArray.empty l (i : Int) = s at hs
    refine Ev.bind (pr_ev m s (by omega)) ?_
    have hb := parse_back m s
    obtain ⟨z1, z2, z3⟩ := parse_sizes m s
    generalize parseB m s = r at hb z1 z2 z3
    by_cases h0 : r.2.2.2.2.2 = 0
    · have hz := putR_size r (s.size + 1) z1 z2 z3
      have hp := pr_ev m (putR r) (by omega)
      rw [hb h0] at hp
      refine Ev.pos h0 (Ev.bind (putT_ev r.1 r.2.1 r.2.2.1 r.2.2.2.1 r.2.2.2.2.1 (by omega) (by omega) (by omega)) (Ev.bind hp (Ev.pos h0 (Ev.neg (by simp) hj))))
    · exact Ev.neg h0 hj
theorem known60 : parallaxlaw7_known.f 60 = some true := by decide +kernel
theorem TargetBack : parallaxlaw7_TargetBack.Pure := by
  intro l a hl _ hw h1
  have r1 := u8_wf h1
  suffices h : Ev (fun k => parallaxlaw7_TargetBack.f k l a) true by
    obtain ⟨k, hk⟩ := h
    exact ⟨k, hk k (Nat.le_refl _)⟩
  unfold parallaxlaw7_TargetBack.f
  refine Ev.bind (Ev.of (fun k => parallaxlaw7_known.mono k) known60) (Ev.pos rfl ?_)
  by_cases h10 : (l.length : Int) > 10
  · exact Ev.pos h10 (Ev.now _)
  · have hm0 : 0 ≤ Int.tmod a 4 := by rw [Int.tmod_eq_emod_of_nonneg (by omega)]; exact Int.emod_nonneg _ (by decide)
    have hm1 : Int.tmod a 4 < 4 := by rw [Int.tmod_eq_emod_of_nonneg (by omega)]; exact Int.emod_lt_of_pos _ (by decide)
    have hs := some_ev l (by omega) (fun x hx => u8_wf (hw x hx))
    have hz := some_size l
    refine Ev.neg h10 (Ev.val rfl (Ev.pos hm0 (Ev.pos hm1 (Ev.bind hs (Ev.bind hs (Ev.pos (by omega) (Ev.bind hs (Ev.pos (by omega) (Ev.val rfl ?_)))))))))
    refine loop_ev _ _ (fun x hx => ?_) (by simp) 3 0 rfl
    have q1 : (⟨#[47]⟩ : ByteArray).size = 1 := rfl
    have q8 : (⟨#[104, 116, 116, 112, 58, 47, 47, 97]⟩ : ByteArray).size = 8 := rfl
    simp only [List.mem_cons, List.not_mem_nil, or_false] at hx
    rcases hx with rfl | rfl | rfl
    · omega
    · rw [ByteArray.size_append, q1]; omega
    · rw [ByteArray.size_append, q8]; omega
end Go.Proofs.Ytnnehbbfokoklaa.Pure
