/- It is proved that HopNamed answers true at every input: what Connection names goes no further, but what all need does. -/
import Derived.Test.YtfmpajagkjealaaDoorPHopNamedx5
import Derived.Test.YtfmpajagkjealaaDoorTxtHopNamed
namespace Go.Proofs.YtfmpajagkjealaaDoor.Pure
open Go.RowKit Go.Proofs.YtfmpajagkjealaaDoor.PHopNamed Go.Proofs.YtfmpajagkjealaaDoorW.PrintWords Go.Proofs.YtfmpajagkjealaaDoorW.PrintLast Go.Proofs.YtfmpajagkjealaaDoor.Aid Go.Proofs.YtfmpajagkjealaaDoor.Parts

/-- the names, and what stands for one of them in a list -/
def allN : List ByteArray := [(⟨#[65]⟩ : ByteArray), (⟨#[66]⟩ : ByteArray), (⟨#[67, 111, 111, 107, 105, 101]⟩ : ByteArray), (⟨#[72, 111, 115, 116]⟩ : ByteArray), (⟨#[67, 111, 110, 116, 101, 110, 116, 45, 76, 101, 110, 103, 116, 104]⟩ : ByteArray), (⟨#[88, 45, 89]⟩ : ByteArray)]
def nm (c : Nat) : ByteArray := allN.getD c ByteArray.empty
def pick (c b : Nat) : ByteArray := if b = 0 then nm c else Low.lower (nm c)
def okc (c : Nat) : Bool := !(c == 3) && !(c == 4)
theorem nm_rd (c : Nat) : rdOf ByteArray.empty allN (c : Int) = nm c := rfl
theorem pick_rd (c b : Nat) (hb : b < 2) : rdOf ByteArray.empty [nm c, Low.lower (nm c)] (b : Int) = pick c b := by
  rcases (show b = 0 ∨ b = 1 by omega) with rfl | rfl <;> rfl
theorem pick_size : ∀ c : Fin 6, ∀ b : Fin 2, (pick c.val b.val).size ≤ 20 := by decide +kernel
theorem nm_size : ∀ c : Fin 6, (nm c.val).size ≤ 20 := by decide +kernel
theorem pick_trim : ∀ c : Fin 6, ∀ b : Fin 2, Trim.trimB Trim.blankB ((⟨#[32]⟩ : ByteArray) ++ pick c.val b.val) = pick c.val b.val := by decide +kernel
theorem pick_comma : ∀ c : Fin 6, ∀ b : Fin 2, (44 : UInt8) ∉ ((⟨#[32]⟩ : ByteArray) ++ pick c.val b.val).data.toList := by decide +kernel
theorem pick_any : ∀ c c0 : Fin 6, ∀ b : Fin 2, (!(ownB (pick c0.val b.val)) && Hand.sameB (nm c.val) (pick c0.val b.val)) = (decide (c.val = c0.val) && okc c0.val) := by decide +kernel
theorem nm_names : ∀ c : Fin 6, namesB.any (Hand.sameB (nm c.val)) = false := by decide +kernel
theorem nm_conn : ∀ c : Fin 6, Hand.sameB (nm c.val) connB = false := by decide +kernel
theorem conn_names : namesB.any (Hand.sameB connB) = true := by decide +kernel
theorem conn_conn : Hand.sameB connB connB = true := by decide +kernel
theorem close_list : listB [(⟨#[99, 108, 111, 115, 101]⟩ : ByteArray)] = [(⟨#[99, 108, 111, 115, 101]⟩ : ByteArray)] := by decide +kernel
theorem close_any : ∀ c : Fin 6, (!(ownB (⟨#[99, 108, 111, 115, 101]⟩ : ByteArray)) && Hand.sameB (nm c.val) (⟨#[99, 108, 111, 115, 101]⟩ : ByteArray)) = false := by decide +kernel

theorem splitU_cons (c b : UInt8) (l : List UInt8) : splitU c (b :: l) = if b = c then [] :: splitU c l else match splitU c l with | [] => [[b]] | h :: t => (b :: h) :: t := rfl
theorem splitU_app (c : UInt8) (x y : List UInt8) : splitU c (x ++ c :: y) = splitU c x ++ splitU c y := by
  induction x with
  | nil => simp [splitU]
  | cons b x ih =>
    rw [List.cons_append]
    show splitU c (b :: (x ++ c :: y)) = splitU c (b :: x) ++ splitU c y
    rw [splitU_cons, splitU_cons]
    by_cases h : b = c
    · rw [if_pos h, if_pos h, ih]; rfl
    · rw [if_neg h, if_neg h, ih]
      cases e : splitU c x with
      | nil => exact absurd e (splitU_ne c x)
      | cons p q => rfl
theorem parts_app (c : UInt8) (s t : ByteArray) (h : c ∉ t.data.toList) : parts c (s ++ BA [c] ++ t) = parts c s ++ [t] := by
  unfold parts
  rw [data_app, data_app, data_BA, List.append_assoc, List.singleton_append, splitU_app, splitU_none c _ h, List.map_append, List.map_cons, List.map_nil, BA_data]
theorem list_one (s : ByteArray) : listB [s] = (parts 44 s).map (Trim.trimB Trim.blankB) := by
  unfold listB; rw [List.flatMap_cons, List.flatMap_nil, List.append_nil]
theorem app_assoc (a b c : ByteArray) : a ++ b ++ c = a ++ (b ++ c) := ba_inj (by rw [data_app, data_app, data_app, data_app, List.append_assoc])
theorem list_more (v : ByteArray) (c b : Nat) (hc : c < 6) (hb : b < 2) : listB [(v ++ (⟨#[44, 32]⟩ : ByteArray)) ++ pick c b] = listB [v] ++ [pick c b] := by
  rw [list_one, list_one, show (v ++ (⟨#[44, 32]⟩ : ByteArray)) ++ pick c b = v ++ BA [44] ++ ((⟨#[32]⟩ : ByteArray) ++ pick c b) by
    rw [app_assoc, app_assoc]; congr 1,
    parts_app 44 _ _ (pick_comma ⟨c, hc⟩ ⟨b, hb⟩), List.map_append, List.map_cons, List.map_nil, pick_trim ⟨c, hc⟩ ⟨b, hb⟩]

/-- what of a list of names goes no further -/
def named (v : ByteArray) (n : ByteArray) : Bool := ((listB [v]).filter fun s => !ownB s).any (Hand.sameB n)
theorem named_more (v : ByteArray) (c b c1 : Nat) (hc : c < 6) (hb : b < 2) (h1 : c1 < 6) : named ((v ++ (⟨#[44, 32]⟩ : ByteArray)) ++ pick c b) (nm c1) = (named v (nm c1) || (decide (c1 = c) && okc c)) := by
  unfold named
  rw [list_more v c b hc hb, List.filter_append, List.any_append, ← pick_any ⟨c1, h1⟩ ⟨c, hc⟩ ⟨b, hb⟩]
  congr 1
  rw [List.filter_cons, List.filter_nil]
  cases ownB (pick c b) <;> simp
def Inv (v : ByteArray) (g : List Bool) : Prop := g.length = 6 ∧ ∀ c : Nat, c < 6 → named v (nm c) = rdOf false g (c : Int) ∧ (rdOf false g (c : Int) = true → okc c = true)
theorem rd_set (g : List Bool) (c c1 : Nat) (b : Bool) (hc : c < g.length) : rdOf false (g.set c b) (c1 : Int) = if c1 = c then b else rdOf false g (c1 : Int) := by
  unfold rdOf
  rw [Int.toNat_natCast, List.getD_eq_getElem?_getD, List.getElem?_set, List.getD_eq_getElem?_getD]
  by_cases h : c1 = c
  · subst h; simp [hc]
  · rw [if_neg (fun e => h e.symm), if_neg h]
theorem inv_more {v : ByteArray} {g : List Bool} (h : Inv v g) (c b : Nat) (hc : c < 6) (hb : b < 2) : Inv ((v ++ (⟨#[44, 32]⟩ : ByteArray)) ++ pick c b) (g.set c (okc c)) := by
  refine ⟨by rw [List.length_set]; exact h.1, fun c1 h1 => ?_⟩
  obtain ⟨e1, e2⟩ := h.2 c1 h1
  rw [named_more v c b c1 hc hb h1, rd_set g c c1 _ (by rw [h.1]; exact hc), e1]
  by_cases hcc : c1 = c
  · subst hcc
    rw [if_pos rfl, decide_eq_true rfl, Bool.true_and]
    cases hg : rdOf false g (c1 : Int) with
    | false => exact ⟨by simp, fun h => h⟩
    | true => rw [e2 hg]; exact ⟨rfl, fun _ => rfl⟩
  · rw [if_neg hcc, decide_eq_false hcc, Bool.false_and, Bool.or_false]
    exact ⟨rfl, e2⟩
theorem inv_nil : Inv (⟨#[99, 108, 111, 115, 101]⟩ : ByteArray) [false, false, false, false, false, false] := by
  refine ⟨rfl, fun c hc => ?_⟩
  have hr : rdOf false [false, false, false, false, false, false] (c : Int) = false := by
    rcases (show c = 0 ∨ c = 1 ∨ c = 2 ∨ c = 3 ∨ c = 4 ∨ c = 5 by omega) with rfl | rfl | rfl | rfl | rfl | rfl <;> rfl
  refine ⟨?_, fun h => by rw [hr] at h; cases h⟩
  rw [hr]
  unfold named
  rw [close_list, List.filter_cons, List.filter_nil]
  have := close_any ⟨c, hc⟩
  cases ho : ownB (⟨#[99, 108, 111, 115, 101]⟩ : ByteArray) with
  | true => simp
  | false => rw [ho] at this; simpa using this

/-- a field of one of the names -/
def isF (f : S28) : Prop := (∃ c, c < 6 ∧ f.f0 = nm c) ∧ f.f1.size ≤ 20
theorem fs_conn (fs : List S28) (h : ∀ f ∈ fs, isF f) : findB fs connB = [] := by
  unfold findB
  rw [List.filter_eq_nil_iff.mpr (fun f hf => ?_)]; rfl
  obtain ⟨⟨c, hc, e⟩, _⟩ := h f hf
  rw [e]; simpa using nm_conn ⟨c, hc⟩
theorem fs_names (fs : List S28) (h : ∀ f ∈ fs, isF f) : stripB fs = fs := by
  unfold stripB goneB
  rw [fs_conn fs h]
  unfold withoutB
  rw [List.filter_eq_self]
  intro f hf
  obtain ⟨⟨c, hc, e⟩, _⟩ := h f hf
  rw [show (listB [] : List ByteArray) = [] from rfl, List.filter_nil, List.append_nil, e, nm_names ⟨c, hc⟩]; rfl
theorem strip_conn (v : ByteArray) (fs : List S28) (h : ∀ f ∈ fs, isF f) : stripB ((⟨connB, v⟩ : S28) :: fs) = fs.filter fun f => !(named v f.f0) := by
  have e1 : findB ((⟨connB, v⟩ : S28) :: fs) connB = [v] := by
    have := fs_conn fs h
    unfold findB at this ⊢
    rw [List.filter_cons, if_pos conn_conn, List.map_cons, this]
  unfold stripB
  have e2 : goneB ((⟨connB, v⟩ : S28) :: fs) = namesB ++ (listB [v]).filter fun s => !ownB s := by unfold goneB; rw [e1]
  rw [e2]
  unfold withoutB
  rw [List.filter_cons, if_neg (by rw [List.any_append, conn_names]; simp)]
  apply List.filter_congr
  intro f hf
  obtain ⟨⟨c, hc, e⟩, _⟩ := h f hf
  rw [List.any_append, e, nm_names ⟨c, hc⟩, Bool.false_or]; rfl

theorem put_some (i : Nat) (h : i < 10) : ∃ t : ByteArray, t.size ≤ 20 ∧ Ev (fun k => parallaxref1_Put.f k (i : Int)) t :=
  ⟨_, by rw [strOfNums_size]; simp, Ev.bind (rput_low i 10 (by decide) h) (Ev.now _)⟩
theorem named_end (v : ByteArray) (hv : v.size ≤ 200) (g : List Bool) (l : List Int) (fs : List S28) (hf : ∀ f ∈ fs, isF f) (hn : fs.length ≤ 20) (i : Nat) (hi2 : i = l.length) :
    Ev (fun k => parallaxlaw18_HopNamed.l1 k l allN g ((⟨connB, v⟩ : S28) :: fs) (fs.filter fun f => !(named v f.f0)) (i : Int)) true := by
  have hz : ∀ x ∈ fs, x.f0.size ≤ 200 ∧ x.f1.size ≤ 200 := fun x hx => by
    obtain ⟨⟨c, hc, e⟩, h2⟩ := hf x hx
    have := nm_size ⟨c, hc⟩
    simp only at this
    rw [e]; omega
  have hz2 : ∀ x ∈ (⟨connB, v⟩ : S28) :: fs, x.f0.size ≤ 200 ∧ x.f1.size ≤ 200 := fun x hx => by
    rcases List.mem_cons.mp hx with rfl | h
    · exact ⟨by show connB.size ≤ 200; decide, hv⟩
    · exact hz x h
  have hl : (fs.filter fun f => !(named v f.f0)).length ≤ fs.length := List.length_filter_le _ _
  refine Ev.step (fun _ => parallaxlaw18_HopNamed.l1.eq_2 ..) (Ev.neg (by omega) (Ev.bind (strip_ev _ (by simp; omega) hz2) ?_))
  rw [strip_conn v fs hf]
  refine Ev.bind (rfields_refl _ (by omega)) (Ev.pos rfl (Ev.pos (by simp; omega) ?_))
  rw [List.drop_succ_cons, List.drop_zero]
  refine Ev.bind (strip_ev fs (by omega) hz) ?_
  rw [fs_names fs hf]
  exact Ev.bind (rfields_refl _ (by omega)) (Ev.now _)
theorem named_l1 (v : ByteArray) (hv : v.size ≤ 200) (g : List Bool) (hi : Inv v g) (l : List Int) (hl : l.length ≤ 10) (hw : ∀ x ∈ l, 0 ≤ x ∧ x < 256) (d : Nat) : ∀ (i : Nat) (fs : List S28), i + d = l.length → fs.length = i → (∀ f ∈ fs, isF f) →
    Ev (fun k => parallaxlaw18_HopNamed.l1 k l allN g ((⟨connB, v⟩ : S28) :: fs) (fs.filter fun f => !(named v f.f0)) (i : Int)) true := by
  induction d with
  | zero => intro i fs h1 h2 hf; exact named_end v hv g l fs hf (by omega) i (by omega)
  | succ d ih =>
    intro i fs h1 h2 hf
    have hm : rd l (i : Int) ∈ l := by rw [rd_nat]; simp [List.getD_eq_getElem?_getD, show i < l.length by omega]
    have hc := hw _ hm
    have ht : Int.tmod (rd l (i : Int)) 6 = (((rd l (i : Int)).toNat % 6 : Nat) : Int) := by rw [Int.tmod_eq_emod_of_nonneg hc.1]; omega
    have h6 : (rd l (i : Int)).toNat % 6 < 6 := Nat.mod_lt _ (by decide)
    generalize (rd l (i : Int)).toNat % 6 = c at ht h6
    obtain ⟨t, hts, hte⟩ := put_some i (by omega)
    have hlen : allN.length = 6 := rfl
    have hfl : (fs.filter fun f => !(named v f.f0)).length ≤ fs.length := List.length_filter_le _ _
    refine Ev.step (fun _ => parallaxlaw18_HopNamed.l1.eq_2 ..) (Ev.pos (by omega) (Ev.pos (by omega) ?_))
    rw [ht, nm_rd]
    refine Ev.pos (by omega) (Ev.pos (by omega) (Ev.bind hte (Ev.pos (by simp; omega) (Ev.val rfl (Ev.pos (by omega) ?_)))))
    have hf2 : ∀ f ∈ fs ++ [(⟨nm c, t⟩ : S28)], isF f := fun f hx => by
      rcases List.mem_append.mp hx with h | h
      · exact hf f h
      · rw [List.mem_singleton.mp h]; exact ⟨⟨c, h6, rfl⟩, hts⟩
    have next := ih (i + 1) (fs ++ [(⟨nm c, t⟩ : S28)]) (by omega) (by simp; omega) hf2
    rw [List.filter_append, List.filter_cons, List.filter_nil] at next
    obtain ⟨e1, _⟩ := hi.2 c h6
    have j4 : ∀ y, Ev (fun k => parallaxlaw18_HopNamed.l1 k l allN g ((⟨connB, v⟩ : S28) :: (fs ++ [(⟨nm c, t⟩ : S28)])) y ((i + 1 : Nat) : Int)) true → Ev (fun k => parallaxlaw18_HopNamed.j4 k l allN g ((⟨connB, v⟩ : S28) :: fs ++ [(⟨nm c, t⟩ : S28)]) y (i : Int)) true := fun y hy =>
      Ev.step (fun _ => parallaxlaw18_HopNamed.j4.eq_2 ..) (by rw [wrap_nat (by omega)]; exact hy)
    cases hg : rdOf false g (c : Int) with
    | true =>
      refine Ev.pos rfl (j4 _ ?_)
      rw [if_neg (by show ¬ (!(named v (nm c))) = true; rw [e1, hg]; decide), List.append_nil] at next
      exact next
    | false =>
      refine Ev.neg (by decide) (Ev.pos (by omega) (j4 _ ?_))
      rw [if_pos (by show (!(named v (nm c))) = true; rw [e1, hg]; rfl)] at next
      exact next
theorem named_l0 (m : List Int) (hm : m.length ≤ 6) (hmw : ∀ x ∈ m, 0 ≤ x ∧ x < 256) (l : List Int) (hl : l.length ≤ 10) (hw : ∀ x ∈ l, 0 ≤ x ∧ x < 256) (d : Nat) : ∀ (i : Nat) (v : ByteArray) (g : List Bool), i + d = m.length → v.size ≤ 5 + 22 * i → Inv v g →
    Ev (fun k => parallaxlaw18_HopNamed.l0 k m l allN v g (i : Int)) true := by
  induction d with
  | zero =>
    intro i v g h1 hv hi
    refine Ev.step (fun _ => parallaxlaw18_HopNamed.l0.eq_2 ..) (Ev.neg (by omega) ?_)
    exact named_l1 v (by omega) g hi l hl hw l.length 0 [] (by omega) rfl (fun f hf => by cases hf)
  | succ d ih =>
    intro i v g h1 hv hi
    have hmem : rd m (i : Int) ∈ m := by rw [rd_nat]; simp [List.getD_eq_getElem?_getD, show i < m.length by omega]
    have hc := hmw _ hmem
    have ht : Int.tmod (rd m (i : Int)) 6 = (((rd m (i : Int)).toNat % 6 : Nat) : Int) := by rw [Int.tmod_eq_emod_of_nonneg hc.1]; omega
    have h6 : (rd m (i : Int)).toNat % 6 < 6 := Nat.mod_lt _ (by decide)
    generalize (rd m (i : Int)).toNat % 6 = c at ht h6
    have hb : Int.tmod (i : Int) 2 = ((i % 2 : Nat) : Int) := by rw [Int.tmod_eq_emod_of_nonneg (by omega)]; omega
    have h2 : i % 2 < 2 := Nat.mod_lt _ (by decide)
    have hlen : allN.length = 6 := rfl
    have hs : (v ++ (⟨#[44, 32]⟩ : ByteArray)).size = v.size + 2 := by rw [ByteArray.size_append]; rfl
    have hps := pick_size ⟨c, h6⟩ ⟨i % 2, h2⟩
    have hns := nm_size ⟨c, h6⟩
    simp only at hps hns
    refine Ev.step (fun _ => parallaxlaw18_HopNamed.l0.eq_2 ..) (Ev.pos (by omega) (Ev.pos (by omega) (Ev.pos (by omega) ?_)))
    rw [ht, hb, nm_rd]
    refine Ev.pos (by omega) (Ev.pos (by omega) (Ev.val (rlower_some (by omega)) (Ev.val rfl ?_)))
    rw [pick_rd c (i % 2) h2]
    refine Ev.pos (by omega) (Ev.pos (by simp; omega) (Ev.pos (by omega) ?_))
    have next := ih (i + 1) ((v ++ (⟨#[44, 32]⟩ : ByteArray)) ++ pick c (i % 2)) (g.set c (okc c)) (by omega) (by rw [ByteArray.size_append]; omega) (inv_more hi c (i % 2) h6 h2)
    have j2 : Ev (fun k => parallaxlaw18_HopNamed.j2 k m l allN ((v ++ (⟨#[44, 32]⟩ : ByteArray)) ++ pick c (i % 2)) (g.set c (okc c)) (i : Int)) true := Ev.step (fun _ => parallaxlaw18_HopNamed.j2.eq_2 ..) (by rw [wrap_nat (by omega)]; exact next)
    rw [Int.toNat_natCast]
    by_cases h3 : (c : Int) = 3
    · refine Ev.pos h3 (Ev.pos (by omega) ?_)
      rw [show okc c = false by obtain rfl : c = 3 := (by omega); rfl] at j2
      exact j2
    · refine Ev.neg h3 (Ev.pos (by omega) ?_)
      have hc3 : (c == 3) = false := beq_eq_false_iff_ne.mpr (fun e => h3 (by omega))
      have hok : okc c = ((c : Int) != 4) := by
        unfold okc
        rw [hc3]
        by_cases h4 : c = 4
        · subst h4; rfl
        · rw [beq_eq_false_iff_ne.mpr h4, bne_iff_ne.mpr (show (c : Int) ≠ 4 from fun e => h4 (by omega))]; rfl
      rw [hok] at j2
      exact j2
theorem HopNamed : parallaxlaw18_HopNamed.Pure := by
  intro l0 l1 _ _ h0 _ _ h1
  refine Ev.rounds (g := fun k => parallaxlaw18_HopNamed.f k l0 l1) ?_
  unfold parallaxlaw18_HopNamed.f
  have far : ∀ b : Bool, b = true → Ev (fun k => parallaxlaw18_HopNamed.j0 k l0 l1 b) true := fun b hb => Ev.step (fun _ => parallaxlaw18_HopNamed.j0.eq_2 ..) (Ev.pos hb (Ev.now _))
  refine Ev.bind known_ev (Ev.pos rfl ?_)
  by_cases c0 : (l0.length : Int) > 6
  · exact Ev.pos c0 (far _ rfl)
  refine Ev.neg c0 ?_
  by_cases c1 : (l1.length : Int) > 10
  · exact far _ (decide_eq_true c1)
  refine Ev.step (fun _ => parallaxlaw18_HopNamed.j0.eq_2 ..) (Ev.neg (by rw [decide_eq_true_eq]; exact c1) ?_)
  exact named_l0 l0 (by omega) (fun x hx => u8_wf (h0 x hx)) l1 (by omega) (fun x hx => u8_wf (h1 x hx)) l0.length 0 _ _ (by omega) (by decide) inv_nil
end Go.Proofs.YtfmpajagkjealaaDoor.Pure
