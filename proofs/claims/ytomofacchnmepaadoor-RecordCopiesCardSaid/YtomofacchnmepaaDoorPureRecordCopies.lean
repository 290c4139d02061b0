/- It is proved that RecordCopies answers true at every input: a record's copy is the same, and stays when what it is of changes. -/
import Derived.Test.YtomofacchnmepaaDoorPRecordCopiesx10
import Derived.Test.YtomofacchnmepaaDoorTxtRecordCopies
namespace Go.Proofs.YtomofacchnmepaaDoor.Pure
open Go.RowKit Go.Proofs.YtomofacchnmepaaDoor.PRecordCopies Go.Proofs.YtomofacchnmepaaDoorW.PrintWords Go.Proofs.YtomofacchnmepaaDoorW.PrintLast Go.Proofs.YtomofacchnmepaaDoorW.PrintMore Go.Proofs.YtomofacchnmepaaDoor.Aid Go.Proofs.YtomofacchnmepaaDoor.Parts

def fldB : List ByteArray := [(⟨#[65, 58, 32, 98]⟩ : ByteArray), (⟨#[88, 45, 89, 58, 32, 122]⟩ : ByteArray), (⟨#[65, 99, 99, 101, 112, 116, 58, 32, 42, 47, 42]⟩ : ByteArray), (⟨#[67, 111, 111, 107, 105, 101, 58, 32, 97, 61, 49]⟩ : ByteArray)]
def metB : List ByteArray := [(⟨#[71, 69, 84]⟩ : ByteArray), (⟨#[80, 79, 83, 84]⟩ : ByteArray), (⟨#[80, 85, 84]⟩ : ByteArray), (⟨#[68, 69, 76, 69, 84, 69]⟩ : ByteArray), (⟨#[72, 69, 65, 68]⟩ : ByteArray)]
def tarB : List ByteArray := [(⟨#[47]⟩ : ByteArray), (⟨#[47, 97]⟩ : ByteArray), (⟨#[47, 97, 47, 98, 63, 120, 61, 49]⟩ : ByteArray), (⟨#[47, 118, 49, 47, 105, 116, 101, 109, 47, 55]⟩ : ByteArray), (⟨#[47, 115, 116, 97, 116, 105, 99, 47, 99, 115, 115, 47, 109, 46, 99, 115, 115]⟩ : ByteArray), (⟨#[104, 116, 116, 112, 58, 47, 47, 97, 47, 113]⟩ : ByteArray)]
def hosB : List ByteArray := [(⟨#[97]⟩ : ByteArray), (⟨#[104, 46, 111, 114, 103]⟩ : ByteArray)]
theorem fld_tab : ∀ j : Fin 4, (match parallaxref9_Parse.f 40 (rdOf ByteArray.empty fldB (j.val : Int)) 0 with | some r => decide (r.1.size ≤ 100 ∧ r.2.1.size ≤ 100) | none => false) = true := by decide +kernel
theorem fld_ev (j : Nat) (h : j < 4) : ∃ r, Ev (fun k => parallaxref9_Parse.f k (rdOf ByteArray.empty fldB (j : Int)) 0) r ∧ r.1.size ≤ 100 ∧ r.2.1.size ≤ 100 := by
  have := fld_tab ⟨j, h⟩
  dsimp only at this
  cases hp : parallaxref9_Parse.f 40 (rdOf ByteArray.empty fldB (j : Int)) 0 with
  | none => rw [hp] at this; cases this
  | some r =>
    rw [hp] at this
    have h2 : r.1.size ≤ 100 ∧ r.2.1.size ≤ 100 := of_decide_eq_true this
    exact ⟨r, Ev.of (fun k => parallaxref9_Parse.mono _ _ k) hp, h2⟩
theorem met_tab : ∀ j : Fin 5, (rdOf ByteArray.empty metB (j.val : Int)).size ≤ 100 := by decide +kernel
theorem tar_tab : ∀ j : Fin 6, (rdOf ByteArray.empty tarB (j.val : Int)).size ≤ 100 := by decide +kernel
theorem hos_tab : ∀ j : Fin 2, (rdOf ByteArray.empty hosB (j.val : Int)).size ≤ 100 := by decide +kernel
/-- what is known of a record of numbers -/
def OkR (r : ByteArray × ByteArray × Int × List S31 × Bool × List Int × List S31) : Prop :=
  r.1.size ≤ 100 ∧ r.2.1.size ≤ 100 ∧ 1 ≤ r.2.2.2.1.length ∧ r.2.2.2.1.length ≤ 3 ∧ (∀ x ∈ r.2.2.2.1, x.f0.size ≤ 100 ∧ x.f1.size ≤ 100) ∧ r.2.2.2.2.2.1.length ≤ 16 ∧ r.2.2.2.2.2.2.length ≤ 1 ∧ (∀ x ∈ r.2.2.2.2.2.2, x.f0.size ≤ 100 ∧ x.f1.size ≤ 100)
theorem neat_loop (l : List Int) (hl : l.length ≤ 12) (hw : ∀ x ∈ l, 0 ≤ x ∧ x < 256) (m t : ByteArray) (hm : m.size ≤ 100) (ht : t.size ≤ 100) (d : Nat) : ∀ (i : Nat) (fs : List S31), i + d = 2 → 1 ≤ fs.length → fs.length ≤ 1 + i → (∀ x ∈ fs, x.f0.size ≤ 100 ∧ x.f1.size ≤ 100) → ∃ r, Ev (fun k => parallaxseat_Neat.l0 k (i : Int) l m t 1 fs false) r ∧ OkR r := by
  have tail : ∀ (i : Nat) (fs : List S31) (v3 : Nat), parallaxseat_Neat_1.f 3 l = some (v3 : Int) → v3 < 256 → ¬ ((i : Int) < wrap64 (Int.tmod (v3 : Int) 3)) → 1 ≤ fs.length → fs.length ≤ 3 → (∀ x ∈ fs, x.f0.size ≤ 100 ∧ x.f1.size ≤ 100) → ∃ r, Ev (fun k => parallaxseat_Neat.l0 k (i : Int) l m t 1 fs false) r ∧ OkR r := by
    intro i fs v3 e3 b3 hlt h1 h2 h3
    obtain ⟨v7, b7, e7⟩ := at_some 7 l (by decide) (by omega) hw
    obtain ⟨v8, b8, e8⟩ := at_some 8 l (by decide) (by omega) hw
    obtain ⟨v9, b9, e9⟩ := at_some 9 l (by decide) (by omega) hw
    have tr : (∀ x ∈ ([(⟨(⟨#[84]⟩ : ByteArray), (⟨#[117]⟩ : ByteArray)⟩ : S31)] : List S31), x.f0.size ≤ 100 ∧ x.f1.size ≤ 100) := by
      intro x hx; rw [List.mem_singleton] at hx; subst hx; decide
    by_cases c7 : Int.tmod (v7 : Int) 2 = 0
    · have e16 : Int.tmod (v8 : Int) 16 = ((v8 % 16 : Nat) : Int) := tmod_at v8 16
      have hsz : ((⟨#[48, 49, 50, 51, 52, 53, 54, 55, 56, 57, 97, 98, 99, 100, 101, 102]⟩ : ByteArray).extract 0 ((Int.tmod (v8 : Int) 16) : Int).toNat).size ≤ 16 := by
        rw [e16, ByteArray.size_extract]
        exact Nat.le_trans (Nat.sub_le _ _) (Nat.min_le_right _ _)
      have hbl : (bytesOf ((⟨#[48, 49, 50, 51, 52, 53, 54, 55, 56, 57, 97, 98, 99, 100, 101, 102]⟩ : ByteArray).extract 0 ((Int.tmod (v8 : Int) 16) : Int).toNat)).length ≤ 16 := by rw [bytesOf_length]; exact hsz
      by_cases c9 : Int.tmod (v9 : Int) 5 = 0
      · refine ⟨_, Ev.step (fun _ => parallaxseat_Neat.l0.eq_2 ..) (Ev.val e3 (Ev.neg hlt (Ev.val e7 (Ev.pos c7 (Ev.val e8 (Ev.pos (by omega) (Ev.pos (by omega) (Ev.pos (by omega) (Ev.val rfl (Ev.val e9 (Ev.pos c9 (Ev.now _)))))))))))), hm, ht, h1, h2, h3, hbl, Nat.le_refl _, tr⟩
      · refine ⟨_, Ev.step (fun _ => parallaxseat_Neat.l0.eq_2 ..) (Ev.val e3 (Ev.neg hlt (Ev.val e7 (Ev.pos c7 (Ev.val e8 (Ev.pos (by omega) (Ev.pos (by omega) (Ev.pos (by omega) (Ev.val rfl (Ev.val e9 (Ev.neg c9 (Ev.now _)))))))))))), hm, ht, h1, h2, h3, hbl, Nat.zero_le _, by simp⟩
    · by_cases c9 : Int.tmod (v9 : Int) 5 = 0
      · exact ⟨_, Ev.step (fun _ => parallaxseat_Neat.l0.eq_2 ..) (Ev.val e3 (Ev.neg hlt (Ev.val e7 (Ev.neg c7 (Ev.val e9 (Ev.pos c9 (Ev.now _))))))), hm, ht, h1, h2, h3, Nat.zero_le _, Nat.le_refl _, tr⟩
      · exact ⟨_, Ev.step (fun _ => parallaxseat_Neat.l0.eq_2 ..) (Ev.val e3 (Ev.neg hlt (Ev.val e7 (Ev.neg c7 (Ev.val e9 (Ev.neg c9 (Ev.now _))))))), hm, ht, h1, h2, h3, Nat.zero_le _, Nat.zero_le _, by simp⟩
  obtain ⟨v3, b3, e3⟩ := at_some 3 l (by decide) (by omega) hw
  have e33 : Int.tmod (v3 : Int) 3 = ((v3 % 3 : Nat) : Int) := tmod_at v3 3
  have w33 : wrap64 (Int.tmod (v3 : Int) 3) = ((v3 % 3 : Nat) : Int) := by rw [e33]; exact wrap_in (by omega) (by omega)
  induction d with
  | zero =>
    intro i fs hi h1 h2 h3
    exact tail i fs v3 e3 b3 (by rw [w33]; omega) h1 (by omega) h3
  | succ d ih =>
    intro i fs hi h1 h2 h3
    by_cases hlt : (i : Int) < wrap64 (Int.tmod (v3 : Int) 3)
    · obtain ⟨v4, b4, e4⟩ := at_some (4 + (i : Int)) l (by omega) (by omega) hw
      have e44 : Int.tmod (v4 : Int) 4 = ((v4 % 4 : Nat) : Int) := tmod_at v4 4
      obtain ⟨p, hp, hp1, hp2⟩ := fld_ev (v4 % 4) (Nat.mod_lt _ (by decide))
      obtain ⟨r, hr, hok⟩ := ih (i + 1) (fs ++ [(⟨p.1, p.2.1⟩ : S31)]) (by omega) (by simp) (by simp; omega) (by
        intro x hx
        rcases List.mem_append.mp hx with h | h
        · exact h3 x h
        · rw [List.mem_singleton] at h; subst h; exact ⟨hp1, hp2⟩)
      refine ⟨r, Ev.step (fun _ => parallaxseat_Neat.l0.eq_2 ..) (Ev.val e3 (Ev.pos hlt (Ev.val rfl ?_))), hok⟩
      rw [wrap_in (i := 4 + (i : Int)) (by omega) (by omega), wrap_nat (by omega)]
      refine Ev.val e4 ?_
      rw [e44]
      exact Ev.pos (by omega) (Ev.pos (show ((v4 % 4 : Nat) : Int) < ((4 : Nat) : Int) by omega) (Ev.bind hp (Ev.pos (by omega) hr)))
    · exact tail i fs v3 e3 b3 hlt h1 (by omega) h3
theorem neat_ev (l : List Int) (hl : l.length ≤ 12) (hw : ∀ x ∈ l, 0 ≤ x ∧ x < 256) : ∃ r, Ev (fun k => parallaxseat_Neat.f k l) r ∧ OkR r := by
  obtain ⟨v0, b0, e0⟩ := at_some 0 l (by decide) (by omega) hw
  obtain ⟨v1, b1, e1⟩ := at_some 1 l (by decide) (by omega) hw
  obtain ⟨v2, b2, e2⟩ := at_some 2 l (by decide) (by omega) hw
  have m0 : Int.tmod (v0 : Int) 5 = ((v0 % 5 : Nat) : Int) := tmod_at v0 5
  have m1 : Int.tmod (v1 : Int) 6 = ((v1 % 6 : Nat) : Int) := tmod_at v1 6
  have m2 : Int.tmod (v2 : Int) 2 = ((v2 % 2 : Nat) : Int) := tmod_at v2 2
  have h0 : v0 % 5 < 5 := Nat.mod_lt _ (by decide)
  have h1 : v1 % 6 < 6 := Nat.mod_lt _ (by decide)
  have h2 : v2 % 2 < 2 := Nat.mod_lt _ (by decide)
  have t0 := met_tab ⟨v0 % 5, h0⟩
  have t1 := tar_tab ⟨v1 % 6, h1⟩
  have t2 := hos_tab ⟨v2 % 2, h2⟩
  obtain ⟨r, hr, hok⟩ := neat_loop l hl hw (rdOf ByteArray.empty metB ((v0 % 5 : Nat) : Int)) (rdOf ByteArray.empty tarB ((v1 % 6 : Nat) : Int)) t0 t1 2 0 [(⟨(⟨#[72, 111, 115, 116]⟩ : ByteArray), rdOf ByteArray.empty hosB ((v2 % 2 : Nat) : Int)⟩ : S31)] (by omega) (Nat.le_refl _) (Nat.le_refl _) (by
    intro x hx; rw [List.mem_singleton] at hx; subst hx; exact ⟨by show (4 : Nat) ≤ 100; decide, t2⟩)
  refine ⟨r, ?_, hok⟩
  unfold parallaxseat_Neat.f
  refine Ev.val rfl (Ev.val e0 ?_)
  rw [m0]
  refine Ev.pos (by omega) (Ev.pos (show ((v0 % 5 : Nat) : Int) < ((5 : Nat) : Int) by omega) (Ev.val rfl (Ev.val e1 ?_)))
  rw [m1]
  refine Ev.pos (by omega) (Ev.pos (show ((v1 % 6 : Nat) : Int) < ((6 : Nat) : Int) by omega) (Ev.val rfl (Ev.val e2 ?_)))
  rw [m2]
  exact Ev.pos (by omega) (Ev.pos (show ((v2 % 2 : Nat) : Int) < ((2 : Nat) : Int) by omega) hr)
theorem rdT_at (a r : List S31) (x : S31) : rd_T31 (a ++ x :: r) (a.length : Int) = x := by unfold rd_T31; simp [List.getD_eq_getElem?_getD]
theorem setT_at {α : Type} (a r : List α) (x y : α) : (a ++ x :: r).set a.length y = a ++ y :: r := by simp
theorem rd_at (a r : List Int) (x : Int) : rd (a ++ x :: r) (a.length : Int) = x := by rw [rd_nat]; simp [List.getD_eq_getElem?_getD]
def bang (x : S31) : S31 := ⟨x.f0, x.f1 ++ (⟨#[33]⟩ : ByteArray)⟩
def inc (x : Int) : Int := (x + 1) % 256
theorem sum_bang (l : List S31) : sumB (l.map bang) = sumB l + l.length := by
  induction l with
  | nil => rfl
  | cons x l ih =>
    simp only [List.map_cons, sumB, ih, List.length_cons, bang, ByteArray.size_append]
    show _ + (_ + 1) + _ = _
    omega
section
variable (m t : ByteArray) (q : Int) (fs : List S31) (b : Bool) (bd : List Int) (tr : List S31)
theorem l1_end (hm : m.size ≤ 100) (ht : t.size ≤ 100) (h1 : 1 ≤ fs.length) (h2 : fs.length ≤ 3) (h3 : ∀ x ∈ fs, x.f0.size ≤ 100 ∧ x.f1.size ≤ 100) (hb : bd.length ≤ 16) (hg : tr.length ≤ 1) (h4 : ∀ x ∈ tr, x.f0.size ≤ 100 ∧ x.f1.size ≤ 100) (B : List Int) (hB : B.length = bd.length) :
    Ev (fun k => parallaxlaw12_RecordCopies.l1 k ((recZ m t fs bd tr : Nat) : Int) (B.length : Int) m t q fs b bd tr m t q fs b bd tr m t q (fs.map bang) b B tr) true := by
  have s1 := sumB_le fs (fun x hx => by have := h3 x hx; omega)
  have s2 := sumB_le tr (fun x hx => by have := h4 x hx; omega)
  refine Ev.step (fun _ => parallaxlaw12_RecordCopies.l1.eq_2 ..) (Ev.neg (by omega) (Ev.bind (sameR_ev m t q fs b bd tr m t q fs b bd tr (by omega) (by omega)) ?_))
  rw [sameR_refl]
  refine Ev.pos rfl (Ev.bind (sameR_ev m t q (fs.map bang) b B tr m t q fs b bd tr (by rw [List.length_map]; omega) (by omega)) ?_)
  have hne : sameR m t q (fs.map bang) b B tr m t q fs b bd tr = false := by
    unfold sameR
    rw [show fieldsB (fs.map bang) fs = false from ?_, Bool.false_and]
    rw [Bool.eq_false_iff]
    intro e
    have e2 := congrArg sumB ((fieldsB_iff _ _).mp e)
    rw [sum_bang] at e2
    omega
  refine Ev.neg (by rw [hne]; simp) (Ev.bind (recZ_ev m t q (fs.map bang) b B tr (by omega) (by omega) (by omega) (by rw [List.length_map]; omega) (by omega) ?_ (fun x hx => by have := h4 x hx; omega)) ((Ev.now _).to ?_))
  · intro x hx
    obtain ⟨y, hy, rfl⟩ := List.mem_map.mp hx
    have := h3 y hy
    refine ⟨by show y.f0.size ≤ _; omega, ?_⟩
    show (y.f1 ++ (⟨#[33]⟩ : ByteArray)).size ≤ _
    rw [ByteArray.size_append]; show _ + 1 ≤ _; omega
  · rw [List.length_map, wrap_in (by unfold recZ; omega) (by unfold recZ; omega)]
    unfold recZ
    rw [sum_bang, hB, beq_iff_eq]
    omega
theorem l1_loop (n : Int) (F : List S31) (rest : List Int) : ∀ acc : List Int, acc.length + rest.length ≤ 16 →
    Ev (fun k => parallaxlaw12_RecordCopies.l1 k n ((acc.length + rest.length : Nat) : Int) m t q fs b bd tr m t q fs b bd tr m t q F b (acc ++ rest.map inc) tr) true → Ev (fun k => parallaxlaw12_RecordCopies.l1 k n (acc.length : Int) m t q fs b bd tr m t q fs b bd tr m t q F b (acc ++ rest) tr) true := by
  induction rest with
  | nil => intro acc _ h; exact h
  | cons x rest ih =>
    intro acc hl h
    have hlen : (acc ++ x :: rest).length = acc.length + (rest.length + 1) := by simp
    rw [List.length_cons] at hl
    refine Ev.step (fun _ => parallaxlaw12_RecordCopies.l1.eq_2 ..) (Ev.pos (by omega) (Ev.pos (by omega) ?_))
    rw [rd_at, Int.toNat_natCast, setT_at, wrap_nat (by omega)]
    have := ih (acc ++ [inc x]) (by simp; omega) (by
      rw [List.append_assoc, show (acc ++ [inc x]).length + rest.length = acc.length + (x :: rest).length by simp; omega]; exact h)
    rw [List.append_assoc, show (acc ++ [inc x]).length = acc.length + 1 by simp] at this
    exact this
theorem l0_loop (n : Int) (rest : List S31) : ∀ acc : List S31, acc.length + rest.length ≤ 3 → (∀ x ∈ rest, x.f0.size ≤ 100 ∧ x.f1.size ≤ 100) →
    Ev (fun k => parallaxlaw12_RecordCopies.l1 k n 0 m t q fs b bd tr m t q fs b bd tr m t q (acc ++ rest.map bang) b bd tr) true → Ev (fun k => parallaxlaw12_RecordCopies.l0 k n (acc.length : Int) m t q fs b bd tr m t q fs b bd tr m t q (acc ++ rest) b bd tr) true := by
  induction rest with
  | nil =>
    intro acc _ _ h
    exact Ev.step (fun _ => parallaxlaw12_RecordCopies.l0.eq_2 ..) (Ev.neg (by simp) h)
  | cons x rest ih =>
    intro acc hl hz h
    have hx := hz x (by simp)
    have hlen : (acc ++ x :: rest).length = acc.length + (rest.length + 1) := by simp
    rw [List.length_cons] at hl
    refine Ev.step (fun _ => parallaxlaw12_RecordCopies.l0.eq_2 ..) (Ev.pos (by omega) (Ev.pos (by omega) ?_))
    rw [rdT_at, Int.toNat_natCast, setT_at, wrap_nat (by omega)]
    refine Ev.pos (by omega) ?_
    have := ih (acc ++ [bang x]) (by simp; omega) (fun y hy => hz y (by simp [hy])) (by rw [List.append_assoc]; exact h)
    rw [List.append_assoc, show (acc ++ [bang x]).length = acc.length + 1 by simp] at this
    exact this
end
theorem RecordCopies : parallaxlaw12_RecordCopies.Pure := by
  intro l0 _ _ hw
  refine Ev.rounds (g := fun k => parallaxlaw12_RecordCopies.f k l0) ?_
  unfold parallaxlaw12_RecordCopies.f
  refine Ev.bind known_ev (Ev.pos rfl ?_)
  by_cases c1 : (l0.length : Int) > 12
  · exact Ev.pos c1 (Ev.now _)
  refine Ev.neg c1 ?_
  obtain ⟨⟨m, t, q, fs, b, bd, tr⟩, hr, hok⟩ := neat_ev l0 (by omega) (fun x hx => u8_wf (hw x hx))
  obtain ⟨hm, ht, h1, h2, h3, hb, hg, h4⟩ := hok
  dsimp only at hm ht h1 h2 h3 hb hg h4
  refine Ev.bind hr ?_
  dsimp only
  have hz := recZ_ev m t q fs b bd tr (by omega) (by omega) (by omega) (by omega) (by omega) (fun x hx => by have := h3 x hx; omega) (fun x hx => by have := h4 x hx; omega)
  refine Ev.val (copy_some m t q fs b bd tr (by omega) (by omega) (by omega)) (Ev.bind hz (Ev.bind (sameR_ev m t q fs b bd tr m t q fs b bd tr (by omega) (by omega)) ?_))
  rw [sameR_refl]
  refine Ev.pos rfl (Ev.bind hz (Ev.pos rfl (Ev.pos rfl (Ev.pos rfl (Ev.val (copy_some m t q fs b bd tr (by omega) (by omega) (by omega)) ?_)))))
  refine l0_loop m t q fs b bd tr _ fs [] (by simpa using h2) h3 ?_
  refine l1_loop m t q fs b bd tr _ _ bd [] (by simpa using hb) ?_
  have := l1_end m t q fs b bd tr hm ht h1 h2 h3 hb hg h4 (bd.map inc) (List.length_map ..)
  rw [List.length_map] at this
  simpa using this
end Go.Proofs.YtomofacchnmepaaDoor.Pure
