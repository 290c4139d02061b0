/- It is proved that TargetHosts answers true at every input: just which names, which ports a host may have. -/
import Derived.Test.YtnnehbbfokoklaaPTargetHostsx6
import Derived.Test.YtnnehbbfokoklaaTxtTargetHosts
namespace Go.Proofs.Ytnnehbbfokoklaa.Pure
open Go.RowKit Go.Proofs.Ytnnehbbfokoklaa.PTargetHosts Go.Proofs.YtnnehbbfokoklaaW.PrintWords Go.Proofs.YtnnehbbfokoklaaW.PrintLast Go.Proofs.YtnnehbbfokoklaaW.PrintMore Go.Proofs.Ytnnehbbfokoklaa.Aid Go.Proofs.Ytnnehbbfokoklaa.Parts

def tabT : ByteArray := ⟨#[97, 122, 45, 46, 95, 126, 48, 57, 65, 90, 47, 64, 33]⟩
def signT : ByteArray := ⟨#[45, 46, 95, 126]⟩
def nameB (l : List Int) : List Int := l.map fun x => bt tabT (Int.tmod x 13)
def goodB (l : List Int) : Bool := decide ((l.length : Int) > 0) && l.all fun x => decide (Int.tmod x 13 < 10)
theorem tab_ok : ∀ n : Fin 256, (0 ≤ Int.tmod (n.val : Int) 13 ∧ Int.tmod (n.val : Int) 13 < 13) ∧ bt tabT (Int.tmod (n.val : Int) 13) ≠ 58 ∧ (0 ≤ bt tabT (Int.tmod (n.val : Int) 13) ∧ bt tabT (Int.tmod (n.val : Int) 13) < 256) ∧ plainB signT (bt tabT (Int.tmod (n.val : Int) 13)) = decide (Int.tmod (n.val : Int) 13 < 10) := by decide +kernel
theorem tab_at {x : Int} (h : 0 ≤ x ∧ x < 256) : (0 ≤ Int.tmod x 13 ∧ Int.tmod x 13 < 13) ∧ bt tabT (Int.tmod x 13) ≠ 58 ∧ (0 ≤ bt tabT (Int.tmod x 13) ∧ bt tabT (Int.tmod x 13) < 256) ∧ plainB signT (bt tabT (Int.tmod x 13)) = decide (Int.tmod x 13 < 10) := byte_all (p := fun x => (0 ≤ Int.tmod x 13 ∧ Int.tmod x 13 < 13) ∧ bt tabT (Int.tmod x 13) ≠ 58 ∧ (0 ≤ bt tabT (Int.tmod x 13) ∧ bt tabT (Int.tmod x 13) < 256) ∧ plainB signT (bt tabT (Int.tmod x 13)) = decide (Int.tmod x 13 < 10)) tab_ok h.1 h.2
theorem name_bytes (l : List Int) (hw : ∀ x ∈ l, 0 ≤ x ∧ x < 256) : bytesOf (strOfNums (nameB l)) = nameB l := by
  refine LowP.bytes_nums fun x hx => ?_
  obtain ⟨y, hy, rfl⟩ := List.mem_map.mp hx
  exact (tab_at (hw y hy)).2.2.1
theorem name_colon (l : List Int) (hw : ∀ x ∈ l, 0 ≤ x ∧ x < 256) : ∀ x ∈ bytesOf (strOfNums (nameB l)), x ≠ 58 := by
  rw [name_bytes l hw]
  intro x hx
  obtain ⟨y, hy, rfl⟩ := List.mem_map.mp hx
  exact (tab_at (hw y hy)).2.1
theorem name_size (l : List Int) (hw : ∀ x ∈ l, 0 ≤ x ∧ x < 256) : (strOfNums (nameB l)).size = l.length := by
  rw [← bytesOf_length, name_bytes l hw]; exact List.length_map ..
theorem name_good (l : List Int) (hl : l.length ≤ 30) (hw : ∀ x ∈ l, 0 ≤ x ∧ x < 256) : (decide (0 < (strOfNums (nameB l)).size) && (decide ((strOfNums (nameB l)).size ≤ 255) && signsB (⟨#[45, 46, 95, 126]⟩ : ByteArray) false (bytesOf (strOfNums (nameB l))))) = goodB l := by
  rw [name_size l hw, name_bytes l hw, signs_flat]
  unfold goodB
  rw [show decide (l.length ≤ 255) = true from decide_eq_true (by omega), Bool.true_and]
  congr 1
  · exact decide_eq_decide.mpr (by omega)
  · unfold nameB
    rw [List.all_map]
    clear hl
    induction l with
    | nil => rfl
    | cons x l ih =>
      rw [List.all_cons, List.all_cons, ih (fun y hy => hw y (by simp [hy]))]
      congr 1
      exact (tab_at (hw x (by simp))).2.2.2
theorem long_size (i : Nat) : (BA (List.replicate i 97)).size = i := by rw [size_BA, List.length_replicate]
theorem long_host (i : Nat) (h : 0 < i) : hostB (BA (List.replicate i 97)) = decide (i ≤ 255) := by
  have hb : ∀ x ∈ bytesOf (BA (List.replicate i 97)), x = 97 := by
    intro x hx
    unfold bytesOf at hx
    rw [data_BA] at hx
    obtain ⟨y, hy, rfl⟩ := List.mem_map.mp hx
    rw [(List.mem_replicate.mp hy).2]; rfl
  rw [host_bare _ (fun x hx => by rw [hb x hx]; decide), long_size, signs_flat, decide_eq_true h, Bool.true_and]
  have : (bytesOf (BA (List.replicate i 97))).all (plainB (⟨#[45, 46, 95, 126]⟩ : ByteArray)) = true := by
    rw [List.all_eq_true]; intro x hx; rw [hb x hx]; decide +kernel
  rw [this, Bool.and_true]
theorem last_loop (l : List Int) (hl : l.length ≤ 30) (hw : ∀ x ∈ l, 0 ≤ x ∧ x < 256) (m n : Nat) (p : ByteArray) (hp : Num 10 4 (bytesOf p) (m % 100000)) (hps : p.size ≤ 30) (d : Nat) : ∀ i : Nat, i + d = 250 + n % 10 →
    Ev (fun k => parallaxlaw7_TargetHosts.l2 k (m : Int) (n : Int) (strOfNums (nameB l)) (goodB l) p (BA (List.replicate i 97)) (i : Int)) true := by
  have hq : Int.tmod (n : Int) 10 = ((n % 10 : Nat) : Int) := by rw [Int.tmod_eq_emod_of_nonneg (by omega), Int.natCast_emod]; rfl
  have hm : Int.tmod (m : Int) 100000 = ((m % 100000 : Nat) : Int) := by rw [Int.tmod_eq_emod_of_nonneg (by omega), Int.natCast_emod]; rfl
  have h10 : n % 10 < 10 := Nat.mod_lt _ (by decide)
  have e1 : wrap64 (((n % 10 : Nat) : Int)) = ((n % 10 : Nat) : Int) := wrap_in (by omega) (by omega)
  have e2 : wrap64 (250 + ((n % 10 : Nat) : Int)) = ((250 + n % 10 : Nat) : Int) := by rw [wrap_in (by omega) (by omega)]; omega
  induction d with
  | zero =>
    intro i hi
    have hc := name_colon l hw
    have hn := name_size l hw
    have hlong := long_size i
    refine Ev.step (fun _ => parallaxlaw7_TargetHosts.l2.eq_2 ..) ?_
    rw [hq, e1, e2, hm]
    refine Ev.neg (by omega) (Ev.bind (host_ev _ (by omega)) ?_)
    rw [host_bare _ hc, name_good l hl hw, beq_self_eq_true]
    refine Ev.pos rfl (Ev.pos (by omega) (Ev.pos (by rw [ByteArray.size_append]; show _ + 1 + _ ≤ _; omega) (Ev.bind (host_ev _ (by rw [ByteArray.size_append, ByteArray.size_append]; show _ + 1 + _ < _; omega)) ?_)))
    have hat : hostB (strOfNums (nameB l) ++ (⟨#[58]⟩ : ByteArray) ++ p) = (((decide (m % 100000 ≤ 65535)) && decide (p.size ≤ 5)) && goodB l) := by
      have := host_at (strOfNums (nameB l)) p hc
      rw [name_good l hl hw, num_read hp] at this
      refine Eq.trans this ?_
      rw [show mx (65535 : Int) 0 = 65535 from rfl]
      by_cases h : m % 100000 ≤ 65535
      · rw [if_pos (by omega), decide_eq_true h]; rfl
      · rw [if_neg (by omega), decide_eq_false h]; rfl
    rw [hat]
    have tail : Ev (fun k => (target_Host.f k (strOfNums (nameB l) ++ (⟨#[58]⟩ : ByteArray))).bind fun t224 => (if t224 = true then (some false) else (if 1 + p.size ≤ 9223372036854775807 then ((target_Host.f k ((⟨#[58]⟩ : ByteArray) ++ p)).bind fun t225 => (if t225 = true then (some false) else ((target_Host.f k (BA (List.replicate i 97))).bind fun t226 => (some (t226 == (decide (((BA (List.replicate i 97)).size : Int) ≤ 255))))))) else (none)))) true := by
      refine Ev.bind (host_ev _ (by rw [ByteArray.size_append]; show _ + 1 < _; omega)) ?_
      have h1 : hostB (strOfNums (nameB l) ++ (⟨#[58]⟩ : ByteArray)) = false := by
        have := host_at (strOfNums (nameB l)) ByteArray.empty hc
        rw [show (strOfNums (nameB l) ++ BA [58] ++ ByteArray.empty) = strOfNums (nameB l) ++ (⟨#[58]⟩ : ByteArray) by simp [BA]] at this
        rw [this]; rfl
      refine Ev.neg (by rw [h1]; simp) (Ev.pos (by omega) (Ev.bind (host_ev _ (by rw [ByteArray.size_append]; show 1 + _ < _; omega)) ?_))
      have h2 : hostB ((⟨#[58]⟩ : ByteArray) ++ p) = false := by
        have := host_at ByteArray.empty p (fun x hx => by cases hx)
        rw [show (ByteArray.empty ++ BA [58] ++ p) = (⟨#[58]⟩ : ByteArray) ++ p by simp [BA]] at this
        rw [this, show decide (0 < ByteArray.empty.size) = false from rfl, Bool.false_and, Bool.and_false]
      refine Ev.neg (by rw [h2]; simp) (Ev.bind (host_ev _ (by omega)) ((Ev.now _).to ?_))
      rw [long_host i (by omega), hlong, beq_iff_eq]
      exact decide_eq_decide.mpr (by omega)
    cases hg : goodB l with
    | true =>
      refine Ev.pos rfl ?_
      by_cases h : m % 100000 ≤ 65535
      · refine Ev.pos (by omega) (Ev.pos ?_ tail)
        rw [decide_eq_true h, beq_iff_eq, Bool.true_and, Bool.and_true]
        exact decide_eq_decide.mpr (by omega)
      · refine Ev.neg (by omega) (Ev.pos ?_ tail)
        rw [decide_eq_false h]; rfl
    | false => exact Ev.neg (by simp) (Ev.pos (by simp) tail)
  | succ d ih =>
    intro i hi
    refine Ev.step (fun _ => parallaxlaw7_TargetHosts.l2.eq_2 ..) ?_
    rw [hq, e1, e2, long_size]
    refine Ev.pos (by omega) (Ev.pos (by omega) ?_)
    rw [wrap_nat (by omega)]
    have := ih (i + 1) (by omega)
    rw [List.replicate_succ', ← BA_app] at this
    exact this
theorem pad_loop (l : List Int) (hl : l.length ≤ 30) (hw : ∀ x ∈ l, 0 ≤ x ∧ x < 256) (m n b : Nat) (d : Nat) : ∀ p : ByteArray, Num 10 4 (bytesOf p) (m % 100000) → p.size + d = 30 →
    Ev (fun k => parallaxlaw7_TargetHosts.l1 k (m : Int) (b : Int) (n : Int) (strOfNums (nameB l)) (goodB l) p) true := by
  have hq : Int.tmod (b : Int) 7 = ((b % 7 : Nat) : Int) := by rw [Int.tmod_eq_emod_of_nonneg (by omega), Int.natCast_emod]; rfl
  have h7 : b % 7 < 7 := Nat.mod_lt _ (by decide)
  have e1 : wrap64 (((b % 7 : Nat) : Int)) = ((b % 7 : Nat) : Int) := wrap_in (by omega) (by omega)
  have stop : ∀ p : ByteArray, Num 10 4 (bytesOf p) (m % 100000) → p.size ≤ 30 → b % 7 ≤ p.size → Ev (fun k => parallaxlaw7_TargetHosts.l1 k (m : Int) (b : Int) (n : Int) (strOfNums (nameB l)) (goodB l) p) true := by
    intro p hp hs hb
    refine Ev.step (fun _ => parallaxlaw7_TargetHosts.l1.eq_2 ..) ?_
    rw [hq, e1]
    exact Ev.neg (by omega) (last_loop l hl hw m n p hp hs (250 + n % 10) 0 (by omega))
  induction d with
  | zero => intro p hp hs; exact stop p hp (by omega) (by omega)
  | succ d ih =>
    intro p hp hs
    by_cases hb : b % 7 ≤ p.size
    · exact stop p hp (by omega) hb
    refine Ev.step (fun _ => parallaxlaw7_TargetHosts.l1.eq_2 ..) ?_
    rw [hq, e1]
    refine Ev.pos (by omega) (Ev.pos (by omega) (ih _ ?_ (by rw [ByteArray.size_append]; show 1 + _ + _ = _; omega)))
    have e : bytesOf ((⟨#[48]⟩ : ByteArray) ++ p) = 48 :: bytesOf p := by unfold bytesOf; rw [data_app]; rfl
    rw [e]; exact num_zero hp nought.1.1 nought.2
theorem make_loop (l : List Int) (hl : l.length ≤ 30) (hw : ∀ x ∈ l, 0 ≤ x ∧ x < 256) (m n b : Nat) (d : Nat) : ∀ i : Nat, i + d = l.length →
    Ev (fun k => parallaxlaw7_TargetHosts.l0 k l (m : Int) (b : Int) (n : Int) (strOfNums (nameB (l.take i))) (decide ((l.length : Int) > 0) && (l.take i).all fun x => decide (Int.tmod x 13 < 10)) (i : Int)) true := by
  have hm : Int.tmod (m : Int) 100000 = ((m % 100000 : Nat) : Int) := by rw [Int.tmod_eq_emod_of_nonneg (by omega), Int.natCast_emod]; rfl
  have h5 : m % 100000 < 100000 := Nat.mod_lt _ (by decide)
  have e1 : wrap64 (((m % 100000 : Nat) : Int)) = ((m % 100000 : Nat) : Int) := wrap_in (by omega) (by omega)
  induction d with
  | zero =>
    intro i hi
    refine Ev.step (fun _ => parallaxlaw7_TargetHosts.l0.eq_2 ..) ?_
    rw [hm, e1, List.take_of_length_le (by omega)]
    refine Ev.neg (by omega) (Ev.bind (rPut_ev _ (by omega)) ?_)
    have e2 : (mx ((m % 100000 : Nat) : Int) 0).toNat = m % 100000 := by unfold mx; split <;> omega
    rw [e2]
    have hsz := decB_size (m % 100000) (by omega)
    exact pad_loop l hl hw m n b (30 - (decB (m % 100000)).size) _ (decB_num _) (by omega)
  | succ d ih =>
    intro i hi
    have hx := hw (rd l (i : Int)) (by rw [rd_nat, List.getD_eq_getElem?_getD, List.getElem?_eq_getElem (by omega : i < l.length)]; exact List.getElem_mem _)
    obtain ⟨⟨t0, t1⟩, t2⟩ := tab_at hx
    have hk : l.take (i + 1) = l.take i ++ [rd l (i : Int)] := by
      rw [List.take_add_one, rd_nat, List.getD_eq_getElem?_getD, List.getElem?_eq_getElem (by omega : i < l.length)]; rfl
    have hs : (strOfNums (nameB (l.take i))).size = i := by
      rw [name_size _ (fun x hx => hw x (List.mem_of_mem_take hx)), List.length_take]; omega
    have ih' := ih (i + 1) (by omega)
    rw [hk, show nameB (l.take i ++ [rd l (i : Int)]) = nameB (l.take i) ++ [bt tabT (Int.tmod (rd l (i : Int)) 13)] from by unfold nameB; rw [List.map_append]; rfl, nums_app, List.all_append, List.all_cons, List.all_nil, Bool.and_true, ← Bool.and_assoc] at ih'
    have hz : (strOfNums [bt tabT (Int.tmod (rd l (i : Int)) 13)]).size = 1 := rfl
    refine Ev.step (fun _ => parallaxlaw7_TargetHosts.l0.eq_2 ..) (Ev.pos (by omega) (Ev.pos (by omega) (Ev.pos t0 (Ev.pos t1 ?_))))
    rw [wrap_nat (by omega)]
    generalize (decide ((l.length : Int) > 0) && (l.take i).all fun x => decide (Int.tmod x 13 < 10)) = g at ih' ⊢
    cases g with
    | true =>
      rw [Bool.true_and] at ih'
      exact Ev.pos rfl (Ev.val rfl (Ev.pos (by show _ + (strOfNums [bt tabT (Int.tmod (rd l (i : Int)) 13)]).size ≤ _; omega) ih'))
    | false =>
      rw [Bool.false_and] at ih'
      exact Ev.neg (by simp) (Ev.val rfl (Ev.pos (by show _ + (strOfNums [bt tabT (Int.tmod (rd l (i : Int)) 13)]).size ≤ _; omega) ih'))

theorem TargetHosts : parallaxlaw7_TargetHosts.Pure := by
  intro l0 a1 a2 a3 h0 h1 hw w1 w2 w3
  refine Ev.rounds (g := fun k => parallaxlaw7_TargetHosts.f k l0 a1 a2 a3) ?_
  unfold parallaxlaw7_TargetHosts.f
  have i1 := u32_wf w1
  have i2 := u8_wf w2
  have i3 : 0 ≤ a3 ∧ a3 < 65536 := by
    have e1 : IntKind.u16.min = 0 := by decide
    have e2 : IntKind.u16.max = 65535 := by decide
    simp only [Lit.wf, e1, e2, Bool.and_eq_true, decide_eq_true_eq] at w3
    omega
  obtain ⟨m, rfl⟩ : ∃ n : Nat, a1 = (n : Int) := ⟨a1.toNat, by omega⟩
  obtain ⟨b, rfl⟩ : ∃ n : Nat, a2 = (n : Int) := ⟨a2.toNat, by omega⟩
  obtain ⟨n, rfl⟩ : ∃ n : Nat, a3 = (n : Int) := ⟨a3.toNat, by omega⟩
  refine Ev.bind known_ev (Ev.pos rfl ?_)
  by_cases c0 : (l0.length : Int) > 30
  · exact Ev.pos c0 (Ev.now _)
  refine Ev.neg c0 ?_
  have := make_loop l0 (by omega) (fun x hx => u8_wf (hw x hx)) m n b l0.length 0 (by omega)
  rw [List.take_zero, List.all_nil, Bool.and_true] at this
  exact this

end Go.Proofs.Ytnnehbbfokoklaa.Pure
