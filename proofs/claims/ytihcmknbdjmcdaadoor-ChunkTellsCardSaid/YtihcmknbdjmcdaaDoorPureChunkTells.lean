/- It is proved that ChunkTells answers true at every input: the size that a chunk's line says is the reference's, of any line, by any profile. -/
import Derived.Test.YtihcmknbdjmcdaaDoorPChunkTellsx9
import Derived.Test.YtihcmknbdjmcdaaDoorTxtChunkTells
namespace Go.Proofs.YtihcmknbdjmcdaaDoor.Pure
open Go.RowKit Go.Proofs.YtihcmknbdjmcdaaDoor.PChunkTells Go.Proofs.YtihcmknbdjmcdaaDoorW.PrintWords Go.Proofs.YtihcmknbdjmcdaaDoorW.PrintLast Go.Proofs.YtihcmknbdjmcdaaDoorW.PrintMore Go.Proofs.YtihcmknbdjmcdaaDoor.Aid Go.Proofs.YtihcmknbdjmcdaaDoor.Parts

def Good (x : ByteArray) : Prop := x.size < 1000
def IsProfile (p : Int) : Prop := ∃ m : Nat, p = (m : Int) ∧ m < 1073741824
/-- one line against all the profiles, from the j-th on -/
theorem in_loop (z : ByteArray) (hz : Good z) (x11 : Int) (l : List ByteArray) (n : Int) (i : Nat) (hi : i < 1000) (ps : List Int) (hps : ∀ p ∈ ps, IsProfile p) (hl : ps.length ≤ 1000) (u0 u1 u2 body ext u5 u6 u7 : Int) (u8 u9 : Bool) (hb : body ≤ 9223372036854775807) (R : Bool)
    (hR : Ev (fun k => parallaxlaw11_ChunkTells.l1 k x11 l n ((i + 1 : Nat) : Int) u0 u1 u2 body ext u5 u6 u7 u8 u9) R) (d : Nat) : ∀ j : Nat, j + d = ps.length →
    Ev (fun k => parallaxlaw11_ChunkTells.l2 k x11 z l n (i : Int) ps (ps.length : Int) (j : Int) u0 u1 u2 body ext u5 u6 u7 u8 u9) R := by
  unfold Good at hz
  induction d with
  | zero =>
    intro j hj
    refine Ev.step (fun _ => parallaxlaw11_ChunkTells.l2.eq_2 ..) (Ev.neg (by omega) ?_)
    rw [wrap_nat (by omega)]; exact hR
  | succ d ih =>
    intro j hj
    obtain ⟨m, hm, hm2⟩ := hps (rd ps (j : Int)) (by rw [rd_nat, List.getD_eq_getElem?_getD, List.getElem?_eq_getElem (by omega : j < ps.length)]; exact List.getElem_mem _)
    refine Ev.step (fun _ => parallaxlaw11_ChunkTells.l2.eq_2 ..) (Ev.pos (by omega) (Ev.pos (by omega) (Ev.pos (by omega) ?_)))
    rw [hm, wrap_nat (by omega)]
    exact Ev.bind (size_ev z (by omega) m (by omega) u0 u1 u2 body ext u5 u6 u7 u8 u9 hb) (Ev.bind (rsize_ev z (by omega) m (by omega) u0 u1 u2 body ext u5 u6 u7 u8 u9 hb) (Ev.pos rfl (Ev.pos rfl (ih (j + 1) (by omega)))))
theorem mid_loop (x11 : Int) (h11 : IsProfile x11) (u0 u1 u2 body ext u5 u6 u7 : Int) (u8 u9 : Bool) (hb : body ≤ 9223372036854775807) (l : List ByteArray) (hl : ∀ x ∈ l, Good x) (hlen : l.length < 1000) (d : Nat) : ∀ i : Nat, i + d = l.length →
    Ev (fun k => parallaxlaw11_ChunkTells.l1 k x11 l (l.length : Int) (i : Int) u0 u1 u2 body ext u5 u6 u7 u8 u9) true := by
  induction d with
  | zero =>
    intro i hi
    exact Ev.step (fun _ => parallaxlaw11_ChunkTells.l1.eq_2 ..) (Ev.neg (by omega) (Ev.now _))
  | succ d ih =>
    intro i hi
    refine Ev.step (fun _ => parallaxlaw11_ChunkTells.l1.eq_2 ..) (Ev.pos (by omega) (Ev.pos (by omega) (Ev.pos (by omega) ?_)))
    refine Ev.bind (rof_ev [27, 28] (by decide)) (Ev.bind (rof_ev [28] (by decide)) (Ev.val rfl ?_))
    refine in_loop _ (hl _ (rdOf_mem l i (by omega))) x11 l _ i (by omega) _ ?_ (by simp) u0 u1 u2 body ext u5 u6 u7 u8 u9 hb true (ih (i + 1) (by omega)) 4 0 rfl
    intro p hp
    simp only [List.mem_cons, List.not_mem_nil, or_false] at hp
    rcases hp with rfl | rfl | rfl | rfl
    · exact ⟨0, rfl, by decide⟩
    · exact h11
    · exact ⟨_, rfl, profB_lt _ 0 (by decide)⟩
    · exact ⟨_, rfl, profB_lt _ 0 (by decide)⟩
theorem wrap_le (z : Int) : wrap64 z ≤ 9223372036854775807 := by unfold wrap64; omega
theorem hex_size (a : Int) : (Hex.hexB (mx a 0).toNat).size ≤ 17 := hexB_size _
theorem out_loop (a0 : ByteArray) (h0 : Good a0) (l1 : List Int) (hl1 : l1.length ≤ 12) (hw : ∀ x ∈ l1, 0 ≤ x ∧ x < 256) (n : Nat) (x11 : Int) (h11 : IsProfile x11) (u0 u1 u2 body ext u5 u6 u7 : Int) (u8 u9 : Bool) (hb : body ≤ 9223372036854775807) (d : Nat) : ∀ (i : Nat) (s : ByteArray), i + d = n % 64 → s.size + d ≤ 100 →
    Ev (fun k => parallaxlaw11_ChunkTells.l0 k a0 l1 (n : Int) x11 s (i : Int) u0 u1 u2 body ext u5 u6 u7 u8 u9) true := by
  have hmod : n % 64 < 64 := Nat.mod_lt _ (by decide)
  have e : wrap64 (Int.tmod (n : Int) 64) = ((n % 64 : Nat) : Int) := by
    rw [Int.tmod_eq_emod_of_nonneg (by omega)]; exact wrap_in (by omega) (by omega)
  induction d with
  | zero =>
    intro i s hi hs
    have hsz := some_size l1
    refine Ev.step (fun _ => parallaxlaw11_ChunkTells.l0.eq_2 ..) ?_
    rw [e]
    refine Ev.neg (by omega) (Ev.bind (some_ev l1 (by omega) hw) (Ev.bind (rPutHex_ev _ (wrap_le _)) (Ev.bind (rPutHex_ev _ (wrap_le _)) (Ev.val rfl ?_))))
    refine mid_loop x11 h11 u0 u1 u2 body ext u5 u6 u7 u8 u9 hb _ ?_ (by simp) 5 0 rfl
    intro x hx
    unfold Good at h0 ⊢
    simp only [List.mem_cons, List.not_mem_nil, or_false] at hx
    rcases hx with rfl | rfl | rfl | rfl | rfl
    · exact h0
    · omega
    · have := hex_size (wrap64 (n : Int)); omega
    · omega
    · have := hex_size (wrap64 (wrap64 (body + wrap64 (Int.tmod (n : Int) 3)) - 1)); omega
  | succ d ih =>
    intro i s hi hs
    refine Ev.step (fun _ => parallaxlaw11_ChunkTells.l0.eq_2 ..) ?_
    rw [e]
    refine Ev.pos (by omega) (Ev.pos (by omega) ?_)
    rw [wrap_nat (by omega)]
    exact ih (i + 1) _ (by omega) (by rw [ByteArray.size_append]; show s.size + 1 + d ≤ 100; omega)

theorem ChunkTells : parallaxlaw11_ChunkTells.Pure := by
  intro a0 l1 a2 a3 a4 h0 h1 h1b hw1 h2 h3 h4
  refine Ev.rounds (g := fun k => parallaxlaw11_ChunkTells.f k a0 l1 a2 a3 a4) ?_
  unfold parallaxlaw11_ChunkTells.f
  have hi2 := u32_wf h2
  have hi3 := u8_wf h3
  have hi4 : 0 ≤ a4 ∧ a4 < 65536 := by
    have e1 : IntKind.u16.min = 0 := by decide
    have e2 : IntKind.u16.max = 65535 := by decide
    simp only [Lit.wf, e1, e2, Bool.and_eq_true, decide_eq_true_eq] at h4
    omega
  obtain ⟨n, rfl⟩ : ∃ n : Nat, a4 = (n : Int) := ⟨a4.toNat, by omega⟩
  obtain ⟨a, rfl⟩ : ∃ n : Nat, a2 = (n : Int) := ⟨a2.toNat, by omega⟩
  obtain ⟨b, rfl⟩ : ∃ n : Nat, a3 = (n : Int) := ⟨a3.toNat, by omega⟩
  refine Ev.bind known_ev (Ev.pos rfl ?_)
  by_cases c0 : (a0.size : Int) > 80
  · exact Ev.pos c0 (Ev.now _)
  refine Ev.neg c0 ?_
  by_cases c1 : (l1.length : Int) > 12
  · exact Ev.pos c1 (Ev.now _)
  refine Ev.neg c1 ?_
  obtain ⟨p, hp, hP⟩ := profile_ev a b (by omega)
  obtain ⟨bd, hok, hB⟩ := bounds_ev hi3.1 hi3.2
  unfold boundsOk at hok
  have hok := of_decide_eq_true hok
  refine Ev.bind hP (Ev.bind hB ?_)
  exact out_loop a0 (by unfold Good; omega) l1 (by omega) (fun x hx => u8_wf (hw1 x hx)) n _ ⟨p, rfl, hp⟩ _ _ _ _ _ _ _ _ _ _ (by omega) (n % 64) 0 _ (by omega) (by have := Nat.mod_lt n (show 0 < 64 by decide); show 2 + n % 64 ≤ 100; omega)

end Go.Proofs.YtihcmknbdjmcdaaDoor.Pure
