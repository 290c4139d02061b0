/- It is proved that ChunkClauses answers true at every input: a size's clauses take what no profile without them takes. -/
import Derived.Test.YtihcmknbdjmcdaaDoorPChunkClausesx5
import Derived.Test.YtihcmknbdjmcdaaDoorTxtChunkClauses
namespace Go.Proofs.YtihcmknbdjmcdaaDoor.Pure
open Go.RowKit Go.Proofs.YtihcmknbdjmcdaaDoor.PChunkClauses Go.Proofs.YtihcmknbdjmcdaaDoorW.PrintWords Go.Proofs.YtihcmknbdjmcdaaDoorW.PrintLast Go.Proofs.YtihcmknbdjmcdaaDoorW.PrintMore Go.Proofs.YtihcmknbdjmcdaaDoor.Aid Go.Proofs.YtihcmknbdjmcdaaDoor.Parts

/-- what stands behind a size: nothing, or an extension -/
def tailB (x : Bool) : ByteArray := if x = true then (⟨#[59, 97, 61, 98]⟩ : ByteArray) else BA []
theorem cut_tail (a : ByteArray) (h : ∀ x ∈ bytesOf a, x ≠ 59) (x : Bool) : beforeB 59 (a ++ tailB x) = a ∧ ((restB 59 (a ++ tailB x)).size : Int) ≤ 32 ∧ allB (restB 59 (a ++ tailB x)) [6] = true := by
  cases x with
  | true =>
    have e : a ++ tailB true = a ++ BA [59] ++ BA [97, 61, 98] := by
      apply ba_inj; rw [data_app, data_app, data_app, data_BA, data_BA, List.append_assoc]; rfl
    obtain ⟨c1, c2⟩ := cut_app 59 a (BA [97, 61, 98]) h
    rw [e, c1, c2]
    exact ⟨rfl, by decide +kernel, by decide +kernel⟩
  | false =>
    have e : a ++ tailB false = a := by
      apply ba_inj; rw [data_app]; unfold tailB; simp [data_BA]
    obtain ⟨c1, c2⟩ := cut_none 59 a h
    rw [e, c1, c2]
    exact ⟨rfl, by decide +kernel, by decide +kernel⟩
theorem bytes_app (s t : ByteArray) : bytesOf (s ++ t) = bytesOf s ++ bytesOf t := by
  unfold bytesOf; rw [show (s ++ t).data.toList = s.data.toList ++ t.data.toList by simp [ByteArray.data_append], List.map_append]
theorem blank_is : ∀ n : Fin 256, Trim.blankB (n.val : Int) = true → (n.val : Int) = 32 ∨ (n.val : Int) = 9 := by decide +kernel
/-- a text without blanks stays -/
theorem trim_none (s : ByteArray) (h : ∀ x ∈ bytesOf s, x ≠ 32 ∧ x ≠ 9) : Trim.trimB Trim.blankB s = s := by
  rw [TrimP.trimB_eq, TrimP.trimU_none, BA_data]
  intro b hb
  rw [Bool.eq_false_iff]; intro e
  have hb2 : (b.toNat : Int) ∈ bytesOf s := List.mem_map.mpr ⟨b, hb, rfl⟩
  have := blank_is ⟨b.toNat, b.toNat_lt⟩ e
  have h2 := h _ hb2
  rcases this with e | e
  · exact h2.1 e
  · exact h2.2 e
theorem read_bad (s : ByteArray) (b most kind c : Int) (hc : c ∈ bytesOf s) (h : ofB c kind = false) : readB s b most kind = (0, 22) := by
  unfold readB
  have : allB s [kind] = false := by
    unfold allB; rw [Bool.eq_false_iff]; intro e
    have := List.all_eq_true.mp e c hc
    simp [h] at this
  rw [if_pos (.inr this)]
theorem size_of_parts (a : ByteArray) (h : ∀ x ∈ bytesOf a, x ≠ 59) (x : Bool) (p : Nat) (s1 s2 : ByteArray) (h1 : (if hasB p 28 = true then Trim.trimB Trim.blankB a else a) = s1) (h2 : (if (hasB p 27 && (prefB s1 (⟨#[48, 120]⟩ : ByteArray) || prefB s1 (⟨#[48, 88]⟩ : ByteArray))) = true then s1.extract 2 s1.size else s1) = s2) :
    sizeB (a ++ tailB x) p 65536 32 = (let r := readB s2 16 65536 5; if r.2 = 23 then (0, 413) else if r.2 = 22 then (0, 400) else (r.1, 0)) := by
  obtain ⟨c1, c2, c3⟩ := cut_tail a h x
  unfold sizeB
  rw [c1, c3, if_neg (by rintro (z | z); omega; cases z)]
  simp only [h1, h2]
theorem x_dec : ofB 120 5 = false ∧ ofB 88 5 = false ∧ ofB 32 5 = false := by decide +kernel
theorem hex_pre (n : Nat) (hn : n < 65536) (x y : UInt8) (hx : (x = 48 ∧ y = 120) ∨ (x = 48 ∧ y = 88)) (p q : Nat) (hp : hasB p 27 = false) (hq : hasB q 27 = true) (t : Bool) :
    sizeB ((⟨#[x, y]⟩ : ByteArray) ++ Hex.hexB n ++ tailB t) p 65536 32 = (0, 400) ∧ sizeB ((⟨#[x, y]⟩ : ByteArray) ++ Hex.hexB n ++ tailB t) q 65536 32 = ((n : Int), 0) := by
  have hh := hexB_not n (by omega)
  have hb : bytesOf ((⟨#[x, y]⟩ : ByteArray) ++ Hex.hexB n) = (x.toNat : Int) :: (y.toNat : Int) :: bytesOf (Hex.hexB n) := by rw [bytes_app]; rfl
  have hmem : ∀ z ∈ bytesOf ((⟨#[x, y]⟩ : ByteArray) ++ Hex.hexB n), z ≠ 59 ∧ z ≠ 32 ∧ z ≠ 9 := by
    intro z hz
    rw [hb] at hz
    rcases List.mem_cons.mp hz with e | hz
    · rcases hx with ⟨rfl, _⟩ | ⟨rfl, _⟩ <;> (rw [e]; decide)
    · rcases List.mem_cons.mp hz with e | hz
      · rcases hx with ⟨_, rfl⟩ | ⟨_, rfl⟩ <;> (rw [e]; decide)
      · exact ⟨(hh z hz).1, (hh z hz).2.2.2.1, (hh z hz).2.2.2.2⟩
  have ht := trim_none _ (fun z hz => (hmem z hz).2)
  have h1 : ∀ r : Nat, (if hasB r 28 = true then Trim.trimB Trim.blankB ((⟨#[x, y]⟩ : ByteArray) ++ Hex.hexB n) else ((⟨#[x, y]⟩ : ByteArray) ++ Hex.hexB n)) = ((⟨#[x, y]⟩ : ByteArray) ++ Hex.hexB n) := by
    intro r; rw [ht]; split <;> rfl
  have hpre : prefB ((⟨#[x, y]⟩ : ByteArray) ++ Hex.hexB n) (⟨#[x, y]⟩ : ByteArray) = true := by
    unfold prefB
    rw [ByteArray.toList_eq, ByteArray.toList_eq, ext_data, data_app, List.drop_zero, beq_iff_eq]
    exact List.take_left' rfl
  constructor
  · rw [size_of_parts _ (fun z hz => (hmem z hz).1) t p _ ((⟨#[x, y]⟩ : ByteArray) ++ Hex.hexB n) (h1 p) (by rw [hp, Bool.false_and]; exact if_neg (by simp))]
    have hy : ofB (y.toNat : Int) 5 = false := by
      rcases hx with ⟨_, rfl⟩ | ⟨_, rfl⟩
      · exact x_dec.1
      · exact x_dec.2.1
    rw [read_bad _ 16 65536 5 (y.toNat : Int) (by rw [hb]; simp) hy]; rfl
  · have hor : (hasB q 27 && (prefB ((⟨#[x, y]⟩ : ByteArray) ++ Hex.hexB n) (⟨#[48, 120]⟩ : ByteArray) || prefB ((⟨#[x, y]⟩ : ByteArray) ++ Hex.hexB n) (⟨#[48, 88]⟩ : ByteArray))) = true := by
      rw [hq, Bool.true_and]
      rcases hx with ⟨rfl, rfl⟩ | ⟨rfl, rfl⟩
      · rw [hpre, Bool.true_or]
      · rw [hpre, Bool.or_true]
    rw [size_of_parts _ (fun z hz => (hmem z hz).1) t q _ _ (h1 q) (if_pos hor)]
    have he : ((⟨#[x, y]⟩ : ByteArray) ++ Hex.hexB n).extract 2 ((⟨#[x, y]⟩ : ByteArray) ++ Hex.hexB n).size = Hex.hexB n := by
      apply ba_inj
      rw [ext_data, data_app, ByteArray.size_append]
      show ((([x, y] : List UInt8) ++ (Hex.hexB n).data.toList).drop 2).take (2 + (Hex.hexB n).size - 2) = _
      rw [show (([x, y] : List UInt8) ++ (Hex.hexB n).data.toList).drop 2 = (Hex.hexB n).data.toList from rfl, List.take_of_length_le (by rw [data_length]; omega)]
    rw [he, hexB_read n hn]; rfl
/-- blanks: of a text -/
def Blanks (s : ByteArray) : Prop := ∀ z ∈ bytesOf s, z = 32 ∨ z = 9
theorem blank_hex (n : Nat) (hn : n < 65536) (a b : ByteArray) (ha : Blanks a) (hb : Blanks b) (h32 : (32 : Int) ∈ bytesOf b) (p q : Nat) (hp : hasB p 28 = false) (hq : hasB q 28 = true) (t : Bool) :
    sizeB (a ++ Hex.hexB n ++ b ++ tailB t) p 65536 32 = (0, 400) ∧ sizeB (a ++ Hex.hexB n ++ b ++ tailB t) q 65536 32 = ((n : Int), 0) := by
  have hh := hexB_not n (by omega)
  have hb0 : bytesOf (a ++ Hex.hexB n ++ b) = bytesOf a ++ bytesOf (Hex.hexB n) ++ bytesOf b := by rw [bytes_app, bytes_app]
  have hmem : ∀ z ∈ bytesOf (a ++ Hex.hexB n ++ b), z ≠ 59 ∧ z ≠ 120 ∧ z ≠ 88 := by
    intro z hz
    rw [hb0] at hz
    rcases List.mem_append.mp hz with hz | hz
    · rcases List.mem_append.mp hz with hz | hz
      · rcases ha z hz with e | e <;> (rw [e]; decide)
      · exact ⟨(hh z hz).1, (hh z hz).2.1, (hh z hz).2.2.1⟩
    · rcases hb z hz with e | e <;> (rw [e]; decide)
  have asU_of : ∀ c : UInt8, ((c.toNat : Int) = 32 ∨ (c.toNat : Int) = 9) → TrimP.asU Trim.blankB c = true := by
    intro c h
    unfold TrimP.asU
    rcases h with e | e <;> (rw [e]; decide)
  have hn1 : ∀ s : ByteArray, (∀ z ∈ bytesOf s, z ≠ 120 ∧ z ≠ 88) → ∀ r : Bool, (if (r && (prefB s (⟨#[48, 120]⟩ : ByteArray) || prefB s (⟨#[48, 88]⟩ : ByteArray))) = true then s.extract 2 s.size else s) = s := by
    intro s hs r
    have e1 : prefB s (⟨#[48, 120]⟩ : ByteArray) = false := pref_not (fun z hz => (hs z hz).1)
    have e2 : prefB s (⟨#[48, 88]⟩ : ByteArray) = false := pref_not (fun z hz => (hs z hz).2)
    rw [e1, e2, Bool.or_false, Bool.and_false]; exact if_neg (by simp)
  constructor
  · rw [size_of_parts _ (fun z hz => (hmem z hz).1) t p (a ++ Hex.hexB n ++ b) _ (if_neg (by simp [hp])) (hn1 _ (fun z hz => (hmem z hz).2) _)]
    rw [read_bad _ 16 65536 5 32 (by rw [hb0]; exact List.mem_append.mpr (.inr h32)) x_dec.2.2]; rfl
  · have ht : Trim.trimB Trim.blankB (a ++ Hex.hexB n ++ b) = Hex.hexB n := by
      rw [TrimP.trimB_eq, data_app, data_app, TrimP.trimU_blanks, BA_data]
      · intro c hc; exact asU_of c (ha _ (List.mem_map.mpr ⟨c, hc, rfl⟩))
      · intro c hc
        rw [Bool.eq_false_iff]; intro e
        have h2 := hh _ (List.mem_map.mpr ⟨c, hc, rfl⟩)
        rcases blank_is ⟨c.toNat, c.toNat_lt⟩ e with e | e
        · exact h2.2.2.2.1 e
        · exact h2.2.2.2.2 e
      · intro c hc; exact asU_of c (hb _ (List.mem_map.mpr ⟨c, hc, rfl⟩))
    rw [size_of_parts _ (fun z hz => (hmem z hz).1) t q (Hex.hexB n) _ (by rw [if_pos hq, ht]) (hn1 _ (fun z hz => ⟨(hh z hz).2.1, (hh z hz).2.2.1⟩) _)]
    rw [hexB_read n hn]; rfl

/-- behind the text -/
theorem j1_ev (n a c : Nat) (ha : a < 4294967296) (hc : c < 30) (s : ByteArray) (hs : s.size < 1000) (H : ∀ p q : Nat, hasB p (c : Int) = false → hasB q (c : Int) = true → sizeB s p 65536 32 = (0, 400) ∧ sizeB s q 65536 32 = ((n : Int), 0)) (hn : n < 65536) :
    Ev (fun k => parallaxlaw11_ChunkClauses.j1 k (n : Int) (a : Int) (c : Int) s 1024 32 8192 65536 32 8 4 20 true true) true := by
  obtain ⟨r, hr, e1, e2, hr2, b1, b2, _⟩ := clause_off a c ha hc
  obtain ⟨s1, s2⟩ := H r (r ||| 2 ^ c) b1 b2
  have hw : wrap64 (n : Int) = (n : Int) := wrap_in (by omega) (by omega)
  refine Ev.step (fun _ => parallaxlaw11_ChunkClauses.j1.eq_2 ..) (Ev.pos (by omega) ?_)
  rw [e1, e2, hw]
  refine Ev.bind ((size_ev s (by omega) r (by omega) 1024 32 8192 65536 32 8 4 20 true true (by omega)).to s1) (Ev.bind ((size_ev s (by omega) (r ||| 2 ^ c) (by omega) 1024 32 8192 65536 32 8 4 20 true true (by omega)).to s2) (Ev.pos rfl (Ev.pos rfl ?_)))
  exact Ev.step (fun _ => parallaxlaw11_ChunkClauses.j2.eq_2 ..) ((Ev.now _).to (beq_self_eq_true _))
theorem j0_ev (n a c : Nat) (ha : a < 4294967296) (hc : c < 30) (x : Bool) (s : ByteArray) (hs : s.size < 900) (H : ∀ p q : Nat, hasB p (c : Int) = false → hasB q (c : Int) = true → sizeB (s ++ tailB x) p 65536 32 = (0, 400) ∧ sizeB (s ++ tailB x) q 65536 32 = ((n : Int), 0)) (hn : n < 65536) :
    Ev (fun k => parallaxlaw11_ChunkClauses.j0 k (n : Int) (a : Int) x (c : Int) s 1024 32 8192 65536 32 8 4 20 true true) true := by
  refine Ev.step (fun _ => parallaxlaw11_ChunkClauses.j0.eq_2 ..) ?_
  cases x with
  | true => exact Ev.pos rfl (Ev.pos (by omega) (j1_ev n a c ha hc _ (by rw [ByteArray.size_append]; show s.size + 4 < 1000; omega) H hn))
  | false =>
    have e : s ++ tailB false = s := by apply ba_inj; rw [data_app]; unfold tailB; simp [data_BA]
    rw [e] at H
    exact Ev.neg (by simp) (j1_ev n a c ha hc s (by omega) H hn)
theorem blanks_all : (∀ j : Fin 3, ((([(⟨#[32]⟩ : ByteArray), (⟨#[]⟩ : ByteArray), (⟨#[9]⟩ : ByteArray)] : List ByteArray).getD j.val ByteArray.empty).size ≤ 2 ∧ ∀ z ∈ bytesOf (([(⟨#[32]⟩ : ByteArray), (⟨#[]⟩ : ByteArray), (⟨#[9]⟩ : ByteArray)] : List ByteArray).getD j.val ByteArray.empty), z = 32 ∨ z = 9)) ∧ ∀ j : Fin 2, ((([(⟨#[32]⟩ : ByteArray), (⟨#[9, 32]⟩ : ByteArray)] : List ByteArray).getD j.val ByteArray.empty).size ≤ 2 ∧ (∀ z ∈ bytesOf (([(⟨#[32]⟩ : ByteArray), (⟨#[9, 32]⟩ : ByteArray)] : List ByteArray).getD j.val ByteArray.empty), z = 32 ∨ z = 9) ∧ (32 : Int) ∈ bytesOf (([(⟨#[32]⟩ : ByteArray), (⟨#[9, 32]⟩ : ByteArray)] : List ByteArray).getD j.val ByteArray.empty)) := by decide +kernel
theorem pres_all : ∀ j : Fin 2, ([(⟨#[48, 120]⟩ : ByteArray), (⟨#[48, 88]⟩ : ByteArray)] : List ByteArray).getD j.val ByteArray.empty = (⟨#[48, 120]⟩ : ByteArray) ∨ ([(⟨#[48, 120]⟩ : ByteArray), (⟨#[48, 88]⟩ : ByteArray)] : List ByteArray).getD j.val ByteArray.empty = (⟨#[48, 88]⟩ : ByteArray) := by decide +kernel
theorem ChunkClauses : parallaxlaw11_ChunkClauses.Pure := by
  intro a0 a1 a2 a3 a4 h0 h1 h3
  refine Ev.rounds (g := fun k => parallaxlaw11_ChunkClauses.f k a0 a1 a2 a3 a4) ?_
  unfold parallaxlaw11_ChunkClauses.f
  have hi1 := u32_wf h1
  have hi3 := u8_wf h3
  have hi0 : 0 ≤ a0 ∧ a0 < 65536 := by
    have e1 : IntKind.u16.min = 0 := by decide
    have e2 : IntKind.u16.max = 65535 := by decide
    simp only [Lit.wf, e1, e2, Bool.and_eq_true, decide_eq_true_eq] at h0
    omega
  obtain ⟨n, rfl⟩ : ∃ n : Nat, a0 = (n : Int) := ⟨a0.toNat, by omega⟩
  obtain ⟨a, rfl⟩ : ∃ n : Nat, a1 = (n : Int) := ⟨a1.toNat, by omega⟩
  obtain ⟨b, rfl⟩ : ∃ n : Nat, a3 = (n : Int) := ⟨a3.toNat, by omega⟩
  have hx := hexB_size n
  have hmx : mx (n : Int) 0 = (n : Int) := by unfold mx; rw [if_neg (by omega)]
  have hw0 : wrap64 (n : Int) = (n : Int) := wrap_in (by omega) (by omega)
  have hP := rPutHex_ev (n : Int) (by omega)
  rw [hmx, Int.toNat_natCast] at hP
  have m2 : Int.tmod (b : Int) 2 = ((b % 2 : Nat) : Int) := by rw [Int.tmod_eq_emod_of_nonneg (by omega)]; omega
  have m3 : Int.tmod (b : Int) 3 = ((b % 3 : Nat) : Int) := by rw [Int.tmod_eq_emod_of_nonneg (by omega)]; omega
  have l2 : b % 2 < 2 := Nat.mod_lt _ (by decide)
  have l3 : b % 3 < 3 := Nat.mod_lt _ (by decide)
  have P2 := pres_all ⟨b % 2, l2⟩
  have B3 := blanks_all.1 ⟨b % 3, l3⟩
  have B2 := blanks_all.2 ⟨b % 2, l2⟩
  simp only at P2 B3 B2
  rw [m2, m3, hw0]
  refine Ev.bind known_ev (Ev.pos rfl (Ev.val rfl (Ev.val rfl (Ev.pos (by omega) (Ev.pos (by simp only [List.length_cons, List.length_nil]; omega) (Ev.bind hP ?_))))))
  have hrd : ∀ (l : List ByteArray) (j : Nat), rdOf ByteArray.empty l (j : Int) = l.getD j ByteArray.empty := fun l j => rfl
  simp only [hrd]
  have hz2 : (([(⟨#[48, 120]⟩ : ByteArray), (⟨#[48, 88]⟩ : ByteArray)] : List ByteArray).getD (b % 2) ByteArray.empty).size = 2 := by rcases P2 with e | e <;> (rw [e]; rfl)
  refine Ev.pos (by omega) ?_
  cases a2 with
  | false =>
    refine Ev.neg (by simp) (j0_ev n a 27 (by omega) (by decide) a4 _ (by rw [ByteArray.size_append]; omega) ?_ (by omega))
    intro p q hp hq
    rcases P2 with e | e
    · rw [e]; exact hex_pre n (by omega) 48 120 (.inl ⟨rfl, rfl⟩) p q hp hq a4
    · rw [e]; exact hex_pre n (by omega) 48 88 (.inr ⟨rfl, rfl⟩) p q hp hq a4
  | true =>
    refine Ev.pos rfl (Ev.val rfl (Ev.pos (by omega) (Ev.pos (by simp only [List.length_cons, List.length_nil]; omega) (Ev.bind hP ?_))))
    generalize ([(⟨#[32]⟩ : ByteArray), (⟨#[]⟩ : ByteArray), (⟨#[9]⟩ : ByteArray)] : List ByteArray).getD (b % 3) ByteArray.empty = u at B3 ⊢
    refine Ev.pos (by omega) (Ev.val rfl (Ev.pos (by simp only [List.length_cons, List.length_nil]; omega) ?_))
    generalize ([(⟨#[32]⟩ : ByteArray), (⟨#[9, 32]⟩ : ByteArray)] : List ByteArray).getD (b % 2) ByteArray.empty = v at B2 ⊢
    have z1 : (u ++ Hex.hexB n).size = u.size + (Hex.hexB n).size := ByteArray.size_append
    refine Ev.pos (by omega) (j0_ev n a 28 (by omega) (by decide) a4 _ (by rw [ByteArray.size_append]; omega) ?_ (by omega))
    intro p q hp hq
    exact blank_hex n (by omega) u v B3.2 B2.2.1 B2.2.2 p q hp hq a4

end Go.Proofs.YtihcmknbdjmcdaaDoor.Pure
