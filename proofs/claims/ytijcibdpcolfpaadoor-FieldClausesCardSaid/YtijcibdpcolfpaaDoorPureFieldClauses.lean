/- It is proved that FieldClauses answers true at every input: each clause of a field's line takes what no other profile takes. -/
import Derived.Test.YtijcibdpcolfpaaDoorPFieldClausesx4
import Derived.Test.YtijcibdpcolfpaaDoorTxtFieldClauses
namespace Go.Proofs.YtijcibdpcolfpaaDoor.Pure
open Go.RowKit Go.Proofs.YtijcibdpcolfpaaDoor.PFieldClauses Go.Proofs.YtijcibdpcolfpaaDoorW.PrintWords Go.Proofs.YtijcibdpcolfpaaDoorW.PrintLast Go.Proofs.YtijcibdpcolfpaaDoorW.PrintMore Go.Proofs.YtijcibdpcolfpaaDoor.Aid Go.Proofs.YtijcibdpcolfpaaDoor.Parts

def s0 : ByteArray := ⟨#[65, 32, 9, 58, 32, 98]⟩
def s1 : ByteArray := ⟨#[40, 65, 58, 32, 98]⟩
def s2 : ByteArray := ⟨#[65, 32, 98]⟩
def s3 : ByteArray := ⟨#[58, 32, 98]⟩
def s4 : ByteArray := ⟨#[65, 58, 32, 98, 1]⟩
theorem c0 : ∀ nc nn vb : Bool, parseG s0 false false nc nn vb = ((⟨#[]⟩ : ByteArray), (⟨#[]⟩ : ByteArray), false, 400) ∧ parseG s0 true false nc nn vb = ((⟨#[65]⟩ : ByteArray), (⟨#[98]⟩ : ByteArray), true, 0) := by decide +kernel
theorem c1 : ∀ cs nc nn vb : Bool, parseG s1 cs false nc nn vb = ((⟨#[]⟩ : ByteArray), (⟨#[]⟩ : ByteArray), false, 400) ∧ parseG s1 cs true nc nn vb = ((⟨#[40, 65]⟩ : ByteArray), (⟨#[98]⟩ : ByteArray), true, 0) := by decide +kernel
theorem c2 : ∀ cs nb nn vb : Bool, parseG s2 cs nb false nn vb = ((⟨#[]⟩ : ByteArray), (⟨#[]⟩ : ByteArray), false, 400) ∧ parseG s2 cs nb true nn vb = ((⟨#[]⟩ : ByteArray), (⟨#[]⟩ : ByteArray), false, 0) := by decide +kernel
theorem c3 : ∀ cs nb nc vb : Bool, parseG s3 cs nb nc false vb = ((⟨#[]⟩ : ByteArray), (⟨#[]⟩ : ByteArray), false, 400) ∧ parseG s3 cs nb nc true vb = ((⟨#[]⟩ : ByteArray), (⟨#[]⟩ : ByteArray), false, 0) := by decide +kernel
theorem c4 : ∀ cs nb nc nn : Bool, parseG s4 cs nb nc nn false = ((⟨#[]⟩ : ByteArray), (⟨#[]⟩ : ByteArray), false, 400) ∧ parseG s4 cs nb nc nn true = ((⟨#[65]⟩ : ByteArray), (⟨#[98, 1]⟩ : ByteArray), true, 0) := by decide +kernel
theorem off_nine (a : Nat) (ha : a < 4294967296) : ∃ r : Nat, r < 1073741824 ∧ Go.bits .andNot .u32 (Go.bits .andNot .u32 (Go.bits .and .u32 (a : Int) 1073741823) (shl .u32 1 (9 : Int))) 1024 = (r : Int) ∧ Go.bits .or .u32 (r : Int) (shl .u32 1 (9 : Int)) = ((r ||| 512 : Nat) : Int) ∧ r ||| 512 < 1073741824 ∧ hasB r 9 = false ∧ hasB r 10 = false ∧ hasB (r ||| 512) 9 = true ∧ hasB (r ||| 512) 10 = false := by
  obtain ⟨r, h1, h2, h3, h4, h5, h6, h7⟩ := clause_off a 9 ha (by decide)
  obtain ⟨q, g1, g2, g3⟩ := bits_andnot32 r 1024 (by omega) (by decide)
  have e9 : ((9 : Nat) : Int) = 9 := rfl
  rw [e9] at h2 h3 h5 h6
  have hs : shl .u32 1 (9 : Int) = ((512 : Nat) : Int) := by decide +kernel
  have hor : q ||| 512 < 1073741824 := Nat.or_lt_two_pow (n := 30) (show q < 2 ^ 30 by omega) (by decide)
  have q9 : q.testBit 9 = false := by
    rw [g3 9 (by decide)]
    have := hasB_nat r 9 (by decide)
    rw [e9, h5] at this
    rw [← this]; rfl
  have q10 : q.testBit 10 = false := by rw [g3 10 (by decide)]; simp [show Nat.testBit 1024 10 = true by decide]
  have n9 := hasB_nat q 9 (by decide)
  have n10 := hasB_nat q 10 (by decide)
  have m9 := hasB_nat (q ||| 512) 9 (by decide)
  have m10 := hasB_nat (q ||| 512) 10 (by decide)
  refine ⟨q, by omega, ?_, ?_, hor, n9.trans q9, n10.trans q10, m9.trans ?_, m10.trans ?_⟩
  · rw [h2]; exact g1
  · rw [hs]; exact bits_or32 q 512 (by omega) (by decide)
  · exact bit_or_set q 9
  · rw [show (512 : Nat) = 2 ^ 9 from rfl, bit_or_other q 9 10 (by decide)]; exact q10
theorem FieldClauses : parallaxlaw9_FieldClauses.Pure := by
  intro a0 a1 h0 h1
  refine Ev.rounds (g := fun k => parallaxlaw9_FieldClauses.f k a0 a1) ?_
  obtain ⟨n, rfl⟩ : ∃ n : Nat, a0 = (n : Int) := ⟨a0.toNat, by have := u8_wf h0; omega⟩
  obtain ⟨a, rfl⟩ : ∃ n : Nat, a1 = (n : Int) := ⟨a1.toNat, by have := u32_wf h1; omega⟩
  have ha : a < 4294967296 := by have := u32_wf h1; omega
  have ht : Int.tmod (n : Int) 5 = ((n % 5 : Nat) : Int) := by rw [Int.tmod_eq_emod_of_nonneg (by omega)]; omega
  unfold parallaxlaw9_FieldClauses.f
  rw [ht]
  refine Ev.bind known_ev (Ev.pos rfl (Ev.val rfl (Ev.pos (by omega) (Ev.pos (by simp; omega) (Ev.val rfl (Ev.pos (by simp; omega) ?_))))))
  have hn : n % 5 = 0 ∨ n % 5 = 1 ∨ n % 5 = 2 ∨ n % 5 = 3 ∨ n % 5 = 4 := by omega
  rcases hn with h | h | h | h | h <;> rw [h]
  · refine Ev.pos (by decide) (Ev.pos rfl ?_)
    obtain ⟨r, r1, r2, r3, r4, r5, r6, r7, r8⟩ := off_nine a ha
    have e1 := fparse_ev s0 (by decide) r (by omega)
    have e2 := fparse_ev s0 (by decide) (r ||| 512) (by omega)
    rw [r5, r6, (c0 _ _ _).1] at e1
    rw [r7, r8, (c0 _ _ _).2] at e2
    rw [← r2] at e1
    rw [← r3, ← r2] at e2
    exact Ev.bind e1 (Ev.bind e2 (Ev.neg (by simp) (Ev.pos rfl (Ev.pos rfl (Ev.neg (by decide) (Ev.neg (by decide) (Ev.neg (by decide) (Ev.neg (by decide) (Ev.pos rfl (Ev.pos (by decide +kernel) ((Ev.now _).to (by decide +kernel))))))))))))
  · refine Ev.pos (by decide) (Ev.neg (by decide) ?_)
    obtain ⟨r, r1, r2, r3, r4, r5, r6, _⟩ := clause_off a 10 ha (by decide)
    have e1 := fparse_ev s1 (by decide) r (by omega)
    have e2 := fparse_ev s1 (by decide) (r ||| 2 ^ 10) (by omega)
    rw [show hasB r 10 = false from r5, (c1 _ _ _ _).1, ← r2] at e1
    rw [show hasB (r ||| 2 ^ 10) 10 = true from r6, (c1 _ _ _ _).2, ← r3, ← r2] at e2
    exact Ev.bind e1 (Ev.bind e2 (Ev.neg (by simp) (Ev.pos rfl (Ev.pos rfl (Ev.neg (by decide) (Ev.neg (by decide) (Ev.pos (by decide) (Ev.pos rfl (Ev.pos (by decide +kernel) ((Ev.now _).to (by decide +kernel)))))))))))
  · refine Ev.pos (by decide) (Ev.neg (by decide) ?_)
    obtain ⟨r, r1, r2, r3, r4, r5, r6, _⟩ := clause_off a 11 ha (by decide)
    have e1 := fparse_ev s2 (by decide) r (by omega)
    have e2 := fparse_ev s2 (by decide) (r ||| 2 ^ 11) (by omega)
    rw [show hasB r 11 = false from r5, (c2 _ _ _ _).1, ← r2] at e1
    rw [show hasB (r ||| 2 ^ 11) 11 = true from r6, (c2 _ _ _ _).2, ← r3, ← r2] at e2
    exact Ev.bind e1 (Ev.bind e2 (Ev.neg (by simp) (Ev.pos rfl (Ev.pos rfl (Ev.pos (by decide) (Ev.neg (by simp) ((Ev.now _).to (by decide +kernel))))))))
  · refine Ev.pos (by decide) (Ev.neg (by decide) ?_)
    obtain ⟨r, r1, r2, r3, r4, r5, r6, _⟩ := clause_off a 12 ha (by decide)
    have e1 := fparse_ev s3 (by decide) r (by omega)
    have e2 := fparse_ev s3 (by decide) (r ||| 2 ^ 12) (by omega)
    rw [show hasB r 12 = false from r5, (c3 _ _ _ _).1, ← r2] at e1
    rw [show hasB (r ||| 2 ^ 12) 12 = true from r6, (c3 _ _ _ _).2, ← r3, ← r2] at e2
    exact Ev.bind e1 (Ev.bind e2 (Ev.neg (by simp) (Ev.pos rfl (Ev.pos rfl (Ev.neg (by decide) (Ev.pos (by decide) (Ev.neg (by simp) ((Ev.now _).to (by decide +kernel)))))))))
  · refine Ev.pos (by decide) (Ev.neg (by decide) ?_)
    obtain ⟨r, r1, r2, r3, r4, r5, r6, _⟩ := clause_off a 14 ha (by decide)
    have e1 := fparse_ev s4 (by decide) r (by omega)
    have e2 := fparse_ev s4 (by decide) (r ||| 2 ^ 14) (by omega)
    rw [show hasB r 14 = false from r5, (c4 _ _ _ _).1, ← r2] at e1
    rw [show hasB (r ||| 2 ^ 14) 14 = true from r6, (c4 _ _ _ _).2, ← r3, ← r2] at e2
    exact Ev.bind e1 (Ev.bind e2 (Ev.neg (by simp) (Ev.pos rfl (Ev.pos rfl (Ev.neg (by decide) (Ev.neg (by decide) (Ev.neg (by decide) (Ev.pos (by decide) (Ev.pos rfl (Ev.pos (by decide +kernel) ((Ev.now _).to (by decide +kernel))))))))))))
end Go.Proofs.YtijcibdpcolfpaaDoor.Pure
