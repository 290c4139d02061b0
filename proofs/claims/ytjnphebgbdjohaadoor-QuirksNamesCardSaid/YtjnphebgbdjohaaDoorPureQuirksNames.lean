/- It is proved that QuirksNames answers true at every input: each clause has a name of its own, and just it is found by it. -/
import Derived.Test.YtjnphebgbdjohaaDoorPQuirksNamesx2
import Derived.Test.YtjnphebgbdjohaaDoorTxtQuirksNames
namespace Go.Proofs.YtjnphebgbdjohaaDoor.Pure
open Go.RowKit Go.Proofs.YtjnphebgbdjohaaDoor.PQuirksNames Go.Proofs.YtjnphebgbdjohaaDoorW.PrintWords Go.Proofs.YtjnphebgbdjohaaDoorW.PrintLast Go.Proofs.YtjnphebgbdjohaaDoorW.PrintMore Go.Proofs.YtjnphebgbdjohaaDoor.Aid

def namesT : List ByteArray := [(⟨#[101, 109, 112, 116, 121]⟩ : ByteArray), (⟨#[98, 97, 114, 101, 108, 102]⟩ : ByteArray), (⟨#[98, 97, 114, 101, 99, 114]⟩ : ByteArray), (⟨#[98, 108, 97, 110, 107, 115]⟩ : ByteArray), (⟨#[109, 105, 110, 111, 114]⟩ : ByteArray), (⟨#[97, 110, 121, 99, 97, 115, 101]⟩ : ByteArray), (⟨#[110, 111, 118, 101, 114, 115, 105, 111, 110]⟩ : ByteArray), (⟨#[115, 112, 97, 99, 101, 115]⟩ : ByteArray), (⟨#[99, 111, 110, 116, 114, 111, 108, 115]⟩ : ByteArray), (⟨#[99, 111, 108, 111, 110, 115, 112, 97, 99, 101]⟩ : ByteArray), (⟨#[110, 97, 109, 101, 98, 121, 116, 101, 115]⟩ : ByteArray), (⟨#[110, 111, 99, 111, 108, 111, 110]⟩ : ByteArray), (⟨#[110, 111, 110, 97, 109, 101]⟩ : ByteArray), (⟨#[102, 111, 108, 100]⟩ : ByteArray), (⟨#[118, 97, 108, 117, 101, 98, 121, 116, 101, 115]⟩ : ByteArray), (⟨#[110, 111, 104, 111, 115, 116]⟩ : ByteArray), (⟨#[109, 97, 110, 121, 104, 111, 115, 116, 115]⟩ : ByteArray), (⟨#[116, 101, 98, 108, 97, 110, 107, 115]⟩ : ByteArray), (⟨#[116, 101, 108, 105, 115, 116]⟩ : ByteArray), (⟨#[116, 101, 105, 103, 110, 111, 114, 101]⟩ : ByteArray), (⟨#[116, 101, 111, 108, 100]⟩ : ByteArray), (⟨#[116, 101, 119, 105, 110, 115]⟩ : ByteArray), (⟨#[99, 108, 119, 105, 110, 115]⟩ : ByteArray), (⟨#[99, 108, 112, 108, 117, 115]⟩ : ByteArray), (⟨#[99, 108, 99, 111, 109, 109, 97]⟩ : ByteArray), (⟨#[99, 108, 102, 105, 114, 115, 116]⟩ : ByteArray), (⟨#[99, 108, 108, 97, 115, 116]⟩ : ByteArray), (⟨#[99, 104, 117, 110, 107, 104, 101, 120]⟩ : ByteArray), (⟨#[99, 104, 117, 110, 107, 98, 108, 97, 110, 107, 115]⟩ : ByteArray), (⟨#[99, 104, 117, 110, 107, 101, 110, 100]⟩ : ByteArray)]
theorem nlen : namesT.length = 30 := rfl
theorem qnames : quirks_names.f = some namesT := by kernel_rfl


def nameB (c : Int) : ByteArray := if 0 ≤ c ∧ c < 30 then rdOf ByteArray.empty namesT c else (⟨#[]⟩ : ByteArray)
theorem qname (c : Int) : quirks_Name.f c = some (nameB c) := by
  unfold quirks_Name.f nameB
  rw [qknown, Option.bind_some]
  by_cases h : 0 ≤ c ∧ c < 30
  · rw [if_pos (decide_eq_true h), qnames, Option.bind_some, if_pos h.1, if_pos (show c < (namesT.length : Int) by rw [nlen]; omega), if_pos h]
  · rw [if_neg (by simpa using h), if_neg h]
def findI (s : ByteArray) : Int × Bool := (mx (idxL namesT s) 0, decide (idxL namesT s ≥ 0))
theorem qfind (s : ByteArray) : Ev (fun k => quirks_Find.f k s) (findI s) := by
  unfold quirks_Find.f
  exact Ev.val qnames (Ev.bind (idx_ev namesT s (by decide)) (Ev.now _))
theorem tab_names : ∀ x y : Fin 30, ((rdOf ByteArray.empty namesT (x.val : Int)).data.toList == (rdOf ByteArray.empty namesT (y.val : Int)).data.toList) = decide (x.val = y.val) := by decide +kernel
theorem tab_long : ∀ x : Fin 30, (rdOf ByteArray.empty namesT (x.val : Int)).size ≠ 0 ∧ (rdOf ByteArray.empty namesT (x.val : Int)).size ≤ 30 := by decide +kernel
theorem name_at (x : Nat) (h : x < 30) : nameB (x : Int) = rdOf ByteArray.empty namesT (x : Int) := if_pos (by omega)
theorem QuirksNames : parallaxlaw5_QuirksNames.Pure := by
  intro a0 a1 a2 a3 h0 h1 h2 h3
  refine Ev.rounds (g := fun k => parallaxlaw5_QuirksNames.f k a0 a1 a2 a3) ?_
  have r0 := u8_wf h0
  have r1 := u8_wf h1
  have r2 := u8_wf h2
  obtain ⟨a, rfl⟩ : ∃ n : Nat, a0 = (n : Int) := ⟨a0.toNat, by omega⟩
  obtain ⟨b, rfl⟩ : ∃ n : Nat, a1 = (n : Int) := ⟨a1.toNat, by omega⟩
  obtain ⟨v, rfl⟩ : ∃ n : Nat, a2 = (n : Int) := ⟨a2.toNat, by omega⟩
  have ma : wrap64 (Int.tmod (a : Int) 30) = ((a % 30 : Nat) : Int) := by
    rw [Int.tmod_eq_emod_of_nonneg (by omega), show ((a : Int) % 30) = ((a % 30 : Nat) : Int) from (Int.natCast_emod a 30).symm]
    exact wrap_in (by omega) (by omega)
  have mb : wrap64 (Int.tmod (b : Int) 30) = ((b % 30 : Nat) : Int) := by
    rw [Int.tmod_eq_emod_of_nonneg (by omega), show ((b : Int) % 30) = ((b % 30 : Nat) : Int) from (Int.natCast_emod b 30).symm]
    exact wrap_in (by omega) (by omega)
  have mv : wrap64 (v : Int) = (v : Int) := wrap_in (by omega) (by omega)
  have ha : a % 30 < 30 := Nat.mod_lt _ (by decide)
  have hb : b % 30 < 30 := Nat.mod_lt _ (by decide)
  obtain ⟨l1, l2⟩ := tab_long ⟨a % 30, ha⟩
  have tn := tab_names ⟨a % 30, ha⟩ ⟨b % 30, hb⟩
  dsimp only at l1 l2 tn
  unfold parallaxlaw5_QuirksNames.f
  refine Ev.bind known_ev (Ev.pos rfl ?_)
  rw [ma, mb, mv]
  refine Ev.val (qname _) ?_
  rw [name_at _ ha]
  refine Ev.neg (by omega) (Ev.val (qname _) ?_)
  rw [name_at _ hb, ByteArray.toList_eq, ByteArray.toList_eq, tn]
  refine Ev.neg ?_ (Ev.val (qname _) (Ev.pos (by decide +kernel) (Ev.val (qname _) (Ev.pos (by decide +kernel) (Ev.pos (by omega) (Ev.val rfl ?_))))))
  · have : (((a % 30 : Nat) : Int) == ((b % 30 : Nat) : Int)) = decide (a % 30 = b % 30) := by rw [Bool.eq_iff_iff, beq_iff_eq, decide_eq_true_eq]; omega
    rw [this]; simp
  generalize rdOf ByteArray.empty namesT ((a % 30 : Nat) : Int) = s at l1 l2
  have hlen : (bytesOf s).length = s.size := bytesOf_length s
  have hm : Int.tmod (v : Int) ((bytesOf s).length : Int) = ((v % (bytesOf s).length : Nat) : Int) := by
    rw [Int.tmod_eq_emod_of_nonneg (by omega)]; exact (Int.natCast_emod v _).symm
  have hv : v % (bytesOf s).length < (bytesOf s).length := Nat.mod_lt _ (by omega)
  rw [hm]
  refine Ev.neg (by omega) (Ev.pos (by omega) (Ev.pos (by omega) (Ev.val rfl ?_)))
  generalize strOfNums ((bytesOf s).set (((v % (bytesOf s).length : Nat) : Int)).toNat a3) = u
  refine Ev.bind (qfind u) ?_
  unfold findI
  have hg := idxL_ge namesT u
  rw [nlen] at hg
  by_cases hi : idxL namesT u ≥ 0
  · refine Ev.pos (decide_eq_true hi) (Ev.val (qname _) ((Ev.now _).to ?_))
    have hmx : mx (idxL namesT u) 0 = idxL namesT u := by unfold mx; split <;> omega
    have he : nameB (idxL namesT u) = rdOf ByteArray.empty namesT (idxL namesT u) := if_pos (by omega)
    dsimp only
    rw [hmx, he, idxL_at namesT u hi]
    simp
  · refine Ev.neg (by simpa using hi) (Ev.pos ?_ (Ev.now _))
    show mx (idxL namesT u) 0 = 0
    unfold mx; split <;> omega
end Go.Proofs.YtjnphebgbdjohaaDoor.Pure
