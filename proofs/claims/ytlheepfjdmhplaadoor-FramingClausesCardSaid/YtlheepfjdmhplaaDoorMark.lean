/- '[]byte("..")' of a constant: the row that a literal has laid is marked, and goes on being read. -/
import Derived.Test.YtlheepfjdmhplaaDoorWMore
import Derived.Laws.IdiomStrings
import Derived.Lib.Hide
namespace Go.Proofs.YtlheepfjdmhplaaDoor.Mark
open Go.RowKit Go.Proofs.YtlheepfjdmhplaaDoorW.PrintWords Go.Proofs.YtlheepfjdmhplaaDoorW.PrintLast Go.Proofs.YtlheepfjdmhplaaDoorW.PrintMore
theorem shl1_spell (x : Int) : ((2 : Int) ^ x.toNat % 4294967296) = shl .u32 1 x := by
  unfold shl
  have hb : IntKind.u32.bits = 32 := by decide
  rw [hb]
  have hw : ∀ n : Int, IntKind.u32.wrap n = n % 4294967296 := fun n => by simp [IntKind.wrap, IntKind.bits, IntKind.signed]
  rw [hw, Int.one_mul]
  rcases Nat.le_total x.toNat 32 with h | h
  · rw [Nat.min_eq_left h]
  · rw [Nat.min_eq_right h]
    obtain ⟨d, hd⟩ := Nat.exists_eq_add_of_le h
    rw [hd, Int.pow_add]
    have : ((2 : Int) ^ 32) = 4294967296 := by decide
    rw [this]
    simp
theorem own_ne {α : Type} {d : Kd α} {e base n c : Nat} {W : World} {ok : Nat → Prop} {A : Option Addr} {xs : List α} (h : Kd.R d e W base ok (.slice A n c) xs) {g t : Nat} {cells : Array Value} (hb : W.heap[g]? = some (.cells cells t (0, 0))) (ht : ∀ q, q ∈ e :: d.E → q ≠ t) : ∀ ad, A = some ad → ad.block ≠ g := by
  intro ad he
  have h2 := Kd.R_types h hb ht
  unfold Kd.R at h2
  exact (h2.1 ad.block (by rw [he]; rfl)).2
section
variable {P : Program} {ops : Array Oper} {o : Oper} {a : Act} {Q : Exit → Act → World → Prop} {rest : List Oper}
end
end Go.Proofs.YtlheepfjdmhplaaDoor.Mark
