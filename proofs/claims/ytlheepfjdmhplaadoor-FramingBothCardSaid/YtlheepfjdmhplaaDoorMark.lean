/- '[]byte("..")' of a constant: the row that a literal has laid is marked, and goes on being read. -/
import Derived.Test.YtlheepfjdmhplaaDoorWMore
import Derived.Laws.IdiomStrings
import Derived.Lib.Hide
namespace Go.Proofs.YtlheepfjdmhplaaDoor.Mark
open Go.RowKit Go.Proofs.YtlheepfjdmhplaaDoorW.PrintWords Go.Proofs.YtlheepfjdmhplaaDoorW.PrintLast Go.Proofs.YtlheepfjdmhplaaDoorW.PrintMore
theorem own_ne {α : Type} {d : Kd α} {e base n c : Nat} {W : World} {ok : Nat → Prop} {A : Option Addr} {xs : List α} (h : Kd.R d e W base ok (.slice A n c) xs) {g t : Nat} {cells : Array Value} (hb : W.heap[g]? = some (.cells cells t (0, 0))) (ht : ∀ q, q ∈ e :: d.E → q ≠ t) : ∀ ad, A = some ad → ad.block ≠ g := by
  intro ad he
  have h2 := Kd.R_types h hb ht
  unfold Kd.R at h2
  exact (h2.1 ad.block (by rw [he]; rfl)).2
section
variable {P : Program} {ops : Array Oper} {o : Oper} {a : Act} {Q : Exit → Act → World → Prop} {rest : List Oper}
end
end Go.Proofs.YtlheepfjdmhplaaDoor.Mark
