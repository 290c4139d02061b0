/- '[]byte("..")' of a constant: the row that a literal has laid is marked, and goes on being read. -/
import Derived.Test.YtnnehbbfokoklaaWMore
import Derived.Laws.IdiomStrings
import Derived.Lib.Hide
namespace Go.Proofs.Ytnnehbbfokoklaa.Mark
open Go.RowKit Go.Proofs.YtnnehbbfokoklaaW.PrintWords Go.Proofs.YtnnehbbfokoklaaW.PrintLast Go.Proofs.YtnnehbbfokoklaaW.PrintMore
section
variable {P : Program} {ops : Array Oper} {o : Oper} {a : Act} {Q : Exit → Act → World → Prop} {rest : List Oper}
end
theorem K {α : Type} {A B : α → Prop} (h : ∀ x, A x → B x := by intro _ hk; first | exact hk.2 | exact True.intro) : ∀ x, A x → B x := h
theorem x {p : Bool} {P : Prop} (h : p = false) (e : p = true) : P := by rw [h] at e; cases e
theorem b {U W : World} {g : Nat} {o : Obj} (a : Aside0 (U.heap[g]? = some o)) (h : U.heap[g]? = some o → W.heap[g]? = some o := by intro h; (with_reducible repeat (first | refine blk_drewN ?_ _ | refine blk_drew ?_ | refine blk_alloc ?_ _)); exact h) : W.heap[g]? = some o := h a.out
theorem h {B : Nat} {w W : World} (h : Below B w W := by repeat (first | (with_reducible first | exact Aside0.out (by assumption) | apply below_alloc | apply pw_below_drewN | apply below_drew1 | refine below_set ?_ (Aside0.out (by assumption))) | exact Aside0.out (by assumption))) : Below B w W := h
theorem r {α : Type} {d : Kd α} {e base : Nat} {U W : World} {ok : Nat → Prop} {v : Value} {xs : List α} (a : Aside0 (Kd.R d e U base ok v xs)) (h : Kd.R d e U base ok v xs → Kd.R d e W base ok v xs := by intro h; (with_reducible repeat (first | apply Kd.R_alloc | apply Kd.R_drewN | apply Kd.R_drew)); exact h) : Kd.R d e W base ok v xs := h a.out
theorem s {α : Type} {d : Kd α} {e base : Nat} {U W : World} {ok : Nat → Prop} {v : Value} {xs : List α} (a : Aside0 (Kd.S d e U base ok v xs)) (h : Kd.S d e U base ok v xs → Kd.S d e W base ok v xs := by intro h; (with_reducible repeat (first | apply Kd.S_alloc | apply Kd.S_drewN | apply Kd.S_drew)); exact h) : Kd.S d e W base ok v xs := h a.out
theorem n {α : Type} {d : Kd α} {e base : Nat} {U W : World} {ok : Nat → Prop} {v : Value} {xs : List α} (a : Aside0 (Kd.N d e U base ok v xs)) (h : Kd.N d e U base ok v xs → Kd.N d e W base ok v xs := by intro h; (with_reducible repeat (first | apply Kd.N_alloc | apply Kd.N_drewN | apply Kd.N_drew)); exact h) : Kd.N d e W base ok v xs := h a.out
theorem v {α : Type} {d : Kd α} {e base : Nat} {U W : World} {ok : Nat → Prop} {v : Value} {xs : List α} (a : Aside0 (Kd.V d e U base ok v xs)) (h : Kd.V d e U base ok v xs → Kd.V d e W base ok v xs := by intro h; (with_reducible repeat (first | apply Kd.V_alloc | apply Kd.V_drewN | apply Kd.V_drew)); exact h) : Kd.V d e W base ok v xs := h a.out
def T (e : Nat) (W : World) (base : Nat) (v : Value) (xs : List Int) : Prop :=
  ∃ g cap cells, v = .slice (some ⟨g, 0, none⟩) xs.length cap ∧ base ≤ g ∧ W.heap[g]? = some (.cells cells e (cells.size, cells.size + 1)) ∧ xs.length ≤ cells.size ∧ ∀ (j : Nat) (x : Int), xs[j]? = some x → cells[j]? = some (.int .u8 x)
section
variable {e base g n cap : Nat} {W W1 : World} {v : Value} {xs : List Int}
end
section
variable {P : Program} {ops : Array Oper} {rest : List Oper} {o : Oper} {a : Act} {Q : Exit → Act → World → Prop}
end
end Go.Proofs.Ytnnehbbfokoklaa.Mark
