/- '[]byte("..")' of a constant: the row that a literal has laid is marked, and goes on being read. -/
import Derived.Test.YtomofacchnmepaaDoorWMore
import Derived.Laws.IdiomStrings
import Derived.Lib.Hide
namespace Go.Proofs.YtomofacchnmepaaDoor.Mark
open Go.RowKit Go.Proofs.YtomofacchnmepaaDoorW.PrintWords Go.Proofs.YtomofacchnmepaaDoorW.PrintLast Go.Proofs.YtomofacchnmepaaDoorW.PrintMore
theorem own_ne {α : Type} {d : Kd α} {e base n c : Nat} {W : World} {ok : Nat → Prop} {A : Option Addr} {xs : List α} (h : Kd.R d e W base ok (.slice A n c) xs) {g t : Nat} {cells : Array Value} (hb : W.heap[g]? = some (.cells cells t (0, 0))) (ht : ∀ q, q ∈ e :: d.E → q ≠ t) : ∀ ad, A = some ad → ad.block ≠ g := by
  intro ad he
  have h2 := Kd.R_types h hb ht
  unfold Kd.R at h2
  exact (h2.1 ad.block (by rw [he]; rfl)).2
section
variable {P : Program} {ops : Array Oper} {o : Oper} {a : Act} {Q : Exit → Act → World → Prop} {rest : List Oper}
theorem V_bytes {w0 W : World} (base e : Nat) (hgd : o.guard = none) {N : Tmp} (_hd : o.dst = some N) (ts tb : TypeId) (x : Operand) (ho : o.op = .convert ts tb x) (s : ByteArray) (hx : a.eval x = .string s) (hs : P.underlying ts = some .string) (hb : P.underlying tb = some (.slice e)) (he : P.underlying e = some (.int .u8)) (hl : s.size ≤ 9223372036854775807) (HB : Below base w0 W) (hbase : base ≤ W.heap.size)
    (h : ∀ v1 w1, Kd.V (Kd.int .u8) e w1 base (fun k => W.heap.size ≤ k) v1 (bytesOf s) → Below base w0 w1 → W.grownBy w1 none → (∃ b, v1.ownBlock = some b ∧ W.heap.size ≤ b) → wpList P ops Q rest (a.put o.dst v1) w1) : wpList P ops Q (o :: rest) a W := by
  have hr := run_bytes_of_string (P := P) W ts tb e s hs hb he
  have hc := grownCap_ge W s.size 0 e
  generalize grownCap W s.size 0 e = cap at hr hc
  have hnew : (W.drew.alloc (.cells (bytesRow s cap) e ((bytesRow s cap).size, (bytesRow s cap).size + 1))).heap[W.heap.size]? = some (.cells (bytesRow s cap) e ((bytesRow s cap).size, (bytesRow s cap).size + 1)) := by
    show (W.heap.push _)[W.heap.size]? = _
    simp
  have hsz : (W.drew.alloc (.cells (bytesRow s cap) e ((bytesRow s cap).size, (bytesRow s cap).size + 1))).heap.size = W.heap.size + 1 := by
    show (W.heap.push _).size = _
    simp
  have hgr : W.grownBy (W.drew.alloc (.cells (bytesRow s cap) e ((bytesRow s cap).size, (bytesRow s cap).size + 1))) none := by
    have hg := World.grownBy_alloc W.drew (.cells (bytesRow s cap) e ((bytesRow s cap).size, (bytesRow s cap).size + 1)) none
    exact ⟨hg.os, hg.tape, hg.output, hg.size, hg.block⟩
  refine Kd.event_run hgd (w1 := W.drew.alloc (.cells (bytesRow s cap) e ((bytesRow s cap).size, (bytesRow s cap).size + 1))) (v := .slice (some ⟨W.heap.size, 0, none⟩) s.size cap) ?_ (h _ _ ⟨some ⟨W.heap.size, 0, none⟩, cap, by rw [bytesOf_length], by rw [bytesOf_length]; exact hc, ?_⟩ ((HB.drew).alloc hbase _) hgr ⟨W.heap.size, rfl, Nat.le_refl _⟩)
  · simp [execOp, ho, hx, hr]
  · intro W' hW'
    have hk := (hW' W.heap.size (Nat.le_refl _) (by rw [hsz]; omega)).trans hnew
    refine ⟨rfl, by rw [bytesOf_length]; exact hl, fun hp => ⟨_, rfl, fun j p hj => ?_⟩⟩
    have hj2 : j < s.size := by rw [← bytesOf_length]; exact (List.getElem?_eq_some_iff.mp hj).1
    refine ⟨[.int .u8 p], rfl, rfl, fun i u hu => ?_⟩
    have hi : i = 0 := by
      have := (List.getElem?_eq_some_iff.mp hu).1
      simpa using this
    subst hi
    have hu2 : u = .int .u8 p := by simpa using hu.symm
    subst hu2
    have hc1 := bytesRow_at s cap j (by simpa using hj2)
    have hp2 : p = (s.data[j].toNat : Int) := by
      unfold bytesOf at hj
      rw [List.getElem?_map] at hj
      have : s.data.toList[j]? = some s.data[j] := by simp [hj2]
      rw [this] at hj
      exact (Option.some.inj hj).symm
    have ha : (Addr.mk W.heap.size 0 none).add (j * (Kd.int .u8).sz + 0) = ⟨W.heap.size, j, none⟩ := by
      rw [show (Kd.int .u8).sz = 1 from rfl, Nat.mul_one, Nat.add_zero]
      first | rw [add_plain, Nat.zero_add] | (simp only [add_at, Nat.zero_add])
    rw [ha, cell_of_row W' W.heap.size j (bytesRow s cap) e _ hk, hc1, hp2]
theorem goesC_ {oi : Oper} {N : Option Tmp} {a : Act} {w : World} {K : Act → World → Prop} {f : FuncId} {fn : Func} {as : Array Operand} {ts : Array TypeId} {t : Nat} {caps : Array Value} (hf : P.funcs[f]? = some fn) (hname : (fn.name == "runtime.NumGoroutine") = false) (hb : fn.body.isSome = true) (args : Array Value)
    (hw : Region.wanted oi (yielded ops a.tmps) = true) (hN : oi.dst = N) (hop : oi.op = .call { callee := .value (.tmp t), args := as, argTypes := ts }) (ht : a.tmps[t]? = some (.func (Fn.func f) #[] caps)) (hargs : as.map a.eval ++ caps = args)
    (h : Calls P f args w fun e w' => ∃ v, e = .returned v ∧ K (a.put N v) w') : if Region.wanted oi (yielded ops a.tmps) = true then Oper.wp P oi a w K Q else K (a.put N undef) w := by
  refine call_ f args hw hN ?_ h
  have he := enters_ hf hname hb args w
  have ht2 : a.eval (.tmp t) = .func (Fn.func f) #[] caps := by simp [Act.eval, ht]
  unfold execOp
  simp [hop, resolve, ht2, Deferred.ofValue, invoke, hargs, he]
end
theorem K {α : Type} {A B : α → Prop} (h : ∀ x, A x → B x := by intro _ hk; first | exact hk.2 | exact True.intro) : ∀ x, A x → B x := h
theorem x {p : Bool} {P : Prop} (h : p = false) (e : p = true) : P := by rw [h] at e; cases e
theorem b {U W : World} {g : Nat} {o : Obj} (a : Aside0 (U.heap[g]? = some o)) (h : U.heap[g]? = some o → W.heap[g]? = some o := by intro h; (with_reducible repeat (first | refine blk_drewN ?_ _ | refine blk_drew ?_ | refine blk_alloc ?_ _)); exact h) : W.heap[g]? = some o := h a.out
theorem h {B : Nat} {w W : World} (h : Below B w W := by repeat (first | (with_reducible first | exact Aside0.out (by assumption) | apply below_alloc | apply pw_below_drewN | apply below_drew1 | refine below_set ?_ (Aside0.out (by assumption))) | exact Aside0.out (by assumption))) : Below B w W := h
theorem r {α : Type} {d : Kd α} {e base : Nat} {U W : World} {ok : Nat → Prop} {v : Value} {xs : List α} (a : Aside0 (Kd.R d e U base ok v xs)) (h : Kd.R d e U base ok v xs → Kd.R d e W base ok v xs := by intro h; (with_reducible repeat (first | apply Kd.R_alloc | apply Kd.R_drewN | apply Kd.R_drew)); exact h) : Kd.R d e W base ok v xs := h a.out
theorem s {α : Type} {d : Kd α} {e base : Nat} {U W : World} {ok : Nat → Prop} {v : Value} {xs : List α} (a : Aside0 (Kd.S d e U base ok v xs)) (h : Kd.S d e U base ok v xs → Kd.S d e W base ok v xs := by intro h; (with_reducible repeat (first | apply Kd.S_alloc | apply Kd.S_drewN | apply Kd.S_drew)); exact h) : Kd.S d e W base ok v xs := h a.out
theorem n {α : Type} {d : Kd α} {e base : Nat} {U W : World} {ok : Nat → Prop} {v : Value} {xs : List α} (a : Aside0 (Kd.N d e U base ok v xs)) (h : Kd.N d e U base ok v xs → Kd.N d e W base ok v xs := by intro h; (with_reducible repeat (first | apply Kd.N_alloc | apply Kd.N_drewN | apply Kd.N_drew)); exact h) : Kd.N d e W base ok v xs := h a.out
theorem v {α : Type} {d : Kd α} {e base : Nat} {U W : World} {ok : Nat → Prop} {v : Value} {xs : List α} (a : Aside0 (Kd.V d e U base ok v xs)) (h : Kd.V d e U base ok v xs → Kd.V d e W base ok v xs := by intro h; (with_reducible repeat (first | apply Kd.V_alloc | apply Kd.V_drewN | apply Kd.V_drew)); exact h) : Kd.V d e W base ok v xs := h a.out
end Go.Proofs.YtomofacchnmepaaDoor.Mark
