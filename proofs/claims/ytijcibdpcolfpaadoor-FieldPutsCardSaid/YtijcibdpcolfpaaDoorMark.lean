/- '[]byte("..")' of a constant: the row that a literal has laid is marked, and goes on being read. -/
import Derived.Test.YtijcibdpcolfpaaDoorWMore
import Derived.Laws.IdiomStrings
import Derived.Lib.Hide
namespace Go.Proofs.YtijcibdpcolfpaaDoor.Mark
open Go.RowKit Go.Proofs.YtijcibdpcolfpaaDoorW.PrintWords Go.Proofs.YtijcibdpcolfpaaDoorW.PrintLast Go.Proofs.YtijcibdpcolfpaaDoorW.PrintMore

/-- '1 << x' as the walk spells it -/
theorem shl1_spell (x : Int) : ((2 : Int) ^ x.toNat % 4294967296) = shl .u32 1 x := by
  unfold shl
  have hb : IntKind.u32.bits = 32 := by decide
  rw [hb]
  have hw : ∀ n : Int, IntKind.u32.wrap n = n % 4294967296 := fun n => by simp [IntKind.wrap, IntKind.bits, IntKind.signed]
  rw [hw, Int.one_mul]
  rcases Nat.le_total x.toNat 32 with h | h
  · rw [Nat.min_eq_left h]
  · rw [Nat.min_eq_right h]
    obtain ⟨d, hd⟩ := Nat.exists_eq_add_of_le h
    rw [hd, Int.pow_add]
    have : ((2 : Int) ^ 32) = 4294967296 := by decide
    rw [this]
    simp
theorem cell_same {W W1 : World} {a : Addr} {g : Nat} (hb : a.block = g) {t : TypeId} {cur : Array Value} {f f1 : Nat × Nat} (h : W.heap[g]? = some (.cells cur t f)) (h1 : W1.heap[g]? = some (.cells cur t f1)) : W1.cell? a = W.cell? a := by
  subst hb
  unfold World.cell?
  rw [h, h1]
/-- a cut of the call's own row -/
theorem R_cut {α : Type} {d : Kd α} {e n c : Nat} {w : World} {base : Nat} {ok : Nat → Prop} {A : Option Addr} {xs ys : List α} {j m' : Nat} (h : d.R e w base ok (.slice A n c) xs) (hy : ys = xs.take j) (hl : m' = ys.length) : d.R e w base ok (.slice A m' c) ys := by
  have e1 : xs.take (xs.take j).length = xs.take j := by
    rw [List.length_take]
    rcases Nat.le_total j xs.length with h1 | h1
    · rw [Nat.min_eq_left h1]
    · rw [Nat.min_eq_right h1, List.take_of_length_le (Nat.le_refl _), List.take_of_length_le h1]
  subst hl hy
  have := Kd.R_take (m := (xs.take j).length) h (by rw [List.length_take]; omega)
  rwa [e1] at this
/-- an argument's row, told by what it hangs on -/
theorem V_arg {α : Type} {d : Kd α} {e c base : Nat} {w : World} {A : Option Addr} {xs : List α} (hd : Kd.Heap d) (h : d.C w A xs.length xs) (hc : xs.length ≤ c) : Kd.V d e w base (fun k => k < w.heap.size) (.slice A xs.length c) xs := ⟨A, c, rfl, hc, Kd.C_F hd h⟩
theorem freeze_at (W : World) (g n : Nat) (t : TypeId) (cur : Array Value) (h : W.heap[g]? = some (.cells cur t (0, 0))) :
    (W.freeze ⟨g, n, none⟩ 1).heap[g]? = some (.cells cur t (n, n + 1)) ∧ (∀ k, k ≠ g → (W.freeze ⟨g, n, none⟩ 1).heap[k]? = W.heap[k]?) ∧ (W.freeze ⟨g, n, none⟩ 1).heap.size = W.heap.size := by
  unfold World.freeze
  rw [if_neg (by decide)]
  refine ⟨?_, fun k hk => ?_, by simp⟩
  · simp [Array.getElem?_modify, h]
  · simp only [Array.getElem?_modify]; rw [if_neg (fun e => hk e.symm)]
theorem below_freeze {base : Nat} {w0 W : World} (h : Below base w0 W) {g n : Nat} (hg : base ≤ g) : Below base w0 (W.freeze ⟨g, n, none⟩ 1) := by
  have hf : (W.freeze ⟨g, n, none⟩ 1).heap.size = W.heap.size := by unfold World.freeze; rw [if_neg (by decide)]; simp
  obtain ⟨h1, h2, h3, h4, h5⟩ := h
  refine ⟨?_, ?_, ?_, by rw [hf]; exact h4, fun j hj => ?_⟩
  · unfold World.freeze; rw [if_neg (by decide)]; exact h1
  · unfold World.freeze; rw [if_neg (by decide)]; exact h2
  · unfold World.freeze; rw [if_neg (by decide)]; exact h3
  · rw [← h5 j hj]
    unfold World.freeze; rw [if_neg (by decide)]
    simp only [Array.getElem?_modify]; rw [if_neg (by omega)]
theorem own_ne {α : Type} {d : Kd α} {e base n c : Nat} {W : World} {ok : Nat → Prop} {A : Option Addr} {xs : List α} (h : Kd.R d e W base ok (.slice A n c) xs) {g t : Nat} {cells : Array Value} (hb : W.heap[g]? = some (.cells cells t (0, 0))) (ht : ∀ q, q ∈ e :: d.E → q ≠ t) : ∀ ad, A = some ad → ad.block ≠ g := by
  intro ad he
  have h2 := Kd.R_types h hb ht
  unfold Kd.R at h2
  exact (h2.1 ad.block (by rw [he]; rfl)).2
section
variable {P : Program} {ops : Array Oper} {o : Oper} {a : Act} {Q : Exit → Act → World → Prop} {rest : List Oper}
theorem mark_lit {w0 W : World} (base e t : Nat) (hgd : o.guard = none) {N m : Tmp} (_hd : o.dst = some N) (ho : o.op = .convert t t (.tmp m)) {A : Option Addr} {n c : Nat} (he : a.eval (.tmp m) = .slice A n c) (ht : P.underlying t = some (.slice e)) (heu : P.underlying e = some (.int .u8))
    {ok : Nat → Prop} {xs : List Int} (hR : Kd.R (Kd.int .u8) e W base ok (.slice A n c) xs) (hne : xs ≠ []) (HB : Below base w0 W)
    (h : ∀ w1, (∀ k, (∀ ad, A = some ad → k ≠ ad.block) → w1.heap[k]? = W.heap[k]?) → Below base w0 w1 → Kd.F (Kd.int .u8) w1 (fun k => ∃ ad, A = some ad ∧ k = ad.block) A n xs → n ≤ c → wpList P ops Q rest (a.put o.dst (.slice A n c)) w1) : wpList P ops Q (o :: rest) a W := by
  have hread := Kd.R_reads' hR
  obtain ⟨_, inner, ⟨hl, hown⟩, _⟩ := hR
  rcases hown with ⟨_, h0⟩ | ⟨g, cap, cur, hv, hb, hh, hnc, _, hcs, _⟩
  · exact absurd (List.eq_nil_of_length_eq_zero h0) hne
  injection hv with hA hn hc
  subst hA hc
  have hsh : W.shape? g = some (e, cur.size) := by unfold World.shape?; rw [hh]
  have hrun : (convert t t (.slice (some ⟨g, 0, none⟩) n c)).run P W = .ok (.slice (some ⟨g, 0, none⟩) n c) (W.freeze ⟨g, cur.size, none⟩ 1) := by
    simp [convert, run_underlying ht, run_underlying heu, markStringish, hsh]
  obtain ⟨f1, f2, f3⟩ := freeze_at W g cur.size e cur hh
  refine Kd.event_run hgd (w1 := W.freeze ⟨g, cur.size, none⟩ 1) (v := .slice (some ⟨g, 0, none⟩) n c) ?_ (h _ (fun k hk => f2 k (hk _ rfl)) (below_freeze HB hb) ?_ (by rw [hn]; exact hnc))
  · simp [execOp, ho, he, hrun]
  · intro W' hW'
    have hg : g < (W.freeze ⟨g, cur.size, none⟩ 1).heap.size := by
      rcases Nat.lt_or_ge g (W.freeze ⟨g, cur.size, none⟩ 1).heap.size with x | x
      · exact x
      · rw [Array.getElem?_eq_none x] at f1; cases f1
    have hW1 := (hW' g ⟨_, rfl, rfl⟩ hg).trans f1
    have hC := hread.2.2
    rw [← hread.1] at hC
    refine ⟨hC.1, hC.2.1, fun hp => ?_⟩
    obtain ⟨ad, hadr, hcs2⟩ := hC.2.2 hp
    refine ⟨ad, hadr, fun j p hj => ?_⟩
    obtain ⟨cc, hcl, hK, hcell⟩ := hcs2 j p hj
    refine ⟨cc, hcl, hK, fun i u hu => ?_⟩
    have := hcell i u hu
    injection hadr with hadr
    subst hadr
    rw [cell_same (a := (Addr.mk g 0 none).add (j * (Kd.int .u8).sz + i)) (g := g) (by unfold Addr.add; split <;> rfl) (t := e) (cur := cur) (f := (0, 0)) (f1 := (cur.size, cur.size + 1)) hh hW1]
    exact this
/-- '[]byte(s)': a row that is only read -/
theorem V_bytes {w0 W : World} (base e : Nat) (hgd : o.guard = none) {N : Tmp} (_hd : o.dst = some N) (ts tb : TypeId) (x : Operand) (ho : o.op = .convert ts tb x) (s : ByteArray) (hx : a.eval x = .string s) (hs : P.underlying ts = some .string) (hb : P.underlying tb = some (.slice e)) (he : P.underlying e = some (.int .u8)) (hl : s.size ≤ 9223372036854775807) (HB : Below base w0 W) (hbase : base ≤ W.heap.size)
    (h : ∀ v1 w1, Kd.V (Kd.int .u8) e w1 base (fun k => W.heap.size ≤ k) v1 (bytesOf s) → Below base w0 w1 → W.grownBy w1 none → (∃ b, v1.ownBlock = some b ∧ W.heap.size ≤ b) → wpList P ops Q rest (a.put o.dst v1) w1) : wpList P ops Q (o :: rest) a W := by
  have hr := run_bytes_of_string (P := P) W ts tb e s hs hb he
  have hc := grownCap_ge W s.size 0 e
  generalize grownCap W s.size 0 e = cap at hr hc
  have hnew : (W.drew.alloc (.cells (bytesRow s cap) e ((bytesRow s cap).size, (bytesRow s cap).size + 1))).heap[W.heap.size]? = some (.cells (bytesRow s cap) e ((bytesRow s cap).size, (bytesRow s cap).size + 1)) := by
    show (W.heap.push _)[W.heap.size]? = _
    simp
  have hsz : (W.drew.alloc (.cells (bytesRow s cap) e ((bytesRow s cap).size, (bytesRow s cap).size + 1))).heap.size = W.heap.size + 1 := by
    show (W.heap.push _).size = _
    simp
  have hgr : W.grownBy (W.drew.alloc (.cells (bytesRow s cap) e ((bytesRow s cap).size, (bytesRow s cap).size + 1))) none := by
    have hg := World.grownBy_alloc W.drew (.cells (bytesRow s cap) e ((bytesRow s cap).size, (bytesRow s cap).size + 1)) none
    exact ⟨hg.os, hg.tape, hg.output, hg.size, hg.block⟩
  refine Kd.event_run hgd (w1 := W.drew.alloc (.cells (bytesRow s cap) e ((bytesRow s cap).size, (bytesRow s cap).size + 1))) (v := .slice (some ⟨W.heap.size, 0, none⟩) s.size cap) ?_ (h _ _ ⟨some ⟨W.heap.size, 0, none⟩, cap, by rw [bytesOf_length], by rw [bytesOf_length]; exact hc, ?_⟩ ((HB.drew).alloc hbase _) hgr ⟨W.heap.size, rfl, Nat.le_refl _⟩)
  · simp [execOp, ho, hx, hr]
  · intro W' hW'
    have hk := (hW' W.heap.size (Nat.le_refl _) (by rw [hsz]; omega)).trans hnew
    refine ⟨rfl, by rw [bytesOf_length]; exact hl, fun hp => ⟨_, rfl, fun j p hj => ?_⟩⟩
    have hj2 : j < s.size := by rw [← bytesOf_length]; exact (List.getElem?_eq_some_iff.mp hj).1
    refine ⟨[.int .u8 p], rfl, rfl, fun i u hu => ?_⟩
    have hi : i = 0 := by
      have := (List.getElem?_eq_some_iff.mp hu).1
      simpa using this
    subst hi
    have hu2 : u = .int .u8 p := by simpa using hu.symm
    subst hu2
    have hc1 := bytesRow_at s cap j (by simpa using hj2)
    have hp2 : p = (s.data[j].toNat : Int) := by
      unfold bytesOf at hj
      rw [List.getElem?_map] at hj
      have : s.data.toList[j]? = some s.data[j] := by simp [hj2]
      rw [this] at hj
      exact (Option.some.inj hj).symm
    have ha : (Addr.mk W.heap.size 0 none).add (j * (Kd.int .u8).sz + 0) = ⟨W.heap.size, j, none⟩ := by
      rw [show (Kd.int .u8).sz = 1 from rfl, Nat.mul_one, Nat.add_zero]
      first | rw [add_plain, Nat.zero_add] | (simp only [add_at, Nat.zero_add])
    rw [ha, cell_of_row W' W.heap.size j (bytesRow s cap) e _ hk, hc1, hp2]
/-- a closure is called, in a region that draws -/
theorem goesC_ {oi : Oper} {N : Option Tmp} {a : Act} {w : World} {K : Act → World → Prop} {f : FuncId} {fn : Func} {as : Array Operand} {ts : Array TypeId} {t : Nat} {caps : Array Value} (hf : P.funcs[f]? = some fn) (hname : (fn.name == "runtime.NumGoroutine") = false) (hb : fn.body.isSome = true) (args : Array Value)
    (hw : Region.wanted oi (yielded ops a.tmps) = true) (hN : oi.dst = N) (hop : oi.op = .call { callee := .value (.tmp t), args := as, argTypes := ts }) (ht : a.tmps[t]? = some (.func (Fn.func f) #[] caps)) (hargs : as.map a.eval ++ caps = args)
    (h : Calls P f args w fun e w' => ∃ v, e = .returned v ∧ K (a.put N v) w') : if Region.wanted oi (yielded ops a.tmps) = true then Oper.wp P oi a w K Q else K (a.put N undef) w := by
  refine call_ f args hw hN ?_ h
  have he := enters_ hf hname hb args w
  have ht2 : a.eval (.tmp t) = .func (Fn.func f) #[] caps := by simp [Act.eval, ht]
  unfold execOp
  simp [hop, resolve, ht2, Deferred.ofValue, invoke, hargs, he]
end
section
variable {P : Program} {ops : Array Oper} {o : Oper} {a : Act} {Q : Exit → Act → World → Prop} {rest : List Oper}
/-- an array in memory: a row of the call's own, which its slot points at -/
theorem arr_event {α : Type} (n : Nat) {xs : List α} (hn : xs.length = n) (d : Kd α) {w0 W : World} (base e : Nat) (hgd : o.guard = none) {N : Tmp} (_hd : o.dst = some N) {inner : List Value} {ok okp : Nat → Prop}
    (hrun : (execOp a.eval o).run P W = .ok (.value (.pointer (some ⟨W.heap.size, 0, none⟩))) (W.alloc (.cells inner.toArray e)))
    (hrep : Reps (d.M W base okp) d.sz xs inner) (hok : ∀ k, okp k → ok k) (hfresh : ok W.heap.size) (HB : Below base w0 W) (hbase : base ≤ W.heap.size) (hm : xs.length ≤ 9223372036854775807)
    (h : ∀ g w1, d.R e w1 base ok (.slice (some ⟨g, 0, none⟩) n n) xs → Below base w0 w1 → W.grownBy w1 none → (∃ b, (Value.slice (some ⟨g, 0, none⟩) n n).ownBlock = some b ∧ W.heap.size ≤ b) → wpList P ops Q rest (a.put o.dst (.pointer (some ⟨g, 0, none⟩))) w1) : wpList P ops Q (o :: rest) a W := by
  subst hn
  refine Kd.event_run hgd hrun (h W.heap.size _ ⟨fun k hk => ?_, inner, ?_, ?_⟩ (HB.alloc hbase _) (World.grownBy_alloc W _ none) ⟨W.heap.size, by simp [Value.ownBlock], Nat.le_refl _⟩)
  · have : W.heap.size = k := by simpa [Value.ownBlock] using hk
    subst this
    exact hfresh
  · have h2 := World.ownsRow_lit (base := base) (e := e) (size := d.sz) W inner.toArray xs.length hbase (by simpa [maxLen] using hm) (by simpa using hrep.1)
    simpa using h2
  · refine hrep.imp_ (fun p c hp => d.M_mono (fun k hk => ⟨hok k hk.1, fun he => ?_⟩) (Kd.M_below (d.M_bound hp) (below_alloc (Below.refl _ _) _)))
    have h3 : k = W.heap.size := by simpa [Value.ownBlock] using he
    have := hk.2.2.1
    omega
end
/-! Facts as they now stand, by what is at hand (squeeze.py writes them in place of their proofs). -/
theorem K {α : Type} {A B : α → Prop} (h : ∀ x, A x → B x := by intro _ hk; first | exact hk.2 | exact True.intro) : ∀ x, A x → B x := h
theorem x {p : Bool} {P : Prop} (h : p = false) (e : p = true) : P := by rw [h] at e; cases e
theorem b {U W : World} {g : Nat} {o : Obj} (a : Aside0 (U.heap[g]? = some o)) (h : U.heap[g]? = some o → W.heap[g]? = some o := by intro h; (with_reducible repeat (first | refine blk_drewN ?_ _ | refine blk_drew ?_ | refine blk_alloc ?_ _)); exact h) : W.heap[g]? = some o := h a.out
theorem h {B : Nat} {w W : World} (h : Below B w W := by repeat (first | (with_reducible first | exact Aside0.out (by assumption) | apply below_alloc | apply pw_below_drewN | apply below_drew1 | refine below_set ?_ (Aside0.out (by assumption))) | exact Aside0.out (by assumption))) : Below B w W := h
theorem r {α : Type} {d : Kd α} {e base : Nat} {U W : World} {ok : Nat → Prop} {v : Value} {xs : List α} (a : Aside0 (Kd.R d e U base ok v xs)) (h : Kd.R d e U base ok v xs → Kd.R d e W base ok v xs := by intro h; (with_reducible repeat (first | apply Kd.R_alloc | apply Kd.R_drewN | apply Kd.R_drew)); exact h) : Kd.R d e W base ok v xs := h a.out
theorem s {α : Type} {d : Kd α} {e base : Nat} {U W : World} {ok : Nat → Prop} {v : Value} {xs : List α} (a : Aside0 (Kd.S d e U base ok v xs)) (h : Kd.S d e U base ok v xs → Kd.S d e W base ok v xs := by intro h; (with_reducible repeat (first | apply Kd.S_alloc | apply Kd.S_drewN | apply Kd.S_drew)); exact h) : Kd.S d e W base ok v xs := h a.out
theorem n {α : Type} {d : Kd α} {e base : Nat} {U W : World} {ok : Nat → Prop} {v : Value} {xs : List α} (a : Aside0 (Kd.N d e U base ok v xs)) (h : Kd.N d e U base ok v xs → Kd.N d e W base ok v xs := by intro h; (with_reducible repeat (first | apply Kd.N_alloc | apply Kd.N_drewN | apply Kd.N_drew)); exact h) : Kd.N d e W base ok v xs := h a.out
theorem v {α : Type} {d : Kd α} {e base : Nat} {U W : World} {ok : Nat → Prop} {v : Value} {xs : List α} (a : Aside0 (Kd.V d e U base ok v xs)) (h : Kd.V d e U base ok v xs → Kd.V d e W base ok v xs := by intro h; (with_reducible repeat (first | apply Kd.V_alloc | apply Kd.V_drewN | apply Kd.V_drew)); exact h) : Kd.V d e W base ok v xs := h a.out
/-! The bytes of a text, in a block of their own that is frozen past its end: written, too. -/
def T (e : Nat) (W : World) (base : Nat) (v : Value) (xs : List Int) : Prop :=
  ∃ g cap cells, v = .slice (some ⟨g, 0, none⟩) xs.length cap ∧ base ≤ g ∧ W.heap[g]? = some (.cells cells e (cells.size, cells.size + 1)) ∧ xs.length ≤ cells.size ∧ ∀ (j : Nat) (x : Int), xs[j]? = some x → cells[j]? = some (.int .u8 x)
section
variable {e base g n cap : Nat} {W W1 : World} {v : Value} {xs : List Int}
theorem T_move (h : T e W base v xs) (hm : ∀ k, k < W.heap.size → W1.heap[k]? = W.heap[k]?) : T e W1 base v xs := by
  obtain ⟨g, cap, cells, h1, h2, h3, h4, h5⟩ := h
  exact ⟨g, cap, cells, h1, h2, (hm g (blk_lt h3)).trans h3, h4, h5⟩
theorem T_below (h : T e W base v xs) (hb : Below W.heap.size W W1) : T e W1 base v xs := T_move h (fun k hk => hb.block k hk)
theorem T_drew (h : T e W base v xs) : T e W.drew base v xs := h
theorem T_drewN (h : T e W base v xs) (n : Nat) : T e (W.drewN n) base v xs := h
theorem T_at (h : T e W base (.slice (some ⟨g, 0, none⟩) n cap) xs) : n = xs.length ∧ base ≤ g ∧ ∃ cells, W.heap[g]? = some (.cells cells e (cells.size, cells.size + 1)) ∧ xs.length ≤ cells.size ∧ ∀ (j : Nat) (x : Int), xs[j]? = some x → cells[j]? = some (.int .u8 x) := by
  obtain ⟨g', cap', cells, h1, h2, h3, h4, h5⟩ := h
  injection h1 with ha hn hc
  injection ha with ha
  injection ha with ha
  subst ha
  exact ⟨hn, h2, cells, h3, h4, h5⟩
theorem T_cell (h : T e W base (.slice (some ⟨g, 0, none⟩) n cap) xs) (i : Int) (h0 : 0 ≤ i) (hi : i < n) : W.cell? ⟨g, i.toNat, none⟩ = some (.int .u8 (rd xs i)) ∧ W.frozen? ⟨g, i.toNat, none⟩ = false := by
  obtain ⟨hn, _, cells, h3, h4, h5⟩ := T_at h
  have hj : i.toNat < xs.length := by omega
  refine ⟨?_, ?_⟩
  · rw [cell_of_row W g i.toNat cells e _ h3]
    refine h5 i.toNat (rd xs i) ?_
    have : rd xs i = xs.getD i.toNat 0 := rfl
    rw [this, List.getD_eq_getElem?_getD, List.getElem?_eq_getElem hj]; rfl
  · simp [World.frozen?, h3]; omega
theorem T_put (h : T e W base (.slice (some ⟨g, 0, none⟩) n cap) xs) (i : Int) (x : Int) : T e (W.setCell ⟨g, i.toNat, none⟩ (.int .u8 x)) base (.slice (some ⟨g, 0, none⟩) n cap) (xs.set i.toNat x) ∧ W.grownBy (W.setCell ⟨g, i.toNat, none⟩ (.int .u8 x)) (some g) := by
  obtain ⟨hn, h2, cells, h3, h4, h5⟩ := T_at h
  refine ⟨⟨g, cap, cells.setIfInBounds i.toNat (.int .u8 x), by rw [List.length_set, hn], h2, ?_, by rw [List.length_set, Array.size_setIfInBounds]; exact h4, fun j y hy => ?_⟩, ?_⟩
  · rw [Array.size_setIfInBounds]
    simp [World.setCell, Array.getElem?_modify, h3]
  · rw [List.getElem?_set] at hy
    rw [Array.getElem?_setIfInBounds]
    by_cases hij : i.toNat = j
    · subst hij
      have hl : i.toNat < xs.length := by
        rcases Nat.lt_or_ge i.toNat xs.length with q | q
        · exact q
        · simp [Nat.not_lt.mpr q] at hy
      simp [hl] at hy
      subst hy
      simp [show i.toNat < cells.size by omega]
    · rw [if_neg hij] at hy ⊢
      exact h5 j y hy
  · exact ⟨rfl, rfl, rfl, by simp [World.setCell], fun k _ hne => Below.heap_setCell W ⟨g, i.toNat, none⟩ _ k (fun e => hne (by rw [e]))⟩
theorem T_string {P : Program} {src dst e' : TypeId} (hs : P.underlying src = some (.slice e')) (he : P.underlying e' = some (.int .u8)) (hd : P.underlying dst = some .string) (h : T e W base v xs) : (convert src dst v).run P W = .ok (.string (strOfNums xs)) W := by
  obtain ⟨g, cap, cells, rfl, _, h3, _, h5⟩ := h
  refine run_convert_bytes_arg W src e' hs he g 0 xs.length cap xs rfl (fun i hi => ?_) dst hd
  rw [Nat.zero_add, cell_of_row W g i cells e _ h3]
  exact h5 i _ (by rw [List.getD_eq_getElem?_getD, List.getElem?_eq_getElem hi]; rfl)
end
section
variable {P : Program} {ops : Array Oper} {rest : List Oper} {o : Oper} {a : Act} {Q : Exit → Act → World → Prop}
theorem T_bytes {w0 W : World} (base e : Nat) (hgd : o.guard = none) {N : Tmp} (_hd : o.dst = some N) (ts tb : TypeId) (x : Operand) (ho : o.op = .convert ts tb x) (s : ByteArray) (hx : a.eval x = .string s) (hs : P.underlying ts = some .string) (hb : P.underlying tb = some (.slice e)) (he : P.underlying e = some (.int .u8)) (HB : Below base w0 W) (hbase : base ≤ W.heap.size) (xs : List Int) (hxs : xs = bytesOf s)
    (h : ∀ g cap w1, T e w1 base (.slice (some ⟨g, 0, none⟩) xs.length cap) xs → Below base w0 w1 → wpList P ops Q rest (a.put o.dst (.slice (some ⟨g, 0, none⟩) xs.length cap)) w1) : wpList P ops Q (o :: rest) a W := by
  have hr := run_bytes_of_string (P := P) W ts tb e s hs hb he
  generalize grownCap W s.size 0 e = cap at hr
  have hlen : xs.length = s.size := by rw [hxs, bytesOf_length]
  have hnew : (W.drew.alloc (.cells (bytesRow s cap) e ((bytesRow s cap).size, (bytesRow s cap).size + 1))).heap[W.heap.size]? = some (.cells (bytesRow s cap) e ((bytesRow s cap).size, (bytesRow s cap).size + 1)) := by
    show (W.heap.push _)[W.heap.size]? = _
    simp
  have hgr : W.grownBy (W.drew.alloc (.cells (bytesRow s cap) e ((bytesRow s cap).size, (bytesRow s cap).size + 1))) none := by
    have hg := World.grownBy_alloc W.drew (.cells (bytesRow s cap) e ((bytesRow s cap).size, (bytesRow s cap).size + 1)) none
    exact ⟨hg.os, hg.tape, hg.output, hg.size, hg.block⟩
  have hsz : s.size ≤ (bytesRow s cap).size := by unfold bytesRow; rw [Array.size_append, Array.size_map]; exact Nat.le_add_right _ _
  refine Kd.event_run hgd (w1 := W.drew.alloc (.cells (bytesRow s cap) e ((bytesRow s cap).size, (bytesRow s cap).size + 1))) (v := .slice (some ⟨W.heap.size, 0, none⟩) xs.length cap) ?_ (h _ _ _ ⟨W.heap.size, cap, bytesRow s cap, rfl, hbase, hnew, by rw [hlen]; exact hsz, fun j y hy => ?_⟩ (HB.trans ⟨hgr.os, hgr.tape, hgr.output, hgr.size, fun k hk => hgr.block k (Nat.lt_of_lt_of_le hk hbase) (by simp)⟩))
  · simp [execOp, ho, hx, hr, hlen]
  · have hj2 : j < s.size := by rw [← hlen]; exact (List.getElem?_eq_some_iff.mp hy).1
    have hc1 := bytesRow_at s cap j (by simpa using hj2)
    have hp2 : y = (s.data[j].toNat : Int) := by
      rw [hxs] at hy
      unfold bytesOf at hy
      rw [List.getElem?_map] at hy
      have : s.data.toList[j]? = some s.data[j] := by simp [hj2]
      rw [this] at hy
      exact (Option.some.inj hy).symm
    rw [hc1, hp2]
end
end Go.Proofs.YtijcibdpcolfpaaDoor.Mark
