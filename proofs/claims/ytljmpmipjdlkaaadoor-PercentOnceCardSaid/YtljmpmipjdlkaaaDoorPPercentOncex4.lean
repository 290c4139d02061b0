-- Written by a program of this session (wip/tools/myprint.sh)
import Derived.Test.YtljmpmipjdlkaaaDoorPPercentOncex0
import Derived.Test.YtljmpmipjdlkaaaDoorPPercentOncex1
import Derived.Test.YtljmpmipjdlkaaaDoorPPercentOncex2
import Derived.Test.YtljmpmipjdlkaaaDoorPPercentOncex3
namespace Go.Proofs.YtljmpmipjdlkaaaDoor.PPercentOnce
open Go.RowKit Go.Proofs.YtljmpmipjdlkaaaDoorW.PrintWords Go.Proofs.YtljmpmipjdlkaaaDoorW.PrintLast Go.Proofs.YtljmpmipjdlkaaaDoorW.PrintMore
attribute [local go_sem] max2_int min2_int max_two min_two max_three min_three max_four min_four   -- for this text's walks alone
set_option linter.unusedVariables false
set_option linter.unusedSimpArgs false

/-! ### percent_Decode_1_turned: percent.turned (function 18) with the function 27 -/
theorem percent_Decode_1_turned_below {T e B b : Nat} {bs : List Value} {w w' : World} (h : Lib.IsBuilder T e B b bs w) (hb : Below w.heap.size w w') : Lib.IsBuilder T e B b bs w' := by
  have key : ∀ p, Lib.BuilderAt T e B b p bs w → Lib.BuilderAt T e B b p bs w' := by
    intro p hp
    have hlt := hp.lt
    obtain ⟨hB, v, hbk, hown, hne⟩ := hp
    exact ⟨hB, v, (hb.block b hlt).trans hbk, hown.kept (row := none) ⟨hb.os, hb.tape, hb.output, hb.size, fun k hk _ => hb.block k hk⟩ (Classical.em _), hne⟩
  rcases h with h | h
  · exact .inl (key _ h)
  · exact .inr (key _ h)
theorem percent_Decode_1_turned_app (a p : ByteArray) : Lib.byteCells (a ++ p).data.toList = Lib.byteCells a.data.toList ++ Lib.byteCells p.data.toList := by
  show Lib.byteCells (ByteArray.append _ _).data.toList = _
  rw [ByteArray.toList_data_append']
  simp [Lib.byteCells]
theorem percent_Decode_1_turned_one (c : Int) (h0 : 0 ≤ c) (h1 : c < 256) : Lib.byteCells (strOfNums [c]).data.toList = [Value.int .u8 c] := by
  rw [strOfNums_data]
  have : (((UInt8.ofNat c.toNat).toNat : Nat) : Int) = c := by
    rw [UInt8.toNat_ofNat_of_lt' (by show c.toNat < 256; omega)]; omega
  simp only [Lib.byteCells, List.map_cons, List.map_nil, this]
theorem percent_Decode_1_turned_size (a : ByteArray) : (Lib.byteCells a.data.toList).length = a.size := by simp [Lib.byteCells]
def percent_Decode_1_turned.l0 : Nat → ByteArray → ByteArray → Nat → Option (ByteArray × Bool)
  | 0, _, _, _ => none
  | k + 1, s, acc, i => if acc.size ≤ 1000000000 then (if i < s.size then (if bt s (i : Int) = 37 then ((percent_triple.f k (s.extract i s.size)).bind fun t => (if t.2 = true then ((percent_Decode_1.f t.1).bind fun p => (if i + 3 ≤ s.size ∧ p.size ≤ 1000000000 then percent_Decode_1_turned.l0 k s (acc ++ p) (i + 3) else none)) else some ((⟨#[]⟩ : ByteArray), false))) else percent_Decode_1_turned.l0 k s (acc ++ strOfNums [bt s (i : Int)]) (i + 1)) else some (acc, true)) else none
def percent_Decode_1_turned.f (k : Nat) (a0 : ByteArray) : Option (ByteArray × Bool) := if a0.size ≤ 1000000000 then percent_Decode_1_turned.l0 k a0 (⟨#[]⟩ : ByteArray) 0 else none
theorem percent_Decode_1_turned.mono_l : ∀ k s acc i, LeO (percent_Decode_1_turned.l0 k s acc i) (percent_Decode_1_turned.l0 (k + 1) s acc i) := by
  intro k
  induction k with
  | zero => intro s acc i r h; simp [percent_Decode_1_turned.l0] at h
  | succ k ih =>
    intro s acc i
    show LeO (if acc.size ≤ 1000000000 then _ else _) (if acc.size ≤ 1000000000 then _ else _)
    exact LeO.ite (LeO.ite (LeO.ite (LeO.bind (percent_triple.mono _ _) (fun t => LeO.ite (LeO.bind (LeO.refl _) (fun p => LeO.ite (ih _ _ _) (LeO.refl _))) (LeO.refl _))) (ih _ _ _)) (LeO.refl _)) (LeO.refl _)
theorem percent_Decode_1_turned.mono : ∀ a0 k, LeO (percent_Decode_1_turned.f k a0) (percent_Decode_1_turned.f (k + 1) a0) := by
  intro a0 k
  unfold percent_Decode_1_turned.f
  exact LeO.ite (percent_Decode_1_turned.mono_l _ _ _ _) (LeO.refl _)
set_option maxHeartbeats 8000000 in
set_option maxRecDepth 100000 in
theorem percent_Decode_1_turned.calls (k : Nat) (a0 : ByteArray) (r1 : ByteArray) (r2 : Bool) (w : World) (h : percent_Decode_1_turned.f k a0 = some (r1, r2)) :
    Calls Tryd.prog 18 #[.string a0, .func (Fn.func 27) #[] #[]] w fun e w' => e = .returned (.tuple #[.string r1, .bool r2]) ∧ Below w.heap.size w w' := by
  unfold percent_Decode_1_turned.f at h
  split at h
  · rename_i hz
    have HK := Lib.hid h
    clear h
    go_enter Tryd.func18, Tryd.ntmps18
    go_wp2
    go_loopw [7] (fun v W => ∃ (q : Nat) (acc : ByteArray) (i : Nat), v = .int .i64 i ∧ i ≤ a0.size ∧ Hid (percent_Decode_1_turned.l0 q a0 acc i = some (r1, r2)) ∧ Hid (Lib.IsBuilder 49 5 w.heap.size w.heap.size (Lib.byteCells acc.data.toList) W) ∧ Hid (Below w.heap.size w W)) (fun v _ => a0.size - (intOf v).toNat)
    case atStart => exact ⟨k, ⟨#[]⟩, 0, rfl, Nat.zero_le _, HK, Lib.hid (Lib.fresh_isBuilder 49 5 w), Lib.hid ((Below.refl _ _).alloc (Nat.le_refl _) _)⟩
    case round =>
      obtain ⟨q, acc, i, rfl, hi, HQ, HI, HB⟩ := hrel
      clear HK
      cases q with
      | zero => exact absurd HQ.out (by simp [percent_Decode_1_turned.l0])
      | succ q =>
      have hq := HQ.out
      clear HQ
      simp only [percent_Decode_1_turned.l0] at hq
      split at hq
      · rename_i hacc
        have HP := Lib.hid (percent_Decode_1_turned_size acc)
        by_cases hlt : i < a0.size
        · rw [if_pos hlt] at hq
          have hx : ∀ h : i < a0.size, (((a0[i]'h).toNat : Nat) : Int) = bt a0 (i : Int) := fun h => by have := bt_at a0 (i : Int) (by simpa using h); simpa using this
          have hrange := bt_range a0 (i : Int)
          by_cases h37 : bt a0 (i : Int) = 37
          · rw [if_pos h37] at hq
            have e37 : (bt a0 (i : Int) != 37) = false := by simp [h37]
            obtain ⟨⟨c, is⟩, h1, hq⟩ := Option.bind_eq_some_iff.mp hq
            have H1 := Lib.hid h1
            clear h1
            cases is with
            | false =>
              simp only [Bool.false_eq_true, if_false, Option.some.injEq, Prod.mk.injEq] at hq
              obtain ⟨rfl, rfl⟩ := hq
              go_wp2_with (go_at_call 31; (with_reducible refine (percent_triple.calls q (a0.extract i a0.size) c false _ H1.out).mono ?_); rintro e w1 ⟨rfl, hw1⟩)
              go_ret2
              exact ⟨rfl, below_step HB.out hw1⟩
            | true =>
              simp only [if_true] at hq
              obtain ⟨p, h2, hq⟩ := Option.bind_eq_some_iff.mp hq
              have H2 := Lib.hid h2
              clear h2
              split at hq
              · rename_i hp
                have HQ := Lib.hid hq
                clear hq
                go_wp2_with (first
                  | (go_at_call 31; (with_reducible refine (percent_triple.calls q (a0.extract i a0.size) c true _ H1.out).mono ?_); rintro e w1 ⟨rfl, hw1⟩; have HB1 := Lib.hid (below_step HB.out hw1); have HI1 := Lib.hid (percent_Decode_1_turned_below HI.out hw1); clear hw1)
                  | (go_at_call 27; (with_reducible refine (percent_Decode_1.calls c p _ H2.out).mono ?_); rintro e w2 ⟨rfl, hw2⟩; have HB2 := Lib.hid (below_step HB1.out hw2); have HI2 := Lib.hid (percent_Decode_1_turned_below HI1.out hw2); clear hw2)
                  | (go_at_call 32; go_loud (refine (Tryd.Builder_WriteString_b w.heap.size w.heap.size _ p _ HI2.out (by rw [HP.out]; omega) (by have := HB2.out.size; omega)).mono ?_; rintro e w3 ⟨rfl, hb, hbel⟩)))
                refine ⟨⟨q, acc ++ p, i + 3, by go_num, hp.1, HQ, Lib.hid ?_, Lib.hid ?_⟩, by simp [intOf]; omega⟩
                · rw [percent_Decode_1_turned_app]
                  first | exact .inl hb | exact .inr hb
                · exact HB2.out.trans hbel
              · cases hq
          · rw [if_neg h37] at hq
            have e37 : (bt a0 (i : Int) != 37) = true := by simp [h37]
            have HQ := Lib.hid hq
            clear hq
            go_wp2_with (go_at_call 30; go_loud (refine (Tryd.Builder_WriteByte_b w.heap.size w.heap.size _ _ _ HI.out (by rw [HP.out]; omega) (by have := HB.out.size; omega)).mono ?_; rintro e w1 ⟨rfl, hb, hbel⟩))
            refine ⟨⟨q, acc ++ strOfNums [bt a0 (i : Int)], i + 1, by go_num, by omega, HQ, Lib.hid ?_, Lib.hid ?_⟩, by simp [intOf]; omega⟩
            · rw [percent_Decode_1_turned_app, percent_Decode_1_turned_one _ hrange.1 (by omega)]
              first | exact .inl hb | exact .inr hb
            · exact HB.out.trans hbel
        · rw [if_neg hlt] at hq
          simp only [Option.some.injEq, Prod.mk.injEq] at hq
          obtain ⟨rfl, rfl⟩ := hq
          go_wp2_with (go_at_call 33; go_loud (refine (Tryd.Builder_String_any w.heap.size w.heap.size _ _ HI.out (by have := HB.out.size; omega)).mono ?_; rintro e w1 ⟨rfl, hbel⟩))
          go_ret2
          exact ⟨rfl, HB.out.trans hbel⟩
      · cases hq
  · cases h

/-! ### percent_Decode: function 11 -/
def percent_Decode.f (k : Nat) (a0 : ByteArray) : Option (ByteArray × Bool) := (percent_Decode_1_turned.f k a0).bind fun bt204 => (some (bt204.1, bt204.2))
theorem percent_Decode.mono : ∀ a0 k, LeO (percent_Decode.f k a0) (percent_Decode.f (k + 1) a0) := by
  intro a0 k
  unfold percent_Decode.f
  repeat' first
      | (with_reducible exact percent_Decode_1_turned.mono _ _)
      | (with_reducible exact LeO.refl _)
      | (with_reducible exact LeO.none _)
      | (with_reducible refine LeO.ite ?_ ?_)
      | (with_reducible refine LeO.bind ?_ (fun _ => ?_))
      | exact percent_Decode_1_turned.mono _ _
      | exact LeO.none _
      | refine LeO.ite ?_ ?_
      | refine LeO.bind ?_ (fun _ => ?_)
set_option maxHeartbeats 8000000 in
set_option maxRecDepth 100000 in
theorem percent_Decode.calls (k : Nat) (a0 : ByteArray) (r1 : ByteArray) (r2 : Bool) (w : World) (h : percent_Decode.f k a0 = some (r1, r2)) :
    Calls Tryd.prog 11 #[.string a0] w fun e w' => e = .returned (.tuple #[.string r1, .bool r2]) ∧ Below w.heap.size w w' := by
  have HB := Aside0.mk (Below.refl w.heap.size w)
  have H : ((percent_Decode_1_turned.f k a0).bind fun bt204 => (some (bt204.1, bt204.2))) = some (r1, r2) := h
  clear h
  replace H := Option.bind_eq_some_iff.mp H
  obtain ⟨⟨t204, t205⟩, A20, H⟩ := H
  replace H : (some (t204, t205)) = some (r1, r2) := H
  have A2 := Aside0.mk A20
  clear A20
  simp only [Option.some.injEq, Prod.mk.injEq] at H
  obtain ⟨rfl, rfl⟩ := H
  go_enter Tryd.func11, Tryd.ntmps11
  go_wp2_with (first | (go_at_call 18; (with_reducible refine (percent_Decode_1_turned.calls k a0 t204 t205 _ A2.out).mono ?_); rintro e w3 ⟨rfl, hb⟩; have n0_ := Aside0.mk (below_step (by repeat (first | (with_reducible first | exact HB.out | apply below_alloc | apply pw_below_drewN | apply below_drew1) | exact HB.out)) hb); clear HB; have HB := n0_; clear n0_; (try clear hb); (try clear hb2); (try clear hk); (try clear hi)))
  go_ret2
  exact ⟨by first | rfl | (simp [errW_none, errW_some] <;> rfl) | (simp [*, errW_none, errW_some] <;> rfl), by repeat (first | (with_reducible first | exact HB.out | apply below_alloc | apply pw_below_drewN | apply below_drew1) | exact HB.out)⟩

/-! ### parallaxlaw19_known: function 7 -/
def parallaxlaw19_known.j0 : Nat → Bool → Option (Bool)
  | 0, _ => none
  | k + 1, x0 => some x0
def parallaxlaw19_known.f (k : Nat)  : Option (Bool) := (percent_Norm.f k (⟨#[47, 97, 47, 37, 50, 101, 37, 50, 69, 47, 98, 37, 50, 102, 99]⟩ : ByteArray)).bind fun bt206 => ((percent_Norm.f k (⟨#[97]⟩ : ByteArray)).bind fun bt208 => ((percent_Decode.f k (⟨#[37, 52, 49, 98]⟩ : ByteArray)).bind fun bt210 => (if bt206.2 = true then (if bt206.1.toList = ([47, 98, 37, 50, 70, 99] : List UInt8) then (if bt208.2 = true then (parallaxlaw19_known.j0 k false) else ((percent_Segments.f k (⟨#[47, 97, 47, 98]⟩ : ByteArray)).bind fun t212 => (if (t212.length : Int) = 2 then ((percent_Dots.f k (([(⟨#[97]⟩ : ByteArray), (⟨#[46, 46]⟩ : ByteArray)] : List ByteArray))).bind fun t218 => (if (t218.length : Int) = 1 then (if bt210.2 = true then (parallaxlaw19_known.j0 k (bt210.1.toList == ([65, 98] : List UInt8))) else (parallaxlaw19_known.j0 k false)) else (parallaxlaw19_known.j0 k false))) else (parallaxlaw19_known.j0 k false)))) else (parallaxlaw19_known.j0 k false)) else (parallaxlaw19_known.j0 k false))))
theorem parallaxlaw19_known.mono_l : ∀ k, (∀ y0, LeO (parallaxlaw19_known.j0 k y0) (parallaxlaw19_known.j0 (k + 1) y0))
  | 0 => fun _ r h => by simp [parallaxlaw19_known.j0] at h
  | k + 1 => by
    have ih0 := parallaxlaw19_known.mono_l k
    · intro y0
      unfold parallaxlaw19_known.j0
      repeat' first
      | (with_reducible exact ih0 _)
      | (with_reducible exact percent_Decode.mono _ _)
      | (with_reducible exact percent_Dots.mono _ _)
      | (with_reducible exact percent_Norm.mono _ _)
      | (with_reducible exact percent_Segments.mono _ _)
      | (with_reducible exact LeO.refl _)
      | (with_reducible exact LeO.none _)
      | (with_reducible refine LeO.ite ?_ ?_)
      | (with_reducible refine LeO.bind ?_ (fun _ => ?_))
      | exact ih0 _
      | exact percent_Decode.mono _ _
      | exact percent_Dots.mono _ _
      | exact percent_Norm.mono _ _
      | exact percent_Segments.mono _ _
      | exact LeO.none _
      | refine LeO.ite ?_ ?_
      | refine LeO.bind ?_ (fun _ => ?_)
theorem parallaxlaw19_known.mono : ∀ k, LeO (parallaxlaw19_known.f k ) (parallaxlaw19_known.f (k + 1) ) := by
  intro  k
  have ih0 := parallaxlaw19_known.mono_l k
  unfold parallaxlaw19_known.f
  repeat' first
      | (with_reducible exact ih0 _)
      | (with_reducible exact percent_Decode.mono _ _)
      | (with_reducible exact percent_Dots.mono _ _)
      | (with_reducible exact percent_Norm.mono _ _)
      | (with_reducible exact percent_Segments.mono _ _)
      | (with_reducible exact LeO.refl _)
      | (with_reducible exact LeO.none _)
      | (with_reducible refine LeO.ite ?_ ?_)
      | (with_reducible refine LeO.bind ?_ (fun _ => ?_))
      | exact ih0 _
      | exact percent_Decode.mono _ _
      | exact percent_Dots.mono _ _
      | exact percent_Norm.mono _ _
      | exact percent_Segments.mono _ _
      | exact LeO.none _
      | refine LeO.ite ?_ ?_
      | refine LeO.bind ?_ (fun _ => ?_)
set_option maxHeartbeats 8000000 in
set_option maxRecDepth 100000 in
theorem parallaxlaw19_known.calls (k : Nat)  (r : Bool) (w : World) (hT : r = true) (h : parallaxlaw19_known.f k  = some r) :
    Calls Tryd.prog 7 #[] w fun e w' => e = .returned (.bool r) ∧ Below w.heap.size w w' := by
  have HT := Aside0.mk hT
  clear hT
  have HB := Aside0.mk (Below.refl w.heap.size w)
  have H : ((percent_Norm.f k (⟨#[47, 97, 47, 37, 50, 101, 37, 50, 69, 47, 98, 37, 50, 102, 99]⟩ : ByteArray)).bind fun bt206 => ((percent_Norm.f k (⟨#[97]⟩ : ByteArray)).bind fun bt208 => ((percent_Decode.f k (⟨#[37, 52, 49, 98]⟩ : ByteArray)).bind fun bt210 => (if bt206.2 = true then (if bt206.1.toList = ([47, 98, 37, 50, 70, 99] : List UInt8) then (if bt208.2 = true then (parallaxlaw19_known.j0 k false) else ((percent_Segments.f k (⟨#[47, 97, 47, 98]⟩ : ByteArray)).bind fun t212 => (if (t212.length : Int) = 2 then ((percent_Dots.f k (([(⟨#[97]⟩ : ByteArray), (⟨#[46, 46]⟩ : ByteArray)] : List ByteArray))).bind fun t218 => (if (t218.length : Int) = 1 then (if bt210.2 = true then (parallaxlaw19_known.j0 k (bt210.1.toList == ([65, 98] : List UInt8))) else (parallaxlaw19_known.j0 k false)) else (parallaxlaw19_known.j0 k false))) else (parallaxlaw19_known.j0 k false)))) else (parallaxlaw19_known.j0 k false)) else (parallaxlaw19_known.j0 k false))))) = some r := h
  clear h
  replace H := Option.bind_eq_some_iff.mp H
  obtain ⟨⟨t206, t207⟩, A10, H⟩ := H
  (try dsimp only at H)
  have A1 := Aside0.mk A10
  clear A10
  replace H := Option.bind_eq_some_iff.mp H
  obtain ⟨⟨t208, t209⟩, A20, H⟩ := H
  (try dsimp only at H)
  have A2 := Aside0.mk A20
  clear A20
  replace H := Option.bind_eq_some_iff.mp H
  obtain ⟨⟨t210, t211⟩, A30, H⟩ := H
  (try dsimp only at H)
  have A3 := Aside0.mk A30
  clear A30
  have HC4 := Aside0.mk H
  clear H
  go_enter Tryd.func7, Tryd.ntmps7
  go_upto_region 4 with (first | ((with_reducible refine gate_callee (f := 9) rfl ?_); refine goesL_ (some 8) rfl rfl Tryd.func9 (by kernel_rfl) rfl #[.string (⟨#[47, 97, 47, 37, 50, 101, 37, 50, 69, 47, 98, 37, 50, 102, 99]⟩ : ByteArray)] rfl (by (try simp only [List.map_toArray, List.map_cons, List.map_nil]); first | done | rfl | (simp only [List.length_drop, List.length_take]; rfl)) ?_; (with_reducible refine (percent_Norm.calls k (⟨#[47, 97, 47, 37, 50, 101, 37, 50, 69, 47, 98, 37, 50, 102, 99]⟩ : ByteArray) t206 t207 _ A1.out).mono ?_); rintro e w5 ⟨rfl, hb⟩; refine ⟨_, rfl, ?_⟩; have n0_ := Aside0.mk (below_step (by repeat (first | (with_reducible first | exact HB.out | apply below_alloc | apply pw_below_drewN | apply below_drew1) | exact HB.out)) hb); clear HB; have HB := n0_; clear n0_; (try clear hb); (try clear hb2); (try clear hk); (try clear hi)) | ((with_reducible refine gate_callee (f := 9) rfl ?_); refine goesL_ (some 12) rfl rfl Tryd.func9 (by kernel_rfl) rfl #[.string (⟨#[97]⟩ : ByteArray)] rfl (by (try simp only [List.map_toArray, List.map_cons, List.map_nil]); first | done | rfl | (simp only [List.length_drop, List.length_take]; rfl)) ?_; (with_reducible refine (percent_Norm.calls k (⟨#[97]⟩ : ByteArray) t208 t209 _ A2.out).mono ?_); rintro e w6 ⟨rfl, hb⟩; refine ⟨_, rfl, ?_⟩; have n0_ := Aside0.mk (below_step (by repeat (first | (with_reducible first | exact HB.out | apply below_alloc | apply pw_below_drewN | apply below_drew1) | exact HB.out)) hb); clear HB; have HB := n0_; clear n0_; (try clear hb); (try clear hb2); (try clear hk); (try clear hi)) | ((with_reducible refine gate_callee (f := 11) rfl ?_); refine goesL_ (some 16) rfl rfl Tryd.func11 (by kernel_rfl) rfl #[.string (⟨#[37, 52, 49, 98]⟩ : ByteArray)] rfl (by (try simp only [List.map_toArray, List.map_cons, List.map_nil]); first | done | rfl | (simp only [List.length_drop, List.length_take]; rfl)) ?_; (with_reducible refine (percent_Decode.calls k (⟨#[37, 52, 49, 98]⟩ : ByteArray) t210 t211 _ A3.out).mono ?_); rintro e w7 ⟨rfl, hb⟩; refine ⟨_, rfl, ?_⟩; have n0_ := Aside0.mk (below_step (by repeat (first | (with_reducible first | exact HB.out | apply below_alloc | apply pw_below_drewN | apply below_drew1) | exact HB.out)) hb); clear HB; have HB := n0_; clear n0_; (try clear hb); (try clear hb2); (try clear hk); (try clear hi)))
  (try simp only [Act.put, List.setIfInBounds_toArray, List.set_cons_zero, List.set_cons_succ])
  go_cut [0] (fun v0 wc => ∃ (kq : Nat) (x0_3 : Bool), v0 = .bool x0_3 ∧ Aside0 (parallaxlaw19_known.j0 kq x0_3 = some r) ∧ Aside0 (kq ≤ k) ∧ Aside0 (Below w.heap.size w wc))
  case first =>
    have H := HC4.out
    clear HC4
    by_cases c8 : t207 = true
    · subst c8
      rw [if_pos rfl] at H
      by_cases c9 : t206.toList = ([47, 98, 37, 50, 70, 99] : List UInt8)
      · rw [if_pos c9] at H
        have c9b0 : (t206.toList == ([47, 98, 37, 50, 70, 99] : List UInt8)) = true := beq_iff_eq.mpr c9
        have c9b1 : (t206.toList != ([47, 98, 37, 50, 70, 99] : List UInt8)) = false := bne_eq_false_iff_eq.mpr c9
        clear c9
        (first | rw [c9b0] | (simp only [i64_w, i32_w]; rw [c9b0]) | skip)
        by_cases c10 : t209 = true
        · subst c10
          rw [if_pos rfl] at H
          have H' := Aside0.mk H
          clear H
          go_wp2
          (try any_goals (exfalso; have h_ := ‹some undef = some (Value.bool _)›; revert h_; simp [undef]; done))
          go_meet
          case rel => exact ⟨_, (false), (by first | rfl | (simp; done) | (simp [*]; done)), H', ⟨by first | omega | exact Nat.le_refl _⟩, ⟨by repeat (first | (with_reducible first | exact HB.out | apply below_alloc | apply pw_below_drewN | apply below_drew1) | exact HB.out)⟩⟩
        · replace c10 := Bool.eq_false_iff.mpr c10
          subst c10
          rw [if_neg (show ¬ (false = true) by decide)] at H
          replace H := Option.bind_eq_some_iff.mp H
          obtain ⟨t212, A110, H⟩ := H
          (try dsimp only at H)
          have A11 := Aside0.mk A110
          clear A110
          by_cases c12 : (t212.length : Int) = 2
          · rw [if_pos c12] at H
            have c12b0 : ((t212.length : Int) == 2) = true := beq_iff_eq.mpr c12
            have c12b1 : ((t212.length : Int) != 2) = false := bne_eq_false_iff_eq.mpr c12
            clear c12
            obtain ⟨y215, hy215⟩ : ∃ y_ : List ByteArray, y_ = (([(⟨#[97]⟩ : ByteArray), (⟨#[46, 46]⟩ : ByteArray)] : List ByteArray)) := ⟨_, rfl⟩
            replace H : ((percent_Dots.f k y215).bind fun t218 => (if (t218.length : Int) = 1 then (if t211 = true then (parallaxlaw19_known.j0 k (t210.toList == ([65, 98] : List UInt8))) else (parallaxlaw19_known.j0 k false)) else (parallaxlaw19_known.j0 k false))) = some r := by first | (rw [hy215]; with_reducible exact H) | (have H2_ := (Option.bind_some _ _).symm.trans H; rw [hy215]; with_reducible exact H2_) | (have H2_ := (Option.bind_some _ _).symm.trans H; with_reducible exact H2_) | with_reducible exact H | (rw [hy215]; exact H) | exact H
            have Ny215 := Aside0.mk hy215
            clear hy215
            replace H := Option.bind_eq_some_iff.mp H
            obtain ⟨t218, A130, H⟩ := H
            (try dsimp only at H)
            have A13 := Aside0.mk A130
            clear A130
            by_cases c14 : (t218.length : Int) = 1
            · rw [if_pos c14] at H
              have c14b0 : ((t218.length : Int) == 1) = true := beq_iff_eq.mpr c14
              have c14b1 : ((t218.length : Int) != 1) = false := bne_eq_false_iff_eq.mpr c14
              clear c14
              by_cases c15 : t211 = true
              · subst c15
                rw [if_pos rfl] at H
                have H' := Aside0.mk H
                clear H
                go_wp2_with (first | (go_at_call 14; (with_reducible refine (percent_Segments.calls k (⟨#[47, 97, 47, 98]⟩ : ByteArray) t212 _ A11.out).mono ?_); rintro e w16 ⟨v213, rfl, ho0, hb⟩; have n0_ := Aside0.mk (Kd.R_lower ho0 (below_size (by repeat (first | (with_reducible first | exact HB.out | apply below_alloc | apply pw_below_drewN | apply below_drew1) | exact HB.out)))); have n1_ := Aside0.mk (below_step (by repeat (first | (with_reducible first | exact HB.out | apply below_alloc | apply pw_below_drewN | apply below_drew1) | exact HB.out)) hb); clear HB; have HO214 := n0_; have HB := n1_; clear n0_ n1_; (try clear hb); (try clear hb2); (try clear hk); (try clear hi); (try clear ho0); obtain ⟨Ao17, co17, eo17⟩ := Kd.R_slice HO214.out; subst eo17) | ((with_reducible refine gate_dst (N := 34) rfl ?_); (try (refine gate_guard (by rfl) ?_; dsimp only)); refine Kd.R_lit Kd.string _ 9 ?hg (N := 34) ?hd (xs := ([(⟨#[97]⟩ : ByteArray), (⟨#[46, 46]⟩ : ByteArray)] : List ByteArray)) (inner := [.string (⟨#[97]⟩ : ByteArray), .string (⟨#[46, 46]⟩ : ByteArray)]) (ok := fun _ => True) (okp := fun _ => True) ?hr ?hp (fun _ hk => hk) trivial (Below.refl _ _) (Nat.le_refl _) (by simp) ?_; (case hd => rfl); (case hg => rfl); (case hr => first | (go_simp; done) | (go_simp; rfl)); (case hp => exact (Reps.one (show Kd.M Kd.string _ _ _ (⟨#[97]⟩ : ByteArray) [.string (⟨#[97]⟩ : ByteArray)] from rfl) (Reps.one (show Kd.M Kd.string _ _ _ (⟨#[46, 46]⟩ : ByteArray) [.string (⟨#[46, 46]⟩ : ByteArray)] from rfl) (Reps.none _ _)))); intro v216 w18 ho19 hb hg_ hnew_; clear hg_ hnew_; (first | rw [← Ny215.out] at ho19 | (simp only [Int.reduceToNat] at ho19; rw [← Ny215.out] at ho19)); have n0_ := Aside0.mk (Kd.R_elder' (by (with_reducible repeat (first | apply Kd.R_alloc | apply Kd.R_drewN | apply Kd.R_drew)); exact HO214.out) (Kd.R_base ho19) hb); have n1_ := Aside0.mk (Kd.R_lower (Kd.R_new' ho19 (Kd.R_lt (by (with_reducible repeat (first | apply Kd.R_alloc | apply Kd.R_drewN | apply Kd.R_drew)); exact HO214.out))) (below_size (by repeat (first | (with_reducible first | exact HB.out | apply below_alloc | apply pw_below_drewN | apply below_drew1) | exact HB.out)))); have n2_ := Aside0.mk (below_step (by repeat (first | (with_reducible first | exact HB.out | apply below_alloc | apply pw_below_drewN | apply below_drew1) | exact HB.out)) hb); clear HO214; clear HB; have HO214 := n0_; have HO217 := n1_; have HB := n2_; clear n0_ n1_ n2_; clear hb ho19; obtain ⟨Ao20, co20, eo20⟩ := Kd.R_slice HO217.out; subst eo20) | (go_at_call 16; (with_reducible refine (percent_Dots.calls k _ _ y215 t218 _ ?side1 ?side2 A13.out).mono ?_); (case side1 => repeat (first | exact (Kd.R_reads' HO217.out).2.2 | (with_reducible refine Kd.C_alloc ?_ _) | (with_reducible refine Kd.C_drewN ?_ _) | (with_reducible refine Kd.C_drew ?_))); (case side2 => exact (Kd.R_reads' HO217.out).2.1); rintro e w21 ⟨v219, rfl, ho0, hb⟩; have n0_ := Aside0.mk (Kd.R_elder' (by (with_reducible repeat (first | apply Kd.R_alloc | apply Kd.R_drewN | apply Kd.R_drew)); exact HO214.out) (Kd.R_base ho0) hb); have n1_ := Aside0.mk (Kd.R_elder' (by (with_reducible repeat (first | apply Kd.R_alloc | apply Kd.R_drewN | apply Kd.R_drew)); exact HO217.out) (Kd.R_base ho0) hb); have n2_ := Aside0.mk (Kd.R_lower (Kd.R_new' (Kd.R_new' ho0 (Kd.R_lt (by (with_reducible repeat (first | apply Kd.R_alloc | apply Kd.R_drewN | apply Kd.R_drew)); exact HO214.out))) (Kd.R_lt (by (with_reducible repeat (first | apply Kd.R_alloc | apply Kd.R_drewN | apply Kd.R_drew)); exact HO217.out))) (below_size (by repeat (first | (with_reducible first | exact HB.out | apply below_alloc | apply pw_below_drewN | apply below_drew1) | exact HB.out)))); have n3_ := Aside0.mk (below_step (by repeat (first | (with_reducible first | exact HB.out | apply below_alloc | apply pw_below_drewN | apply below_drew1) | exact HB.out)) hb); clear HO214; clear HO217; clear HB; have HO214 := n0_; have HO217 := n1_; have HO220 := n2_; have HB := n3_; clear n0_ n1_ n2_ n3_; (try clear hb); (try clear hb2); (try clear hk); (try clear hi); (try clear ho0); obtain ⟨Ao22, co22, eo22⟩ := Kd.R_slice HO220.out; subst eo22))
                (try any_goals (exfalso; have h_ := ‹some undef = some (Value.bool _)›; revert h_; simp [undef]; done))
                go_meet
                case rel => exact ⟨_, ((t210.toList == ([65, 98] : List UInt8))), (by first | rfl | (simp; done) | (simp [*]; done)), H', ⟨by first | omega | exact Nat.le_refl _⟩, ⟨by repeat (first | (with_reducible first | exact HB.out | apply below_alloc | apply pw_below_drewN | apply below_drew1) | exact HB.out)⟩⟩
              · replace c15 := Bool.eq_false_iff.mpr c15
                subst c15
                rw [if_neg (show ¬ (false = true) by decide)] at H
                have H' := Aside0.mk H
                clear H
                go_wp2_with (first | (go_at_call 14; (with_reducible refine (percent_Segments.calls k (⟨#[47, 97, 47, 98]⟩ : ByteArray) t212 _ A11.out).mono ?_); rintro e w23 ⟨v213, rfl, ho0, hb⟩; have n0_ := Aside0.mk (Kd.R_lower ho0 (below_size (by repeat (first | (with_reducible first | exact HB.out | apply below_alloc | apply pw_below_drewN | apply below_drew1) | exact HB.out)))); have n1_ := Aside0.mk (below_step (by repeat (first | (with_reducible first | exact HB.out | apply below_alloc | apply pw_below_drewN | apply below_drew1) | exact HB.out)) hb); clear HB; have HO214 := n0_; have HB := n1_; clear n0_ n1_; (try clear hb); (try clear hb2); (try clear hk); (try clear hi); (try clear ho0); obtain ⟨Ao24, co24, eo24⟩ := Kd.R_slice HO214.out; subst eo24) | ((with_reducible refine gate_dst (N := 34) rfl ?_); (try (refine gate_guard (by rfl) ?_; dsimp only)); refine Kd.R_lit Kd.string _ 9 ?hg (N := 34) ?hd (xs := ([(⟨#[97]⟩ : ByteArray), (⟨#[46, 46]⟩ : ByteArray)] : List ByteArray)) (inner := [.string (⟨#[97]⟩ : ByteArray), .string (⟨#[46, 46]⟩ : ByteArray)]) (ok := fun _ => True) (okp := fun _ => True) ?hr ?hp (fun _ hk => hk) trivial (Below.refl _ _) (Nat.le_refl _) (by simp) ?_; (case hd => rfl); (case hg => rfl); (case hr => first | (go_simp; done) | (go_simp; rfl)); (case hp => exact (Reps.one (show Kd.M Kd.string _ _ _ (⟨#[97]⟩ : ByteArray) [.string (⟨#[97]⟩ : ByteArray)] from rfl) (Reps.one (show Kd.M Kd.string _ _ _ (⟨#[46, 46]⟩ : ByteArray) [.string (⟨#[46, 46]⟩ : ByteArray)] from rfl) (Reps.none _ _)))); intro v216 w25 ho26 hb hg_ hnew_; clear hg_ hnew_; (first | rw [← Ny215.out] at ho26 | (simp only [Int.reduceToNat] at ho26; rw [← Ny215.out] at ho26)); have n0_ := Aside0.mk (Kd.R_elder' (by (with_reducible repeat (first | apply Kd.R_alloc | apply Kd.R_drewN | apply Kd.R_drew)); exact HO214.out) (Kd.R_base ho26) hb); have n1_ := Aside0.mk (Kd.R_lower (Kd.R_new' ho26 (Kd.R_lt (by (with_reducible repeat (first | apply Kd.R_alloc | apply Kd.R_drewN | apply Kd.R_drew)); exact HO214.out))) (below_size (by repeat (first | (with_reducible first | exact HB.out | apply below_alloc | apply pw_below_drewN | apply below_drew1) | exact HB.out)))); have n2_ := Aside0.mk (below_step (by repeat (first | (with_reducible first | exact HB.out | apply below_alloc | apply pw_below_drewN | apply below_drew1) | exact HB.out)) hb); clear HO214; clear HB; have HO214 := n0_; have HO217 := n1_; have HB := n2_; clear n0_ n1_ n2_; clear hb ho26; obtain ⟨Ao27, co27, eo27⟩ := Kd.R_slice HO217.out; subst eo27) | (go_at_call 16; (with_reducible refine (percent_Dots.calls k _ _ y215 t218 _ ?side1 ?side2 A13.out).mono ?_); (case side1 => repeat (first | exact (Kd.R_reads' HO217.out).2.2 | (with_reducible refine Kd.C_alloc ?_ _) | (with_reducible refine Kd.C_drewN ?_ _) | (with_reducible refine Kd.C_drew ?_))); (case side2 => exact (Kd.R_reads' HO217.out).2.1); rintro e w28 ⟨v219, rfl, ho0, hb⟩; have n0_ := Aside0.mk (Kd.R_elder' (by (with_reducible repeat (first | apply Kd.R_alloc | apply Kd.R_drewN | apply Kd.R_drew)); exact HO214.out) (Kd.R_base ho0) hb); have n1_ := Aside0.mk (Kd.R_elder' (by (with_reducible repeat (first | apply Kd.R_alloc | apply Kd.R_drewN | apply Kd.R_drew)); exact HO217.out) (Kd.R_base ho0) hb); have n2_ := Aside0.mk (Kd.R_lower (Kd.R_new' (Kd.R_new' ho0 (Kd.R_lt (by (with_reducible repeat (first | apply Kd.R_alloc | apply Kd.R_drewN | apply Kd.R_drew)); exact HO214.out))) (Kd.R_lt (by (with_reducible repeat (first | apply Kd.R_alloc | apply Kd.R_drewN | apply Kd.R_drew)); exact HO217.out))) (below_size (by repeat (first | (with_reducible first | exact HB.out | apply below_alloc | apply pw_below_drewN | apply below_drew1) | exact HB.out)))); have n3_ := Aside0.mk (below_step (by repeat (first | (with_reducible first | exact HB.out | apply below_alloc | apply pw_below_drewN | apply below_drew1) | exact HB.out)) hb); clear HO214; clear HO217; clear HB; have HO214 := n0_; have HO217 := n1_; have HO220 := n2_; have HB := n3_; clear n0_ n1_ n2_ n3_; (try clear hb); (try clear hb2); (try clear hk); (try clear hi); (try clear ho0); obtain ⟨Ao29, co29, eo29⟩ := Kd.R_slice HO220.out; subst eo29))
                (try any_goals (exfalso; have h_ := ‹some undef = some (Value.bool _)›; revert h_; simp [undef]; done))
                go_meet
                case rel => exact ⟨_, (false), (by first | rfl | (simp; done) | (simp [*]; done)), H', ⟨by first | omega | exact Nat.le_refl _⟩, ⟨by repeat (first | (with_reducible first | exact HB.out | apply below_alloc | apply pw_below_drewN | apply below_drew1) | exact HB.out)⟩⟩
            · rw [if_neg c14] at H
              have c14b0 : ((t218.length : Int) == 1) = false := beq_eq_false_iff_ne.mpr c14
              have c14b1 : ((t218.length : Int) != 1) = true := bne_iff_ne.mpr c14
              have H' := Aside0.mk H
              clear H
              go_wp2_with (first | (go_at_call 14; (with_reducible refine (percent_Segments.calls k (⟨#[47, 97, 47, 98]⟩ : ByteArray) t212 _ A11.out).mono ?_); rintro e w30 ⟨v213, rfl, ho0, hb⟩; have n0_ := Aside0.mk (Kd.R_lower ho0 (below_size (by repeat (first | (with_reducible first | exact HB.out | apply below_alloc | apply pw_below_drewN | apply below_drew1) | exact HB.out)))); have n1_ := Aside0.mk (below_step (by repeat (first | (with_reducible first | exact HB.out | apply below_alloc | apply pw_below_drewN | apply below_drew1) | exact HB.out)) hb); clear HB; have HO214 := n0_; have HB := n1_; clear n0_ n1_; (try clear hb); (try clear hb2); (try clear hk); (try clear hi); (try clear ho0); obtain ⟨Ao31, co31, eo31⟩ := Kd.R_slice HO214.out; subst eo31) | ((with_reducible refine gate_dst (N := 34) rfl ?_); (try (refine gate_guard (by rfl) ?_; dsimp only)); refine Kd.R_lit Kd.string _ 9 ?hg (N := 34) ?hd (xs := ([(⟨#[97]⟩ : ByteArray), (⟨#[46, 46]⟩ : ByteArray)] : List ByteArray)) (inner := [.string (⟨#[97]⟩ : ByteArray), .string (⟨#[46, 46]⟩ : ByteArray)]) (ok := fun _ => True) (okp := fun _ => True) ?hr ?hp (fun _ hk => hk) trivial (Below.refl _ _) (Nat.le_refl _) (by simp) ?_; (case hd => rfl); (case hg => rfl); (case hr => first | (go_simp; done) | (go_simp; rfl)); (case hp => exact (Reps.one (show Kd.M Kd.string _ _ _ (⟨#[97]⟩ : ByteArray) [.string (⟨#[97]⟩ : ByteArray)] from rfl) (Reps.one (show Kd.M Kd.string _ _ _ (⟨#[46, 46]⟩ : ByteArray) [.string (⟨#[46, 46]⟩ : ByteArray)] from rfl) (Reps.none _ _)))); intro v216 w32 ho33 hb hg_ hnew_; clear hg_ hnew_; (first | rw [← Ny215.out] at ho33 | (simp only [Int.reduceToNat] at ho33; rw [← Ny215.out] at ho33)); have n0_ := Aside0.mk (Kd.R_elder' (by (with_reducible repeat (first | apply Kd.R_alloc | apply Kd.R_drewN | apply Kd.R_drew)); exact HO214.out) (Kd.R_base ho33) hb); have n1_ := Aside0.mk (Kd.R_lower (Kd.R_new' ho33 (Kd.R_lt (by (with_reducible repeat (first | apply Kd.R_alloc | apply Kd.R_drewN | apply Kd.R_drew)); exact HO214.out))) (below_size (by repeat (first | (with_reducible first | exact HB.out | apply below_alloc | apply pw_below_drewN | apply below_drew1) | exact HB.out)))); have n2_ := Aside0.mk (below_step (by repeat (first | (with_reducible first | exact HB.out | apply below_alloc | apply pw_below_drewN | apply below_drew1) | exact HB.out)) hb); clear HO214; clear HB; have HO214 := n0_; have HO217 := n1_; have HB := n2_; clear n0_ n1_ n2_; clear hb ho33; obtain ⟨Ao34, co34, eo34⟩ := Kd.R_slice HO217.out; subst eo34) | (go_at_call 16; (with_reducible refine (percent_Dots.calls k _ _ y215 t218 _ ?side1 ?side2 A13.out).mono ?_); (case side1 => repeat (first | exact (Kd.R_reads' HO217.out).2.2 | (with_reducible refine Kd.C_alloc ?_ _) | (with_reducible refine Kd.C_drewN ?_ _) | (with_reducible refine Kd.C_drew ?_))); (case side2 => exact (Kd.R_reads' HO217.out).2.1); rintro e w35 ⟨v219, rfl, ho0, hb⟩; have n0_ := Aside0.mk (Kd.R_elder' (by (with_reducible repeat (first | apply Kd.R_alloc | apply Kd.R_drewN | apply Kd.R_drew)); exact HO214.out) (Kd.R_base ho0) hb); have n1_ := Aside0.mk (Kd.R_elder' (by (with_reducible repeat (first | apply Kd.R_alloc | apply Kd.R_drewN | apply Kd.R_drew)); exact HO217.out) (Kd.R_base ho0) hb); have n2_ := Aside0.mk (Kd.R_lower (Kd.R_new' (Kd.R_new' ho0 (Kd.R_lt (by (with_reducible repeat (first | apply Kd.R_alloc | apply Kd.R_drewN | apply Kd.R_drew)); exact HO214.out))) (Kd.R_lt (by (with_reducible repeat (first | apply Kd.R_alloc | apply Kd.R_drewN | apply Kd.R_drew)); exact HO217.out))) (below_size (by repeat (first | (with_reducible first | exact HB.out | apply below_alloc | apply pw_below_drewN | apply below_drew1) | exact HB.out)))); have n3_ := Aside0.mk (below_step (by repeat (first | (with_reducible first | exact HB.out | apply below_alloc | apply pw_below_drewN | apply below_drew1) | exact HB.out)) hb); clear HO214; clear HO217; clear HB; have HO214 := n0_; have HO217 := n1_; have HO220 := n2_; have HB := n3_; clear n0_ n1_ n2_ n3_; (try clear hb); (try clear hb2); (try clear hk); (try clear hi); (try clear ho0); obtain ⟨Ao36, co36, eo36⟩ := Kd.R_slice HO220.out; subst eo36))
              (try any_goals (exfalso; have h_ := ‹some undef = some (Value.bool _)›; revert h_; simp [undef]; done))
              go_meet
              case rel => exact ⟨_, (false), (by first | rfl | (simp; done) | (simp [*]; done)), H', ⟨by first | omega | exact Nat.le_refl _⟩, ⟨by repeat (first | (with_reducible first | exact HB.out | apply below_alloc | apply pw_below_drewN | apply below_drew1) | exact HB.out)⟩⟩
          · rw [if_neg c12] at H
            have c12b0 : ((t212.length : Int) == 2) = false := beq_eq_false_iff_ne.mpr c12
            have c12b1 : ((t212.length : Int) != 2) = true := bne_iff_ne.mpr c12
            have H' := Aside0.mk H
            clear H
            go_wp2_with (first | (go_at_call 14; (with_reducible refine (percent_Segments.calls k (⟨#[47, 97, 47, 98]⟩ : ByteArray) t212 _ A11.out).mono ?_); rintro e w37 ⟨v213, rfl, ho0, hb⟩; have n0_ := Aside0.mk (Kd.R_lower ho0 (below_size (by repeat (first | (with_reducible first | exact HB.out | apply below_alloc | apply pw_below_drewN | apply below_drew1) | exact HB.out)))); have n1_ := Aside0.mk (below_step (by repeat (first | (with_reducible first | exact HB.out | apply below_alloc | apply pw_below_drewN | apply below_drew1) | exact HB.out)) hb); clear HB; have HO214 := n0_; have HB := n1_; clear n0_ n1_; (try clear hb); (try clear hb2); (try clear hk); (try clear hi); (try clear ho0); obtain ⟨Ao38, co38, eo38⟩ := Kd.R_slice HO214.out; subst eo38))
            (try any_goals (exfalso; have h_ := ‹some undef = some (Value.bool _)›; revert h_; simp [undef]; done))
            go_meet
            case rel => exact ⟨_, (false), (by first | rfl | (simp; done) | (simp [*]; done)), H', ⟨by first | omega | exact Nat.le_refl _⟩, ⟨by repeat (first | (with_reducible first | exact HB.out | apply below_alloc | apply pw_below_drewN | apply below_drew1) | exact HB.out)⟩⟩
      · rw [if_neg c9] at H
        have c9b0 : (t206.toList == ([47, 98, 37, 50, 70, 99] : List UInt8)) = false := beq_eq_false_iff_ne.mpr c9
        have c9b1 : (t206.toList != ([47, 98, 37, 50, 70, 99] : List UInt8)) = true := bne_iff_ne.mpr c9
        (first | rw [c9b0] | (simp only [i64_w, i32_w]; rw [c9b0]) | skip)
        have H' := Aside0.mk H
        clear H
        go_wp2
        (try any_goals (exfalso; have h_ := ‹some undef = some (Value.bool _)›; revert h_; simp [undef]; done))
        go_meet
        case rel => exact ⟨_, (false), (by first | rfl | (simp; done) | (simp [*]; done)), H', ⟨by first | omega | exact Nat.le_refl _⟩, ⟨by repeat (first | (with_reducible first | exact HB.out | apply below_alloc | apply pw_below_drewN | apply below_drew1) | exact HB.out)⟩⟩
    · replace c8 := Bool.eq_false_iff.mpr c8
      subst c8
      rw [if_neg (show ¬ (false = true) by decide)] at H
      have H' := Aside0.mk H
      clear H
      go_wp2
      (try any_goals (exfalso; have h_ := ‹some undef = some (Value.bool _)›; revert h_; simp [undef]; done))
      go_meet
      case rel => exact ⟨_, (false), (by first | rfl | (simp; done) | (simp [*]; done)), H', ⟨by first | omega | exact Nat.le_refl _⟩, ⟨by repeat (first | (with_reducible first | exact HB.out | apply below_alloc | apply pw_below_drewN | apply below_drew1) | exact HB.out)⟩⟩
  case rest =>
    clear HC4
    try clear c1
    try clear p2
    try clear c7
    try clear c8
    try clear c9
    try clear c9b0
    try clear c9b1
    try clear c10
    try clear c11
    try clear c12
    try clear c12b0
    try clear c12b1
    try clear c14
    try clear c14b0
    try clear c14b1
    try clear c15
    obtain ⟨kq, x0_3, rfl, HA, HJ3, HB⟩ := hcut
    cases kq with
    | zero => exact absurd HA.out (by simp [parallaxlaw19_known.j0])
    | succ kj3 =>
      have H := HA.out
      clear HA
      simp only [parallaxlaw19_known.j0] at H
      obtain rfl := Option.some.inj H
      go_wp2
      (try any_goals (exfalso; have h_ := ‹some undef = some (Value.bool _)›; revert h_; simp [undef]; done))
      go_ret
      exact ⟨by first | rfl | (simp [errW_none, errW_some] <;> rfl) | (simp [*, errW_none, errW_some] <;> rfl), by repeat (first | (with_reducible first | exact HB.out | apply below_alloc | apply pw_below_drewN | apply below_drew1) | exact HB.out)⟩

/-! ### parallaxseat_Path: function 8 -/
def parallaxseat_Path.l0 : Nat → List Int → List ByteArray → ByteArray → Int → Option (ByteArray)
  | 0, _, _, _, _ => none
  | k + 1, x0, x3, x4, x5 => if x5 < (x0.length : Int) then (if x5 < 6 then (if x4.size + 1 ≤ 9223372036854775807 then (if 0 ≤ x5 then (if 0 ≤ (Int.tmod (rd x0 x5) 16) then (if (Int.tmod (rd x0 x5) 16) < (x3.length : Int) then (if (x4 ++ (⟨#[47]⟩ : ByteArray)).size + (rdOf ByteArray.empty x3 (Int.tmod (rd x0 x5) 16)).size ≤ 9223372036854775807 then (parallaxseat_Path.l0 k x0 x3 ((x4 ++ (⟨#[47]⟩ : ByteArray)) ++ (rdOf ByteArray.empty x3 (Int.tmod (rd x0 x5) 16))) (wrap64 (x5 + 1))) else (none)) else (none)) else (none)) else (none)) else (none)) else (some x4)) else (some x4)
def parallaxseat_Path.f (k : Nat) (l0 : List Int) : Option (ByteArray) := parallaxseat_Path.l0 k l0 (([(⟨#[97]⟩ : ByteArray), (⟨#[98]⟩ : ByteArray), (⟨#[118, 49]⟩ : ByteArray), (⟨#[105, 116, 101, 109]⟩ : ByteArray), (⟨#[55]⟩ : ByteArray), (⟨#[115, 116, 97, 116, 105, 99]⟩ : ByteArray), (⟨#[99, 115, 115]⟩ : ByteArray), (⟨#[]⟩ : ByteArray), (⟨#[46, 46]⟩ : ByteArray), (⟨#[46]⟩ : ByteArray), (⟨#[37, 50, 101, 37, 50, 69]⟩ : ByteArray), (⟨#[37, 52, 49]⟩ : ByteArray), (⟨#[37, 50, 102]⟩ : ByteArray), (⟨#[120]⟩ : ByteArray), (⟨#[37, 122, 122]⟩ : ByteArray), (⟨#[37, 67, 51, 37, 97, 57]⟩ : ByteArray)] : List ByteArray)) (⟨#[]⟩ : ByteArray) 0
theorem parallaxseat_Path.mono_l : ∀ k, (∀ y0 y1 y2 y3, LeO (parallaxseat_Path.l0 k y0 y1 y2 y3) (parallaxseat_Path.l0 (k + 1) y0 y1 y2 y3))
  | 0 => fun _ _ _ _ r h => by simp [parallaxseat_Path.l0] at h
  | k + 1 => by
    have ih0 := parallaxseat_Path.mono_l k
    · intro y0 y1 y2 y3
      unfold parallaxseat_Path.l0
      repeat' first
      | (with_reducible exact ih0 _ _ _ _)
      | (with_reducible exact LeO.refl _)
      | (with_reducible exact LeO.none _)
      | (with_reducible refine LeO.ite ?_ ?_)
      | (with_reducible refine LeO.bind ?_ (fun _ => ?_))
      | exact ih0 _ _ _ _
      | exact LeO.none _
      | refine LeO.ite ?_ ?_
      | refine LeO.bind ?_ (fun _ => ?_)
theorem parallaxseat_Path.mono : ∀ a0 k, LeO (parallaxseat_Path.f k a0) (parallaxseat_Path.f (k + 1) a0) := by
  intro a0 k
  have ih0 := parallaxseat_Path.mono_l k
  unfold parallaxseat_Path.f
  repeat' first
      | (with_reducible exact ih0 _ _ _ _)
      | (with_reducible exact LeO.refl _)
      | (with_reducible exact LeO.none _)
      | (with_reducible refine LeO.ite ?_ ?_)
      | (with_reducible refine LeO.bind ?_ (fun _ => ?_))
      | exact ih0 _ _ _ _
      | exact LeO.none _
      | refine LeO.ite ?_ ?_
      | refine LeO.bind ?_ (fun _ => ?_)
set_option maxHeartbeats 8000000 in
set_option maxRecDepth 100000 in
theorem parallaxseat_Path.calls (k : Nat) (A0 : Option Addr) (c0 : Nat) (l0 : List Int) (r : ByteArray) (w : World) (hr0 : Kd.C (Kd.int .u8) w A0 l0.length l0) (hc0 : l0.length ≤ c0) (h : parallaxseat_Path.f k l0 = some r) :
    Calls Tryd.prog 8 #[.slice A0 l0.length c0] w fun e w' => e = .returned (.string r) ∧ Below w.heap.size w w' := by
  have HR0 := Aside0.mk hr0
  have HC0 := Aside0.mk hc0
  clear hr0 hc0
  have HB := Aside0.mk (Below.refl w.heap.size w)
  have H : (parallaxseat_Path.l0 k l0 (([(⟨#[97]⟩ : ByteArray), (⟨#[98]⟩ : ByteArray), (⟨#[118, 49]⟩ : ByteArray), (⟨#[105, 116, 101, 109]⟩ : ByteArray), (⟨#[55]⟩ : ByteArray), (⟨#[115, 116, 97, 116, 105, 99]⟩ : ByteArray), (⟨#[99, 115, 115]⟩ : ByteArray), (⟨#[]⟩ : ByteArray), (⟨#[46, 46]⟩ : ByteArray), (⟨#[46]⟩ : ByteArray), (⟨#[37, 50, 101, 37, 50, 69]⟩ : ByteArray), (⟨#[37, 52, 49]⟩ : ByteArray), (⟨#[37, 50, 102]⟩ : ByteArray), (⟨#[120]⟩ : ByteArray), (⟨#[37, 122, 122]⟩ : ByteArray), (⟨#[37, 67, 51, 37, 97, 57]⟩ : ByteArray)] : List ByteArray)) (⟨#[]⟩ : ByteArray) 0) = some r := h
  clear h
  obtain ⟨y221, hy221⟩ : ∃ y_ : List ByteArray, y_ = (([(⟨#[97]⟩ : ByteArray), (⟨#[98]⟩ : ByteArray), (⟨#[118, 49]⟩ : ByteArray), (⟨#[105, 116, 101, 109]⟩ : ByteArray), (⟨#[55]⟩ : ByteArray), (⟨#[115, 116, 97, 116, 105, 99]⟩ : ByteArray), (⟨#[99, 115, 115]⟩ : ByteArray), (⟨#[]⟩ : ByteArray), (⟨#[46, 46]⟩ : ByteArray), (⟨#[46]⟩ : ByteArray), (⟨#[37, 50, 101, 37, 50, 69]⟩ : ByteArray), (⟨#[37, 52, 49]⟩ : ByteArray), (⟨#[37, 50, 102]⟩ : ByteArray), (⟨#[120]⟩ : ByteArray), (⟨#[37, 122, 122]⟩ : ByteArray), (⟨#[37, 67, 51, 37, 97, 57]⟩ : ByteArray)] : List ByteArray)) := ⟨_, rfl⟩
  replace H : (parallaxseat_Path.l0 k l0 y221 (⟨#[]⟩ : ByteArray) 0) = some r := by first | (rw [hy221]; with_reducible exact H) | (have H2_ := (Option.bind_some _ _).symm.trans H; rw [hy221]; with_reducible exact H2_) | (have H2_ := (Option.bind_some _ _).symm.trans H; with_reducible exact H2_) | with_reducible exact H | (rw [hy221]; exact H) | exact H
  have Ny221 := Aside0.mk hy221
  clear hy221
  have H' := Aside0.mk H
  clear H
  go_enter Tryd.func8, Tryd.ntmps8
  go_wp2_with (first | ((with_reducible refine gate_dst (N := 6) rfl ?_); refine Kd.R_lit Kd.string _ 9 ?hg (N := 6) ?hd (xs := ([(⟨#[97]⟩ : ByteArray), (⟨#[98]⟩ : ByteArray), (⟨#[118, 49]⟩ : ByteArray), (⟨#[105, 116, 101, 109]⟩ : ByteArray), (⟨#[55]⟩ : ByteArray), (⟨#[115, 116, 97, 116, 105, 99]⟩ : ByteArray), (⟨#[99, 115, 115]⟩ : ByteArray), (⟨#[]⟩ : ByteArray), (⟨#[46, 46]⟩ : ByteArray), (⟨#[46]⟩ : ByteArray), (⟨#[37, 50, 101, 37, 50, 69]⟩ : ByteArray), (⟨#[37, 52, 49]⟩ : ByteArray), (⟨#[37, 50, 102]⟩ : ByteArray), (⟨#[120]⟩ : ByteArray), (⟨#[37, 122, 122]⟩ : ByteArray), (⟨#[37, 67, 51, 37, 97, 57]⟩ : ByteArray)] : List ByteArray)) (inner := [.string (⟨#[97]⟩ : ByteArray), .string (⟨#[98]⟩ : ByteArray), .string (⟨#[118, 49]⟩ : ByteArray), .string (⟨#[105, 116, 101, 109]⟩ : ByteArray), .string (⟨#[55]⟩ : ByteArray), .string (⟨#[115, 116, 97, 116, 105, 99]⟩ : ByteArray), .string (⟨#[99, 115, 115]⟩ : ByteArray), .string (⟨#[]⟩ : ByteArray), .string (⟨#[46, 46]⟩ : ByteArray), .string (⟨#[46]⟩ : ByteArray), .string (⟨#[37, 50, 101, 37, 50, 69]⟩ : ByteArray), .string (⟨#[37, 52, 49]⟩ : ByteArray), .string (⟨#[37, 50, 102]⟩ : ByteArray), .string (⟨#[120]⟩ : ByteArray), .string (⟨#[37, 122, 122]⟩ : ByteArray), .string (⟨#[37, 67, 51, 37, 97, 57]⟩ : ByteArray)]) (ok := fun _ => True) (okp := fun _ => True) ?hr ?hp (fun _ hk => hk) trivial (Below.refl _ _) (Nat.le_refl _) (by simp) ?_; (case hd => rfl); (case hg => rfl); (case hr => first | (go_simp; done) | (go_simp; rfl)); (case hp => exact (Reps.one (show Kd.M Kd.string _ _ _ (⟨#[97]⟩ : ByteArray) [.string (⟨#[97]⟩ : ByteArray)] from rfl) (Reps.one (show Kd.M Kd.string _ _ _ (⟨#[98]⟩ : ByteArray) [.string (⟨#[98]⟩ : ByteArray)] from rfl) (Reps.one (show Kd.M Kd.string _ _ _ (⟨#[118, 49]⟩ : ByteArray) [.string (⟨#[118, 49]⟩ : ByteArray)] from rfl) (Reps.one (show Kd.M Kd.string _ _ _ (⟨#[105, 116, 101, 109]⟩ : ByteArray) [.string (⟨#[105, 116, 101, 109]⟩ : ByteArray)] from rfl) (Reps.one (show Kd.M Kd.string _ _ _ (⟨#[55]⟩ : ByteArray) [.string (⟨#[55]⟩ : ByteArray)] from rfl) (Reps.one (show Kd.M Kd.string _ _ _ (⟨#[115, 116, 97, 116, 105, 99]⟩ : ByteArray) [.string (⟨#[115, 116, 97, 116, 105, 99]⟩ : ByteArray)] from rfl) (Reps.one (show Kd.M Kd.string _ _ _ (⟨#[99, 115, 115]⟩ : ByteArray) [.string (⟨#[99, 115, 115]⟩ : ByteArray)] from rfl) (Reps.one (show Kd.M Kd.string _ _ _ (⟨#[]⟩ : ByteArray) [.string (⟨#[]⟩ : ByteArray)] from rfl) (Reps.one (show Kd.M Kd.string _ _ _ (⟨#[46, 46]⟩ : ByteArray) [.string (⟨#[46, 46]⟩ : ByteArray)] from rfl) (Reps.one (show Kd.M Kd.string _ _ _ (⟨#[46]⟩ : ByteArray) [.string (⟨#[46]⟩ : ByteArray)] from rfl) (Reps.one (show Kd.M Kd.string _ _ _ (⟨#[37, 50, 101, 37, 50, 69]⟩ : ByteArray) [.string (⟨#[37, 50, 101, 37, 50, 69]⟩ : ByteArray)] from rfl) (Reps.one (show Kd.M Kd.string _ _ _ (⟨#[37, 52, 49]⟩ : ByteArray) [.string (⟨#[37, 52, 49]⟩ : ByteArray)] from rfl) (Reps.one (show Kd.M Kd.string _ _ _ (⟨#[37, 50, 102]⟩ : ByteArray) [.string (⟨#[37, 50, 102]⟩ : ByteArray)] from rfl) (Reps.one (show Kd.M Kd.string _ _ _ (⟨#[120]⟩ : ByteArray) [.string (⟨#[120]⟩ : ByteArray)] from rfl) (Reps.one (show Kd.M Kd.string _ _ _ (⟨#[37, 122, 122]⟩ : ByteArray) [.string (⟨#[37, 122, 122]⟩ : ByteArray)] from rfl) (Reps.one (show Kd.M Kd.string _ _ _ (⟨#[37, 67, 51, 37, 97, 57]⟩ : ByteArray) [.string (⟨#[37, 67, 51, 37, 97, 57]⟩ : ByteArray)] from rfl) (Reps.none _ _)))))))))))))))))); intro v222 w2 ho3 hb hg_ hnew_; clear hg_ hnew_; (first | rw [← Ny221.out] at ho3 | (simp only [Int.reduceToNat] at ho3; rw [← Ny221.out] at ho3)); have n0_ := Aside0.mk (Kd.R_lower ho3 (below_size (by repeat (first | (with_reducible first | exact HB.out | apply below_alloc | apply pw_below_drewN | apply below_drew1) | exact HB.out)))); have n1_ := Aside0.mk (below_step (by repeat (first | (with_reducible first | exact HB.out | apply below_alloc | apply pw_below_drewN | apply below_drew1) | exact HB.out)) hb); clear HB; have HO223 := n0_; have HB := n1_; clear n0_ n1_; clear hb ho3))
  go_loopg [4, 5] k (fun kq v4 v5 w' => ∃ (x4_1 : ByteArray) (x5_1 : Int), v4 = .string x4_1 ∧ v5 = .int .i64 x5_1 ∧ Aside0 (parallaxseat_Path.l0 kq l0 y221 x4_1 x5_1 = some r) ∧ Aside0 (kq ≤ k) ∧ Aside0 (Kd.R Kd.string 9 w' w.heap.size (fun _ => True) v222 y221) ∧ Aside0 (Below w.heap.size w w'))
  case atStart => exact ⟨((⟨#[]⟩ : ByteArray)), (0), (by first | rfl | (simp; done) | (simp [*]; done)), (by first | rfl | (simp; done) | (simp [*]; done)), H', ⟨Nat.le_refl _⟩, ⟨by (with_reducible repeat (first | apply Kd.R_alloc | apply Kd.R_drewN | apply Kd.R_drew)); exact HO223.out⟩, ⟨by repeat (first | (with_reducible first | exact HB.out | apply below_alloc | apply pw_below_drewN | apply below_drew1) | exact HB.out)⟩⟩
  case round =>
    clear H'
    try clear p2
    obtain ⟨x4_1, x5_1, rfl, rfl, HA, HK1, HO_3, HB⟩ := hrel
    cases gk with
    | zero => exact absurd HA.out (by simp [parallaxseat_Path.l0])
    | succ k1 =>
      have H := HA.out
      clear HA
      simp only [parallaxseat_Path.l0] at H
      by_cases c4 : x5_1 < (l0.length : Int)
      · rw [if_pos c4] at H
        have c4b0 : decide (x5_1 < (l0.length : Int)) = true := decide_eq_true c4
        clear c4
        by_cases c5 : x5_1 < 6
        · rw [if_pos c5] at H
          have c5b0 : decide (x5_1 < 6) = true := decide_eq_true c5
          clear c5
          by_cases c6 : x4_1.size + 1 ≤ 9223372036854775807
          · rw [if_pos c6] at H
            have c6b0 := eq_true c6
            have c6b1 : decide (x4_1.size + 1 ≤ 9223372036854775807) = true := decide_eq_true c6
            try have c6b2 : (9223372036854775807 < x4_1.size + 1) = False := eq_false (Nat.not_lt.2 c6)
            by_cases c7 : 0 ≤ x5_1
            · rw [if_pos c7] at H
              have c7b0 : decide (0 ≤ x5_1) = true := decide_eq_true c7
              clear c7
              obtain ⟨ji8, hji8⟩ : ∃ j_ : Int, (Int.tmod (rd l0 x5_1) 16) = j_ := ⟨_, rfl⟩
              replace H : (if 0 ≤ (ji8) then (if (ji8) < (y221.length : Int) then (if (x4_1 ++ (⟨#[47]⟩ : ByteArray)).size + (rdOf ByteArray.empty y221 (ji8)).size ≤ 9223372036854775807 then (parallaxseat_Path.l0 k1 l0 y221 ((x4_1 ++ (⟨#[47]⟩ : ByteArray)) ++ (rdOf ByteArray.empty y221 (ji8))) (wrap64 (x5_1 + 1))) else (none)) else (none)) else (none)) = some r := by first | (rw [hji8] at H; exact H) | (simp only [hji8] at H ⊢; exact H)
              by_cases c9 : 0 ≤ (ji8)
              · rw [if_pos c9] at H
                have c9b0 : decide (0 ≤ (ji8)) = true := decide_eq_true c9
                clear c9
                by_cases c10 : (ji8) < (y221.length : Int)
                · rw [if_pos c10] at H
                  have c10b0 : decide ((ji8) < (y221.length : Int)) = true := decide_eq_true c10
                  clear c10
                  by_cases c11 : (x4_1 ++ (⟨#[47]⟩ : ByteArray)).size + (rdOf ByteArray.empty y221 (ji8)).size ≤ 9223372036854775807
                  · rw [if_pos c11] at H
                    have c11b0 := eq_true c11
                    have c11b1 : decide ((x4_1 ++ (⟨#[47]⟩ : ByteArray)).size + (rdOf ByteArray.empty y221 (ji8)).size ≤ 9223372036854775807) = true := decide_eq_true c11
                    try have c11b2 : (9223372036854775807 < (x4_1 ++ (⟨#[47]⟩ : ByteArray)).size + (rdOf ByteArray.empty y221 (ji8)).size) = False := eq_false (Nat.not_lt.2 c11)
                    (try (have c11b3 : (9223372036854775807 < x4_1.size + 1 + (rdOf ByteArray.empty y221 (ji8)).size) = False := eq_false (by have h_ := c11; simp only [ByteArray.size_append] at h_; exact Nat.not_lt.mpr h_)))
                    (try (have c11b4 : decide (x4_1.size + 1 + (rdOf ByteArray.empty y221 (ji8)).size ≤ 9223372036854775807) = true := decide_eq_true (by have h_ := c11; simp only [ByteArray.size_append] at h_; exact h_)))
                    have H' := Aside0.mk H
                    clear H
                    have p224 : 0 ≤ (x5_1 : Int) := of_decide_eq_true (by first | (with_reducible assumption) | assumption)
                    have q224 : x5_1 < (l0.length : Int) := of_decide_eq_true (by first | (with_reducible assumption) | assumption)
                    obtain ⟨ad224, e224, hx224_0⟩ := Kd.at_int HR0.out x5_1 p224 q224
                    cases e224
                    replace hx224_0 := (HB.out.cell (World.block_lt_of_cell? w _ hx224_0)).trans hx224_0
                    replace p224 := eq_true p224
                    replace q224 := eq_true q224
                    obtain ⟨Ao12, co12, eo12⟩ := Kd.R_slice HO_3.out
                    subst eo12
                    have p225 : 0 ≤ ((ji8) : Int) := of_decide_eq_true (by first | (with_reducible assumption) | assumption)
                    have q225 : (ji8) < (y221.length : Int) := of_decide_eq_true (by first | (with_reducible assumption) | assumption)
                    obtain ⟨ad225, e225, hx225_0⟩ := Kd.at_string (Kd.R_reads' HO_3.out).2.2 (ji8) p225 q225
                    cases e225
                    replace p225 := eq_true p225
                    replace q225 := eq_true q225
                    go_wp2
                    go_roundg k1
                    case measure => have := HK1.out; omega
                    case rel => exact ⟨((x4_1 ++ (⟨#[47]⟩ : ByteArray)) ++ (rdOf ByteArray.empty y221 (ji8))), (wrap64 (x5_1 + 1)), (by first | rfl | (simp; done) | (simp only [← hji8] <;> (first | rfl | simp)) | (simp [*]; done)), (by first | rfl | (simp; done) | (simp [*]; done)), H', ⟨by have := HK1.out; omega⟩, ⟨by (with_reducible repeat (first | apply Kd.R_alloc | apply Kd.R_drewN | apply Kd.R_drew)); exact HO_3.out⟩, ⟨by repeat (first | (with_reducible first | exact HB.out | apply below_alloc | apply pw_below_drewN | apply below_drew1) | exact HB.out)⟩⟩
                  · rw [if_neg c11] at H
                    exact absurd H (by simp)
                · rw [if_neg c10] at H
                  exact absurd H (by simp)
              · rw [if_neg c9] at H
                exact absurd H (by simp)
            · rw [if_neg c7] at H
              exact absurd H (by simp)
          · rw [if_neg c6] at H
            exact absurd H (by simp)
        · rw [if_neg c5] at H
          have c5b0 : decide (x5_1 < 6) = false := decide_eq_false c5
          clear c5
          obtain rfl := Option.some.inj H
          go_wp2
          go_ret
          exact ⟨by first | rfl | (simp [errW_none, errW_some] <;> rfl) | (simp [*, errW_none, errW_some] <;> rfl), by repeat (first | (with_reducible first | exact HB.out | apply below_alloc | apply pw_below_drewN | apply below_drew1) | exact HB.out)⟩
      · rw [if_neg c4] at H
        have c4b0 : decide (x5_1 < (l0.length : Int)) = false := decide_eq_false c4
        clear c4
        obtain rfl := Option.some.inj H
        go_wp2
        go_ret
        exact ⟨by first | rfl | (simp [errW_none, errW_some] <;> rfl) | (simp [*, errW_none, errW_some] <;> rfl), by repeat (first | (with_reducible first | exact HB.out | apply below_alloc | apply pw_below_drewN | apply below_drew1) | exact HB.out)⟩

end Go.Proofs.YtljmpmipjdlkaaaDoor.PPercentOnce
