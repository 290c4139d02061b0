-- Written by a program of this session (wip/tools/myprint.sh)
import Derived.Lib.SliceRun
import Derived.Test.YtomofacchnmepaaDoorPRecordCopiesx0
import Derived.Test.YtomofacchnmepaaDoorPRecordCopiesx2
import Derived.Test.YtomofacchnmepaaDoorPRecordCopiesx3
namespace Go.Proofs.YtomofacchnmepaaDoor.PRecordCopies
open Go.RowKit Go.Proofs.YtomofacchnmepaaDoorW.PrintWords Go.Proofs.YtomofacchnmepaaDoorW.PrintLast Go.Proofs.YtomofacchnmepaaDoorW.PrintMore
attribute [local go_sem] max2_int min2_int max_two min_two max_three min_three max_four min_four   -- for this text's walks alone
set_option linter.unusedVariables false
set_option linter.unusedSimpArgs false

/-! ### record_Expects: function 16 -/
def record_Expects.f (k : Nat) (a0_0 : ByteArray) (a0_1 : ByteArray) (a0_2 : Int) (l0_3 : List (S31)) (a0_4 : Bool) (l0_5 : List Int) (l0_6 : List (S31)) : Option (Bool) := if a0_2 = 1 then ((record_says.f k a0_0 a0_1 a0_2 l0_3 a0_4 l0_5 l0_6 (⟨#[69, 120, 112, 101, 99, 116]⟩ : ByteArray) (⟨#[49, 48, 48, 45, 99, 111, 110, 116, 105, 110, 117, 101]⟩ : ByteArray)).bind fun t153 => (some t153)) else (some false)
theorem record_Expects.mono : ∀ a0 a1 a2 a3 a4 a5 a6 k, LeO (record_Expects.f k a0 a1 a2 a3 a4 a5 a6) (record_Expects.f (k + 1) a0 a1 a2 a3 a4 a5 a6) := by
 intro a0 a1 a2 a3 a4 a5 a6 k
 unfold record_Expects.f
 repeat' first
   | (with_reducible exact record_says.mono _ _ _ _ _ _ _ _ _ _)
   | (with_reducible exact LeO.refl _)
   | (with_reducible exact LeO.none _)
   | (with_reducible refine LeO.ite ?_ ?_)
   | (with_reducible refine LeO.bind ?_ (fun _ => ?_))
   | exact record_says.mono _ _ _ _ _ _ _ _ _ _
   | exact LeO.none _
   | refine LeO.ite ?_ ?_
   | refine LeO.bind ?_ (fun _ => ?_)
set_option maxHeartbeats 8000000 in
set_option maxRecDepth 100000 in
theorem record_Expects.calls (k : Nat) (a0_0 : ByteArray) (a0_1 : ByteArray) (a0_2 : Int) (A0_3 : Option Addr) (c0_3 : Nat) (l0_3 : List (S31)) (a0_4 : Bool) (A0_5 : Option Addr) (c0_5 : Nat) (l0_5 : List Int) (A0_6 : Option Addr) (c0_6 : Nat) (l0_6 : List (S31)) (r : Bool) (w : World) (hr0_3 : Kd.C k31 w A0_3 l0_3.length l0_3) (hc0_3 : l0_3.length ≤ c0_3) (hr0_5 : Kd.C (Kd.int .u8) w A0_5 l0_5.length l0_5) (hc0_5 : l0_5.length ≤ c0_5) (hr0_6 : Kd.C k31 w A0_6 l0_6.length l0_6) (hc0_6 : l0_6.length ≤ c0_6) (h : record_Expects.f k a0_0 a0_1 a0_2 l0_3 a0_4 l0_5 l0_6 = some r) :
  Calls Tryd.prog 16 #[.agg #[.string a0_0, .string a0_1, .int .i64 a0_2, .slice A0_3 l0_3.length c0_3, .bool a0_4, .slice A0_5 l0_5.length c0_5, .slice A0_6 l0_6.length c0_6]] w fun e w' => e = .returned (.bool r) ∧ Below w.heap.size w w' := by
 have hu25 := Tryd.underlying25
 have HR0_3 := Aside0.mk hr0_3
 have HC0_3 := Aside0.mk hc0_3
 clear hr0_3 hc0_3
 have HR0_5 := Aside0.mk hr0_5
 have HC0_5 := Aside0.mk hc0_5
 clear hr0_5 hc0_5
 have HR0_6 := Aside0.mk hr0_6
 have HC0_6 := Aside0.mk hc0_6
 clear hr0_6 hc0_6
 have HB := Aside0.mk (Below.refl w.heap.size w)
 have H : (if a0_2 = 1 then ((record_says.f k a0_0 a0_1 a0_2 l0_3 a0_4 l0_5 l0_6 (⟨#[69, 120, 112, 101, 99, 116]⟩ : ByteArray) (⟨#[49, 48, 48, 45, 99, 111, 110, 116, 105, 110, 117, 101]⟩ : ByteArray)).bind fun t153 => (some t153)) else (some false)) = some r := h
 clear h
 by_cases c2 : a0_2 = 1
 ·rw [if_pos c2] at H
  have c2b0 : (a0_2 == 1) = true := beq_iff_eq.mpr c2
  have c2b1 : (a0_2 != 1) = false := bne_eq_false_iff_eq.mpr c2
  clear c2
  replace H := Option.bind_eq_some_iff.mp H
  obtain ⟨t153, A30, H⟩ := H
  replace H : (some t153) = some r := H
  have A3 := Aside0.mk A30
  clear A30
  obtain rfl := Option.some.inj H
  go_enter Tryd.func16, Tryd.ntmps16
  go_wp2_with (first | ((with_reducible refine gate_dst (N := 1) rfl ?_); refine box_event ?hg (N := 1) ?hd (cs := #[.string a0_0, .string a0_1, .int .i64 a0_2, .slice A0_3 l0_3.length c0_3, .bool a0_4, .slice A0_5 l0_5.length c0_5, .slice A0_6 l0_6.length c0_6]) (t := 25) ?hr ?_; (case hd => rfl); (case hg => rfl); (case hr => first | (go_simp; done) | (go_simp; rfl)); intro gb152 hg w4 hbox hb; have n0_ := Aside0.mk (below_step Mark.h hb); have n1_ := Aside0.mk (hbox); have n2_ := Aside0.mk ((by rw [hg]; exact (below_size Mark.h) : w.heap.size ≤ gb152)); have n3_ := Aside0.mk ((by rw [hg]; exact (below_size Mark.h) : w.heap.size ≤ gb152)); clear HB; have HB := n0_; have BK152 := n1_; have GW152 := n2_; have GE152 := n3_; clear n0_ n1_ n2_ n3_; clear hb hbox hg; have hcz5_0 : w4.cell? ⟨gb152, 0, none⟩ = some (.string a0_0) := (blk_cell BK152.out 0).trans rfl; have hcz5_1 : w4.cell? ⟨gb152, 1, none⟩ = some (.string a0_1) := (blk_cell BK152.out 1).trans rfl; have hcz5_2 : w4.cell? ⟨gb152, 2, none⟩ = some (.int .i64 a0_2) := (blk_cell BK152.out 2).trans rfl; have hcz5_3 : w4.cell? ⟨gb152, 3, none⟩ = some (.slice A0_3 l0_3.length c0_3) := (blk_cell BK152.out 3).trans rfl; have hcz5_4 : w4.cell? ⟨gb152, 4, none⟩ = some (.bool a0_4) := (blk_cell BK152.out 4).trans rfl; have hcz5_5 : w4.cell? ⟨gb152, 5, none⟩ = some (.slice A0_5 l0_5.length c0_5) := (blk_cell BK152.out 5).trans rfl; have hcz5_6 : w4.cell? ⟨gb152, 6, none⟩ = some (.slice A0_6 l0_6.length c0_6) := (blk_cell BK152.out 6).trans rfl; have hfz5_0 := blk_frozen BK152.out 0; have hfz5_1 := blk_frozen BK152.out 1; have hfz5_2 := blk_frozen BK152.out 2; have hfz5_3 := blk_frozen BK152.out 3; have hfz5_4 := blk_frozen BK152.out 4; have hfz5_5 := blk_frozen BK152.out 5; have hfz5_6 := blk_frozen BK152.out 6) | (go_at_call 29; (with_reducible refine (record_says.calls k a0_0 a0_1 a0_2 _ _ l0_3 a0_4 _ _ l0_5 _ _ l0_6 (⟨#[69, 120, 112, 101, 99, 116]⟩ : ByteArray) (⟨#[49, 48, 48, 45, 99, 111, 110, 116, 105, 110, 117, 101]⟩ : ByteArray) t153 _ ?side1 ?side2 ?side3 ?side4 ?side5 ?side6 A3.out).mono ?_); (case side1 => repeat (first | exact (Kd.C_below HR0_3.out HB.out) | (with_reducible refine Kd.C_alloc ?_ _) | (with_reducible refine Kd.C_drewN ?_ _) | (with_reducible refine Kd.C_drew ?_))); (case side2 => exact HC0_3.out); (case side3 => repeat (first | exact (Kd.C_below HR0_5.out HB.out) | (with_reducible refine Kd.C_alloc ?_ _) | (with_reducible refine Kd.C_drewN ?_ _) | (with_reducible refine Kd.C_drew ?_))); (case side4 => exact HC0_5.out); (case side5 => repeat (first | exact (Kd.C_below HR0_6.out HB.out) | (with_reducible refine Kd.C_alloc ?_ _) | (with_reducible refine Kd.C_drewN ?_ _) | (with_reducible refine Kd.C_drew ?_))); (case side6 => exact HC0_6.out); rintro e w6 ⟨rfl, hb⟩; have n0_ := Aside0.mk (blk_below (g := gb152) (o := .cells #[.string a0_0, .string a0_1, .int .i64 a0_2, .slice A0_3 l0_3.length c0_3, .bool a0_4, .slice A0_5 l0_5.length c0_5, .slice A0_6 l0_6.length c0_6] 25 (0, 0)) (Mark.b BK152) hb); have n1_ := Aside0.mk (below_step Mark.h hb); clear BK152; clear HB; have BK152 := n0_; have HB := n1_; clear n0_ n1_; (try clear hb); (try clear hb2); (try clear hk); (try clear hi)))
  go_ret
  exact ⟨by first | rfl | (simp [errW_none, errW_some] <;> rfl) | (simp [*, errW_none, errW_some] <;> rfl), Mark.h⟩
 ·rw [if_neg c2] at H
  have c2b0 : (a0_2 == 1) = false := beq_eq_false_iff_ne.mpr c2
  have c2b1 : (a0_2 != 1) = true := bne_iff_ne.mpr c2
  obtain rfl := Option.some.inj H
  go_enter Tryd.func16, Tryd.ntmps16
  go_wp2_with (first | ((with_reducible refine gate_dst (N := 1) rfl ?_); refine box_event ?hg (N := 1) ?hd (cs := #[.string a0_0, .string a0_1, .int .i64 a0_2, .slice A0_3 l0_3.length c0_3, .bool a0_4, .slice A0_5 l0_5.length c0_5, .slice A0_6 l0_6.length c0_6]) (t := 25) ?hr ?_; (case hd => rfl); (case hg => rfl); (case hr => first | (go_simp; done) | (go_simp; rfl)); intro gb152 hg w7 hbox hb; have n0_ := Aside0.mk (below_step Mark.h hb); have n1_ := Aside0.mk (hbox); have n2_ := Aside0.mk ((by rw [hg]; exact (below_size Mark.h) : w.heap.size ≤ gb152)); have n3_ := Aside0.mk ((by rw [hg]; exact (below_size Mark.h) : w.heap.size ≤ gb152)); clear HB; have HB := n0_; have BK152 := n1_; have GW152 := n2_; have GE152 := n3_; clear n0_ n1_ n2_ n3_; clear hb hbox hg; have hcz8_0 : w7.cell? ⟨gb152, 0, none⟩ = some (.string a0_0) := (blk_cell BK152.out 0).trans rfl; have hcz8_1 : w7.cell? ⟨gb152, 1, none⟩ = some (.string a0_1) := (blk_cell BK152.out 1).trans rfl; have hcz8_2 : w7.cell? ⟨gb152, 2, none⟩ = some (.int .i64 a0_2) := (blk_cell BK152.out 2).trans rfl; have hcz8_3 : w7.cell? ⟨gb152, 3, none⟩ = some (.slice A0_3 l0_3.length c0_3) := (blk_cell BK152.out 3).trans rfl; have hcz8_4 : w7.cell? ⟨gb152, 4, none⟩ = some (.bool a0_4) := (blk_cell BK152.out 4).trans rfl; have hcz8_5 : w7.cell? ⟨gb152, 5, none⟩ = some (.slice A0_5 l0_5.length c0_5) := (blk_cell BK152.out 5).trans rfl; have hcz8_6 : w7.cell? ⟨gb152, 6, none⟩ = some (.slice A0_6 l0_6.length c0_6) := (blk_cell BK152.out 6).trans rfl; have hfz8_0 := blk_frozen BK152.out 0; have hfz8_1 := blk_frozen BK152.out 1; have hfz8_2 := blk_frozen BK152.out 2; have hfz8_3 := blk_frozen BK152.out 3; have hfz8_4 := blk_frozen BK152.out 4; have hfz8_5 := blk_frozen BK152.out 5; have hfz8_6 := blk_frozen BK152.out 6))
  go_ret
  exact ⟨by first | rfl | (simp [errW_none, errW_some] <;> rfl) | (simp [*, errW_none, errW_some] <;> rfl), Mark.h⟩

/-! ### api_Field_33: function 33 -/
theorem api_Field_33_info : (Tryd.prog.info? 31).map (fun i => (i.zero, i.size, i.bytes)) = some (some (.agg #[(.string ⟨#[]⟩), (.string ⟨#[]⟩)]), 2, 32) := by kernel_rfl
def api_Field_33.f (l0 : List (S31)) : Option (List (S31)) := if l0.length < 4398046511104 then some l0 else none
set_option maxHeartbeats 8000000 in
set_option maxRecDepth 100000 in
theorem api_Field_33.calls (A0 : Option Addr) (c0 : Nat) (l0 : List (S31)) (r : List (S31)) (w : World) (hr0 : Kd.C k31 w A0 l0.length l0) (hc0 : l0.length ≤ c0) (h : api_Field_33.f l0 = some r) :
  Calls Tryd.prog 33 #[.slice A0 l0.length c0] w fun e w' => ∃ v0_ : Value, e = .returned (v0_) ∧ Kd.R k31 31 w' w.heap.size (fun _ => True) v0_ r ∧ Below w.heap.size w w' := by
 unfold api_Field_33.f at h
 split at h
 ·rename_i hc
  obtain rfl := Option.some.inj h
  have HR0 := Aside0.mk hr0
  clear hr0 h
  cases A0 with
  | none =>
   have e1 := fun (W : World) => Lib.run_eql_slice_nil (P := Tryd.prog) W 22 31 none 0 c0 0 0 Tryd.underlying22
   have hn : l0 = [] := List.eq_nil_of_length_eq_zero (by rcases Nat.eq_zero_or_pos l0.length with h | h; exact h; obtain ⟨_, h2, _⟩ := HR0.out.2.2 h; cases h2)
   subst hn
   go_enter Tryd.func33, Tryd.ntmps33
   go_wp2
   go_ret
   exact ⟨_, rfl, Kd.R_nil _ _ _ _ _, Below.refl _ _⟩
  | some ad =>
   have e1 := fun (W : World) => Lib.run_eql_slice_nil (P := Tryd.prog) W 22 31 (some ad) l0.length c0 0 0 Tryd.underlying22
   have HB := Aside0.mk (Below.refl w.heap.size w)
   go_enter Tryd.func33, Tryd.ntmps33
   go_wp2_with (first
    | ((with_reducible refine gate_dst (N := 5) rfl ?_); refine Kd.R_lit k31 (w0 := w) w.heap.size 31 ?hg (N := 5) ?hd (xs := ([] : List (S31))) (inner := []) (ok := fun _ => True) (okp := fun _ => False) ?hrun ?hrep ?hok ?hfresh ?hB ?hb ?hm ?_; (case hd => rfl); (case hg => rfl); (case hrun => first | (go_simp; done) | (go_simp; rfl)); (case hrep => exact Reps.none _ _); (case hok => exact fun _ h => h.elim); (case hfresh => trivial); (case hB => exact HB.out); (case hb => exact Nat.le_refl _); (case hm => decide); intro v1 w1 ho hb hg ht; have HO := Aside0.mk ho; have n0_ := Aside0.mk hb; clear HB; have HB := n0_; clear n0_ ho hb hg ht)
    | ((with_reducible refine gate_builtin (b := .append) (xs := #[.tmp 5, .tmp 6]) rfl ?_); at_builtin; refine Kd.R_append_rows k31 (w0 := w) w.heap.size rfl (.tmp 5) (.tmp 6) 22 31 (.agg #[(.string ⟨#[]⟩), (.string ⟨#[]⟩)]) 32 rfl Tryd.underlying22 api_Field_33_info rfl (by decide) (by omega) v1 ([] : List (S31)) l0 _ _ _ (fun _ => True) (fun _ => False) rfl rfl ?aO ?aR (fun _ _ h => h) (fun _ h => h.elim) ?aF ?aB ?aS ?aL ?_; (case aR => exact (Kd.C_below HR0.out HB.out)); (case aB => exact HB.out); (case aF => exact (fun _ _ => trivial)); (case aO => exact HO.out); (case aS => exact HB.out.size); (case aL => simp; omega); intro v2 w2 ho hb hg hat; have HO2 := Aside0.mk ho; have n0_ := Aside0.mk hb; clear HB; have HB := n0_; clear n0_ ho hb hg hat))
   go_ret
   exact ⟨_, rfl, HO2.out, HB.out⟩
 ·cases h


/-! ### slices_Clone_byte_byte: function 34 -/
theorem slices_Clone_byte_byte_info : (Tryd.prog.info? 5).map (fun i => (i.zero, i.size, i.bytes)) = some (some (.int .u8 0), 1, 1) := by kernel_rfl
def slices_Clone_byte_byte.f (l0 : List (Int)) : Option (List (Int)) := if l0.length < 140737488355328 then some l0 else none
set_option maxHeartbeats 8000000 in
set_option maxRecDepth 100000 in
theorem slices_Clone_byte_byte.calls (A0 : Option Addr) (c0 : Nat) (l0 : List (Int)) (r : List (Int)) (w : World) (hr0 : Kd.C (Kd.int .u8) w A0 l0.length l0) (hc0 : l0.length ≤ c0) (h : slices_Clone_byte_byte.f l0 = some r) :
  Calls Tryd.prog 34 #[.slice A0 l0.length c0] w fun e w' => ∃ v0_ : Value, e = .returned (v0_) ∧ Kd.R (Kd.int .u8) 5 w' w.heap.size (fun _ => True) v0_ r ∧ Below w.heap.size w w' := by
 unfold slices_Clone_byte_byte.f at h
 split at h
 ·rename_i hc
  obtain rfl := Option.some.inj h
  have HR0 := Aside0.mk hr0
  clear hr0 h
  cases A0 with
  | none =>
   have e1 := fun (W : World) => Lib.run_eql_slice_nil (P := Tryd.prog) W 23 5 none 0 c0 0 0 Tryd.underlying23
   have hn : l0 = [] := List.eq_nil_of_length_eq_zero (by rcases Nat.eq_zero_or_pos l0.length with h | h; exact h; obtain ⟨_, h2, _⟩ := HR0.out.2.2 h; cases h2)
   subst hn
   go_enter Tryd.func34, Tryd.ntmps34
   go_wp2
   go_ret
   exact ⟨_, rfl, Kd.R_nil _ _ _ _ _, Below.refl _ _⟩
  | some ad =>
   have e1 := fun (W : World) => Lib.run_eql_slice_nil (P := Tryd.prog) W 23 5 (some ad) l0.length c0 0 0 Tryd.underlying23
   have HB := Aside0.mk (Below.refl w.heap.size w)
   go_enter Tryd.func34, Tryd.ntmps34
   go_wp2_with (first
    | ((with_reducible refine gate_dst (N := 5) rfl ?_); refine Kd.R_lit (Kd.int .u8) (w0 := w) w.heap.size 5 ?hg (N := 5) ?hd (xs := ([] : List (Int))) (inner := []) (ok := fun _ => True) (okp := fun _ => False) ?hrun ?hrep ?hok ?hfresh ?hB ?hb ?hm ?_; (case hd => rfl); (case hg => rfl); (case hrun => first | (go_simp; done) | (go_simp; rfl)); (case hrep => exact Reps.none _ _); (case hok => exact fun _ h => h.elim); (case hfresh => trivial); (case hB => exact HB.out); (case hb => exact Nat.le_refl _); (case hm => decide); intro v1 w1 ho hb hg ht; have HO := Aside0.mk ho; have n0_ := Aside0.mk hb; clear HB; have HB := n0_; clear n0_ ho hb hg ht)
    | ((with_reducible refine gate_builtin (b := .append) (xs := #[.tmp 5, .tmp 6]) rfl ?_); at_builtin; refine Kd.R_append_rows (Kd.int .u8) (w0 := w) w.heap.size rfl (.tmp 5) (.tmp 6) 23 5 (.int .u8 0) 1 rfl Tryd.underlying23 slices_Clone_byte_byte_info rfl (by decide) (by omega) v1 ([] : List (Int)) l0 _ _ _ (fun _ => True) (fun _ => False) rfl rfl ?aO ?aR (fun _ _ h => h) (fun _ h => h.elim) ?aF ?aB ?aS ?aL ?_; (case aR => exact (Kd.C_below HR0.out HB.out)); (case aB => exact HB.out); (case aF => exact (fun _ _ => trivial)); (case aO => exact HO.out); (case aS => exact HB.out.size); (case aL => simp; omega); intro v2 w2 ho hb hg hat; have HO2 := Aside0.mk ho; have n0_ := Aside0.mk hb; clear HB; have HB := n0_; clear n0_ ho hb hg hat))
   go_ret
   exact ⟨_, rfl, HO2.out, HB.out⟩
 ·cases h


/-! ### record_Copy: function 18 -/
def record_Copy.f (a0_0 : ByteArray) (a0_1 : ByteArray) (a0_2 : Int) (l0_3 : List (S31)) (a0_4 : Bool) (l0_5 : List Int) (l0_6 : List (S31)) : Option (ByteArray × ByteArray × Int × (List (S31)) × Bool × List Int × (List (S31))) := (api_Field_33.f l0_3).bind fun t156 => ((slices_Clone_byte_byte.f l0_5).bind fun t159 => ((api_Field_33.f l0_6).bind fun t162 => (some (a0_0, a0_1, a0_2, t156, a0_4, t159, t162))))
def record_Copy.T1 : Bool × List (List Nat × List Nat) := (true, [([], []), ([0], [0]), ([1], [1]), ([], []), ([3], [3]), ([4, 2], [4]), ([], []), ([6], [6]), ([7, 5], [7]), ([0, 1, 2, 3, 4, 6, 7], []), ([9, 2, 8, 0, 1, 2, 3, 4, 6, 7], [2, 9]), ([0, 1, 2, 3, 4, 5, 6, 7, 9, 10], []), ([11, 5, 10, 0, 1, 2, 3, 4, 5, 6, 7, 9, 10], [5, 11]), ([0, 1, 2, 3, 4, 5, 6, 7, 8, 9, 10, 11, 12], []), ([13, 8, 12, 0, 1, 2, 3, 4, 5, 6, 7, 8, 9, 10, 11, 12], [8, 13])])
def record_Copy.B1 : List Nat := [0, 1, 3, 0, 8, 31, 0, 64, 255, 223, 1023, 2047, 4095, 8191, 16383]
theorem record_Copy.tab1 : rtab .any (opsOf Tryd.f18 1) = record_Copy.T1 := by kernel_rfl
theorem record_Copy.bits1 : waitsOk record_Copy.T1.2 record_Copy.B1 = true := by kernel_rfl
set_option maxHeartbeats 8000000 in
set_option maxRecDepth 100000 in
theorem record_Copy.calls (a0_0 : ByteArray) (a0_1 : ByteArray) (a0_2 : Int) (A0_3 : Option Addr) (c0_3 : Nat) (l0_3 : List (S31)) (a0_4 : Bool) (A0_5 : Option Addr) (c0_5 : Nat) (l0_5 : List Int) (A0_6 : Option Addr) (c0_6 : Nat) (l0_6 : List (S31)) (r1 : ByteArray) (r2 : ByteArray) (r3 : Int) (r4 : List (S31)) (r5 : Bool) (r6 : List Int) (r7 : List (S31)) (w : World) (hr0_3 : Kd.C k31 w A0_3 l0_3.length l0_3) (hc0_3 : l0_3.length ≤ c0_3) (hr0_5 : Kd.C (Kd.int .u8) w A0_5 l0_5.length l0_5) (hc0_5 : l0_5.length ≤ c0_5) (hr0_6 : Kd.C k31 w A0_6 l0_6.length l0_6) (hc0_6 : l0_6.length ≤ c0_6) (h : record_Copy.f a0_0 a0_1 a0_2 l0_3 a0_4 l0_5 l0_6 = some (r1, r2, r3, r4, r5, r6, r7)) :
  Calls Tryd.prog 18 #[.agg #[.string a0_0, .string a0_1, .int .i64 a0_2, .slice A0_3 l0_3.length c0_3, .bool a0_4, .slice A0_5 l0_5.length c0_5, .slice A0_6 l0_6.length c0_6]] w fun e w' => ∃ v3_ v5_ v6_ : Value, e = .returned (.agg #[.string r1, .string r2, .int .i64 r3, v3_, .bool r5, v5_, v6_]) ∧ Kd.R k31 31 w' w.heap.size (fun k_ => some k_ ≠ (v6_ : Value).ownBlock) v3_ r4 ∧ Kd.R (Kd.int .u8) 5 w' w.heap.size (fun _ => True) v5_ r6 ∧ Kd.R k31 31 w' w.heap.size (fun k_ => some k_ ≠ (v3_ : Value).ownBlock) v6_ r7 ∧ Below w.heap.size w w' := by
 have hu25 := Tryd.underlying25
 have HR0_3 := Aside0.mk hr0_3
 have HC0_3 := Aside0.mk hc0_3
 clear hr0_3 hc0_3
 have HR0_5 := Aside0.mk hr0_5
 have HC0_5 := Aside0.mk hc0_5
 clear hr0_5 hc0_5
 have HR0_6 := Aside0.mk hr0_6
 have HC0_6 := Aside0.mk hc0_6
 clear hr0_6 hc0_6
 have HB := Aside0.mk (Below.refl w.heap.size w)
 have H : ((api_Field_33.f l0_3).bind fun t156 => ((slices_Clone_byte_byte.f l0_5).bind fun t159 => ((api_Field_33.f l0_6).bind fun t162 => (some (a0_0, a0_1, a0_2, t156, a0_4, t159, t162))))) = some (r1, r2, r3, r4, r5, r6, r7) := h
 clear h
 replace H := Option.bind_eq_some_iff.mp H
 obtain ⟨t156, A20, H⟩ := H
 replace H : ((slices_Clone_byte_byte.f l0_5).bind fun t159 => ((api_Field_33.f l0_6).bind fun t162 => (some (a0_0, a0_1, a0_2, t156, a0_4, t159, t162)))) = some (r1, r2, r3, r4, r5, r6, r7) := H
 have A2 := Aside0.mk A20
 clear A20
 replace H := Option.bind_eq_some_iff.mp H
 obtain ⟨t159, A30, H⟩ := H
 replace H : ((api_Field_33.f l0_6).bind fun t162 => (some (a0_0, a0_1, a0_2, t156, a0_4, t159, t162))) = some (r1, r2, r3, r4, r5, r6, r7) := H
 have A3 := Aside0.mk A30
 clear A30
 replace H := Option.bind_eq_some_iff.mp H
 obtain ⟨t162, A40, H⟩ := H
 replace H : (some (a0_0, a0_1, a0_2, t156, a0_4, t159, t162)) = some (r1, r2, r3, r4, r5, r6, r7) := H
 have A4 := Aside0.mk A40
 clear A40
 simp only [Option.some.injEq, Prod.mk.injEq] at H
 obtain ⟨rfl, rfl, rfl, rfl, rfl, rfl, rfl⟩ := H
 go_enter Tryd.func18, Tryd.ntmps18
 try go_wp2_with (first | ((with_reducible refine gate_dst (N := 1) rfl ?_); refine box_event ?hg (N := 1) ?hd (cs := #[.string a0_0, .string a0_1, .int .i64 a0_2, .slice A0_3 l0_3.length c0_3, .bool a0_4, .slice A0_5 l0_5.length c0_5, .slice A0_6 l0_6.length c0_6]) (t := 25) ?hr ?_; (case hd => rfl); (case hg => rfl); (case hr => first | (go_simp; done) | (go_simp; rfl)); intro gb154 hg w5 hbox hb; have n0_ := Aside0.mk (below_step Mark.h hb); have n1_ := Aside0.mk (hbox); have n2_ := Aside0.mk ((by rw [hg]; exact (below_size Mark.h) : w.heap.size ≤ gb154)); have n3_ := Aside0.mk ((by rw [hg]; exact (below_size Mark.h) : w.heap.size ≤ gb154)); clear HB; have HB := n0_; have BK154 := n1_; have GW154 := n2_; have GE154 := n3_; clear n0_ n1_ n2_ n3_; clear hb hbox hg) | ((with_reducible refine gate_dst (N := 2) rfl ?_); refine box_event ?hg (N := 2) ?hd (cs := #[.string (⟨#[]⟩ : ByteArray), .string (⟨#[]⟩ : ByteArray), .int .i64 0, .slice none 0 0, .bool false, .slice none 0 0, .slice none 0 0]) (t := 25) ?hr ?_; (case hd => rfl); (case hg => rfl); (case hr => first | (go_simp; done) | (go_simp; rfl)); intro gb155 hg w6 hbox hb; have n0_ := Aside0.mk (blk_below (g := gb154) (o := .cells #[.string a0_0, .string a0_1, .int .i64 a0_2, .slice A0_3 l0_3.length c0_3, .bool a0_4, .slice A0_5 l0_5.length c0_5, .slice A0_6 l0_6.length c0_6] 25 (0, 0)) (Mark.b BK154) hb); have n1_ := Aside0.mk (below_step Mark.h hb); have n2_ := Aside0.mk (hbox); have n3_ := Aside0.mk ((by rw [hg]; exact (below_size Mark.h) : w.heap.size ≤ gb155)); have n4_ := Aside0.mk ((by rw [hg]; exact (below_size Mark.h) : w.heap.size ≤ gb155)); have n5_ := Aside0.mk ((by rw [hg]; exact Nat.ne_of_lt (blk_lt (g := gb154) (o := .cells #[.string a0_0, .string a0_1, .int .i64 a0_2, .slice A0_3 l0_3.length c0_3, .bool a0_4, .slice A0_5 l0_5.length c0_5, .slice A0_6 l0_6.length c0_6] 25 (0, 0)) (Mark.b BK154)) : gb154 ≠ gb155)); have n6_ := Aside0.mk ((by rw [hg]; exact Nat.ne_of_gt (blk_lt (g := gb154) (o := .cells #[.string a0_0, .string a0_1, .int .i64 a0_2, .slice A0_3 l0_3.length c0_3, .bool a0_4, .slice A0_5 l0_5.length c0_5, .slice A0_6 l0_6.length c0_6] 25 (0, 0)) (Mark.b BK154)) : gb155 ≠ gb154)); clear BK154; clear HB; have BK154 := n0_; have HB := n1_; have BK155 := n2_; have GW155 := n3_; have GE155 := n4_; have NB154_155 := n5_; have NB155_154 := n6_; clear n0_ n1_ n2_ n3_ n4_ n5_ n6_; clear hb hbox hg))
 have n0_ := Aside0.mk (blk_drew BK154.out)
 have n1_ := Aside0.mk (blk_drew BK155.out)
 have n2_ := Aside0.mk (below_drew1 HB.out)
 clear BK154
 clear BK155
 clear HB
 have BK154 := n0_
 have BK155 := n1_
 have HB := n2_
 clear n0_ n1_ n2_
 refine start_ (n := 15) (S := fun w' => w'.cell? ⟨gb154, 0, none⟩ = some (.string a0_0) ∧ w'.cell? ⟨gb154, 1, none⟩ = some (.string a0_1) ∧ w'.cell? ⟨gb154, 2, none⟩ = some (.int .i64 a0_2) ∧ w'.cell? ⟨gb154, 3, none⟩ = some (.slice A0_3 l0_3.length c0_3) ∧ w'.cell? ⟨gb154, 4, none⟩ = some (.bool a0_4) ∧ w'.cell? ⟨gb154, 5, none⟩ = some (.slice A0_5 l0_5.length c0_5) ∧ w'.cell? ⟨gb154, 6, none⟩ = some (.slice A0_6 l0_6.length c0_6)) (ds := [10, 12, 14]) #[false, false, false, false, false, false, false, false, false, false, false, false, false, false, false] (by kernel_rfl) rfl rfl ⟨(blk_cell BK154.out 0).trans rfl, (blk_cell BK154.out 1).trans rfl, (blk_cell BK154.out 2).trans rfl, (blk_cell BK154.out 3).trans rfl, (blk_cell BK154.out 4).trans rfl, (blk_cell BK154.out 5).trans rfl, (blk_cell BK154.out 6).trans rfl⟩ (fun hHeld => ?_); refine with_tabW record_Copy.tab1 record_Copy.bits1 (fun HT_ HW_ => ?_)
 generalize w6.drew = w7 at BK154 BK155 HB hHeld ⊢
 refine pure_ (i := 0) (N := some 3) (v := ?_) (a' := ?_) #[true, false, false, false, false, false, false, false, false, false, false, false, false, false, false] rfl rfl (any_of HT_.out (by kernel_rfl)) (fun _ _ _ h => h) (Or.inl ⟨by rfl, ?_⟩) ?_ ?_
 rotate_left
 ·intro w'
  go_simp
  with_reducible rfl
 rotate_left
 ·simp only [Act.put, List.setIfInBounds_toArray, List.set_cons_zero, List.set_cons_succ, i64_w, i32_w]
  rfl
 refine pure_ (i := 3) (N := some 6) (v := ?_) (a' := ?_) #[true, false, false, true, false, false, false, false, false, false, false, false, false, false, false] rfl rfl (any_of HT_.out (by kernel_rfl)) (fun _ _ _ h => h) (Or.inl ⟨by rfl, ?_⟩) ?_ ?_
 rotate_left
 ·intro w'
  go_simp
  with_reducible rfl
 rotate_left
 ·simp only [Act.put, List.setIfInBounds_toArray, List.set_cons_zero, List.set_cons_succ, i64_w, i32_w]
  rfl
 refine pure_ (i := 6) (N := some 9) (v := ?_) (a' := ?_) #[true, false, false, true, false, false, true, false, false, false, false, false, false, false, false] rfl rfl (any_of HT_.out (by kernel_rfl)) (fun _ _ _ h => h) (Or.inl ⟨by rfl, ?_⟩) ?_ ?_
 rotate_left
 ·intro w'
  go_simp
  with_reducible rfl
 rotate_left
 ·simp only [Act.put, List.setIfInBounds_toArray, List.set_cons_zero, List.set_cons_succ, i64_w, i32_w]
  rfl
 refine take_ (i := 1) (N := some 4) (v := ?_) (a' := ?_) #[true, true, false, true, false, false, true, false, false, false, false, false, false, false, false] rfl rfl (take_ofW HT_.out HW_.out (by kernel_rfl)) (fun _ _ _ h => h) (Or.inl ⟨by rfl, ?_⟩) hHeld ?_ ?_
 rotate_left
 ·rintro w' ⟨s0, s1, s2, s3, s4, s5, s6⟩
  go_simp
  with_reducible rfl
 rotate_left
 ·simp only [Act.put, List.setIfInBounds_toArray, List.set_cons_zero, List.set_cons_succ, i64_w, i32_w]
  rfl
 refine take_ (i := 4) (N := some 7) (v := ?_) (a' := ?_) #[true, true, false, true, true, false, true, false, false, false, false, false, false, false, false] rfl rfl (take_ofW HT_.out HW_.out (by kernel_rfl)) (fun _ _ _ h => h) (Or.inl ⟨by rfl, ?_⟩) hHeld ?_ ?_
 rotate_left
 ·rintro w' ⟨s0, s1, s2, s3, s4, s5, s6⟩
  go_simp
  with_reducible rfl
 rotate_left
 ·simp only [Act.put, List.setIfInBounds_toArray, List.set_cons_zero, List.set_cons_succ, i64_w, i32_w]
  rfl
 refine take_ (i := 7) (N := some 10) (v := ?_) (a' := ?_) #[true, true, false, true, true, false, true, true, false, false, false, false, false, false, false] rfl rfl (take_ofW HT_.out HW_.out (by kernel_rfl)) (fun _ _ _ h => h) (Or.inl ⟨by rfl, ?_⟩) hHeld ?_ ?_
 rotate_left
 ·rintro w' ⟨s0, s1, s2, s3, s4, s5, s6⟩
  go_simp
  with_reducible rfl
 rotate_left
 ·simp only [Act.put, List.setIfInBounds_toArray, List.set_cons_zero, List.set_cons_succ, i64_w, i32_w]
  rfl
 refine one_ (i := 2) (N := some 5) #[true, true, true, true, true, false, true, true, false, false, false, false, false, false, false] rfl rfl (one_of HT_.out (by kernel_rfl)) (by decide) (fun K hK => ?_)
 refine goes_ Tryd.func33 (by kernel_rfl) rfl #[.slice A0_3 l0_3.length c0_3] (by rfl) rfl rfl (by (try simp only [List.map_toArray, List.map_cons, List.map_nil]); first | done | rfl | (simp only [List.length_drop, List.length_take]; rfl)) ?_
 with_reducible refine (api_Field_33.calls _ _ l0_3 t156 _ ?side1 ?side2 A2.out).mono ?_
 (case side1 => repeat (first | exact (Kd.C_below HR0_3.out HB.out) | (with_reducible refine Kd.C_alloc ?_ _) | (with_reducible refine Kd.C_drewN ?_ _) | (with_reducible refine Kd.C_drew ?_)))
 (case side2 => exact HC0_3.out)
 rintro e w8 ⟨v157, rfl, ho0, hb⟩
 refine ⟨_, rfl, ?_⟩
 have n0_ := Aside0.mk (Kd.R_lower ho0 (below_size Mark.h))
 have n1_ := Aside0.mk (blk_below (g := gb154) (o := .cells #[.string a0_0, .string a0_1, .int .i64 a0_2, .slice A0_3 l0_3.length c0_3, .bool a0_4, .slice A0_5 l0_5.length c0_5, .slice A0_6 l0_6.length c0_6] 25 (0, 0)) (Mark.b BK154) hb)
 have n2_ := Aside0.mk (blk_below (g := gb155) (o := .cells #[.string (⟨#[]⟩ : ByteArray), .string (⟨#[]⟩ : ByteArray), .int .i64 0, .slice none 0 0, .bool false, .slice none 0 0, .slice none 0 0] 25 (0, 0)) (Mark.b BK155) hb)
 have n3_ := Aside0.mk (below_step Mark.h hb)
 clear BK154
 clear BK155
 clear HB
 have HO158 := n0_
 have BK154 := n1_
 have BK155 := n2_
 have HB := n3_
 clear n0_ n1_ n2_ n3_
 (try clear hb)
 (try clear hb2)
 (try clear hk)
 (try clear hi)
 (try clear ho0)
 refine hK.out _ _ ⟨(blk_cell BK154.out 0).trans rfl, (blk_cell BK154.out 1).trans rfl, (blk_cell BK154.out 2).trans rfl, (blk_cell BK154.out 3).trans rfl, (blk_cell BK154.out 4).trans rfl, (blk_cell BK154.out 5).trans rfl, (blk_cell BK154.out 6).trans rfl⟩ (fun hHeld => ?_)
 clear hK K
 refine norm_ (a' := ?_) ?_ ?_
 rotate_left
 ·show Act.put _ (some 5) _ = _
  simp only [Act.put, List.setIfInBounds_toArray, List.set_cons_zero, List.set_cons_succ, i64_w, i32_w]
  rfl
 refine pure_ (i := 9) (N := some 12) (v := ?_) (a' := ?_) #[true, true, true, true, true, false, true, true, false, true, false, false, false, false, false] rfl rfl (any_of HT_.out (by kernel_rfl)) (fun _ _ _ h => h) (Or.inl ⟨by rfl, ?_⟩) ?_ ?_
 rotate_left
 ·intro w'
  go_simp
  with_reducible rfl
 rotate_left
 ·simp only [Act.put, List.setIfInBounds_toArray, List.set_cons_zero, List.set_cons_succ, i64_w, i32_w]
  rfl
 refine one_ (i := 5) (N := some 8) #[true, true, true, true, true, true, true, true, false, true, false, false, false, false, false] rfl rfl (one_of HT_.out (by kernel_rfl)) (by decide) (fun K hK => ?_)
 refine goes_ Tryd.func34 (by kernel_rfl) rfl #[.slice A0_5 l0_5.length c0_5] (by rfl) rfl rfl (by (try simp only [List.map_toArray, List.map_cons, List.map_nil]); first | done | rfl | (simp only [List.length_drop, List.length_take]; rfl)) ?_
 with_reducible refine (slices_Clone_byte_byte.calls _ _ l0_5 t159 _ ?side1 ?side2 A3.out).mono ?_
 (case side1 => repeat (first | exact (Kd.C_below HR0_5.out HB.out) | (with_reducible refine Kd.C_alloc ?_ _) | (with_reducible refine Kd.C_drewN ?_ _) | (with_reducible refine Kd.C_drew ?_)))
 (case side2 => exact HC0_5.out)
 rintro e w9 ⟨v160, rfl, ho0, hb⟩
 refine ⟨_, rfl, ?_⟩
 have n0_ := Aside0.mk (Kd.R_below (Mark.r HO158) hb)
 have n1_ := Aside0.mk (Kd.R_lower ho0 (below_size Mark.h))
 have n2_ := Aside0.mk (blk_below (g := gb154) (o := .cells #[.string a0_0, .string a0_1, .int .i64 a0_2, .slice A0_3 l0_3.length c0_3, .bool a0_4, .slice A0_5 l0_5.length c0_5, .slice A0_6 l0_6.length c0_6] 25 (0, 0)) (Mark.b BK154) hb)
 have n3_ := Aside0.mk (blk_below (g := gb155) (o := .cells #[.string (⟨#[]⟩ : ByteArray), .string (⟨#[]⟩ : ByteArray), .int .i64 0, .slice none 0 0, .bool false, .slice none 0 0, .slice none 0 0] 25 (0, 0)) (Mark.b BK155) hb)
 have n4_ := Aside0.mk (below_step Mark.h hb)
 clear HO158
 clear BK154
 clear BK155
 clear HB
 have HO158 := n0_
 have HO161 := n1_
 have BK154 := n2_
 have BK155 := n3_
 have HB := n4_
 clear n0_ n1_ n2_ n3_ n4_
 (try clear hb)
 (try clear hb2)
 (try clear hk)
 (try clear hi)
 (try clear ho0)
 refine hK.out _ _ ⟨(blk_cell BK154.out 0).trans rfl, (blk_cell BK154.out 1).trans rfl, (blk_cell BK154.out 2).trans rfl, (blk_cell BK154.out 3).trans rfl, (blk_cell BK154.out 4).trans rfl, (blk_cell BK154.out 5).trans rfl, (blk_cell BK154.out 6).trans rfl⟩ (fun hHeld => ?_)
 clear hK K
 refine norm_ (a' := ?_) ?_ ?_
 rotate_left
 ·show Act.put _ (some 8) _ = _
  simp only [Act.put, List.setIfInBounds_toArray, List.set_cons_zero, List.set_cons_succ, i64_w, i32_w]
  rfl
 refine one_ (i := 8) (N := some 11) #[true, true, true, true, true, true, true, true, true, true, false, false, false, false, false] rfl rfl (one_of HT_.out (by kernel_rfl)) (by decide) (fun K hK => ?_)
 refine goes_ Tryd.func33 (by kernel_rfl) rfl #[.slice A0_6 l0_6.length c0_6] (by rfl) rfl rfl (by (try simp only [List.map_toArray, List.map_cons, List.map_nil]); first | done | rfl | (simp only [List.length_drop, List.length_take]; rfl)) ?_
 with_reducible refine (api_Field_33.calls _ _ l0_6 t162 _ ?side1 ?side2 A4.out).mono ?_
 (case side1 => repeat (first | exact (Kd.C_below HR0_6.out HB.out) | (with_reducible refine Kd.C_alloc ?_ _) | (with_reducible refine Kd.C_drewN ?_ _) | (with_reducible refine Kd.C_drew ?_)))
 (case side2 => exact HC0_6.out)
 rintro e w10 ⟨v163, rfl, ho0, hb⟩
 refine ⟨_, rfl, ?_⟩
 have n0_ := Aside0.mk (Kd.R_elder' (Mark.r HO158) (Kd.R_base ho0) hb)
 have n1_ := Aside0.mk (Kd.R_below (Mark.r HO161) hb)
 have n2_ := Aside0.mk (Kd.R_lower (Kd.R_new' ho0 (Kd.R_lt (Mark.r HO158))) (below_size Mark.h))
 have n3_ := Aside0.mk (blk_below (g := gb154) (o := .cells #[.string a0_0, .string a0_1, .int .i64 a0_2, .slice A0_3 l0_3.length c0_3, .bool a0_4, .slice A0_5 l0_5.length c0_5, .slice A0_6 l0_6.length c0_6] 25 (0, 0)) (Mark.b BK154) hb)
 have n4_ := Aside0.mk (blk_below (g := gb155) (o := .cells #[.string (⟨#[]⟩ : ByteArray), .string (⟨#[]⟩ : ByteArray), .int .i64 0, .slice none 0 0, .bool false, .slice none 0 0, .slice none 0 0] 25 (0, 0)) (Mark.b BK155) hb)
 have n5_ := Aside0.mk (below_step Mark.h hb)
 clear HO158
 clear HO161
 clear BK154
 clear BK155
 clear HB
 have HO158 := n0_
 have HO161 := n1_
 have HO164 := n2_
 have BK154 := n3_
 have BK155 := n4_
 have HB := n5_
 clear n0_ n1_ n2_ n3_ n4_ n5_
 (try clear hb)
 (try clear hb2)
 (try clear hk)
 (try clear hi)
 (try clear ho0)
 obtain ⟨Ao11, co11, eo11⟩ := Kd.R_slice HO158.out
 (first | subst eo11 | (injection eo11 with f1_ f2_ f3_; have f4_ := f1_.symm; have f5_ := f3_.symm; clear f1_ f2_ f3_; subst f4_; subst f5_))
 obtain ⟨Ao13, co13, eo13⟩ := Kd.R_slice HO161.out
 (first | subst eo13 | (injection eo13 with f1_ f2_ f3_; have f4_ := f1_.symm; have f5_ := f3_.symm; clear f1_ f2_ f3_; subst f4_; subst f5_))
 obtain ⟨Ao15, co15, eo15⟩ := Kd.R_slice HO164.out
 (first | subst eo15 | (injection eo15 with f1_ f2_ f3_; have f4_ := f1_.symm; have f5_ := f3_.symm; clear f1_ f2_ f3_; subst f4_; subst f5_))
 refine hK.out _ _ ⟨(blk_cell BK154.out 0).trans rfl, (blk_cell BK154.out 1).trans rfl, (blk_cell BK154.out 2).trans rfl, (blk_cell BK154.out 3).trans rfl, (blk_cell BK154.out 4).trans rfl, (blk_cell BK154.out 5).trans rfl, (blk_cell BK154.out 6).trans rfl⟩ (fun hHeld => ?_)
 clear hK K
 refine norm_ (a' := ?_) ?_ ?_
 rotate_left
 ·show Act.put _ (some 11) _ = _
  simp only [Act.put, List.setIfInBounds_toArray, List.set_cons_zero, List.set_cons_succ, i64_w, i32_w]
  rfl
 refine last_ (i := 10) (N := none) #[true, true, true, true, true, true, true, true, true, true, true, false, false, false, false] rfl rfl (one_of HT_.out (by kernel_rfl)) (by decide) (fun K hK => ?_)
 have hs12 : w10.cell? ⟨gb154, 3, none⟩ = some (.slice A0_3 l0_3.length c0_3) := (blk_cell BK154.out 3).trans rfl
 have hfs12 := blk_frozen BK154.out 3
 have hns12_1 := NB155_154.out
 have hms12_1 := NB154_155.out
 refine skip_ (w1 := ?_) (by rfl) rfl ?_ ?_
 rotate_left
 ·go_simp
  rfl
 refine hK.out _ _ ?_
 clear hK K
 refine pure_ (i := 11) (N := some 13) (v := ?_) (a' := ?_) #[true, true, true, true, true, true, true, true, true, true, true, true, false, false, false] rfl rfl (any_of HT_.out (by kernel_rfl)) (fun _ _ _ h => h) (Or.inl ⟨by rfl, ?_⟩) ?_ ?_
 rotate_left
 ·intro w'
  go_simp
  with_reducible rfl
 rotate_left
 ·simp only [Act.put, List.setIfInBounds_toArray, List.set_cons_zero, List.set_cons_succ, i64_w, i32_w]
  rfl
 refine last_ (i := 12) (N := none) #[true, true, true, true, true, true, true, true, true, true, true, true, true, false, false] rfl rfl (one_of HT_.out (by kernel_rfl)) (by decide) (fun K hK => ?_)
 have hs14 : w10.cell? ⟨gb154, 5, none⟩ = some (.slice A0_5 l0_5.length c0_5) := (blk_cell BK154.out 5).trans rfl
 have hfs14 := blk_frozen BK154.out 5
 have hns14_1 := NB155_154.out
 have hms14_1 := NB154_155.out
 refine skip_ (w1 := ?_) (by rfl) rfl ?_ ?_
 rotate_left
 ·go_simp
  rfl
 refine hK.out _ _ ?_
 clear hK K
 refine pure_ (i := 13) (N := some 14) (v := ?_) (a' := ?_) #[true, true, true, true, true, true, true, true, true, true, true, true, true, true, false] rfl rfl (any_of HT_.out (by kernel_rfl)) (fun _ _ _ h => h) (Or.inl ⟨by rfl, ?_⟩) ?_ ?_
 rotate_left
 ·intro w'
  go_simp
  with_reducible rfl
 rotate_left
 ·simp only [Act.put, List.setIfInBounds_toArray, List.set_cons_zero, List.set_cons_succ, i64_w, i32_w]
  rfl
 refine last_ (i := 14) (N := none) #[true, true, true, true, true, true, true, true, true, true, true, true, true, true, true] rfl rfl (one_of HT_.out (by kernel_rfl)) (by decide) (fun K hK => ?_)
 have hs16 : w10.cell? ⟨gb154, 6, none⟩ = some (.slice A0_6 l0_6.length c0_6) := (blk_cell BK154.out 6).trans rfl
 have hfs16 := blk_frozen BK154.out 6
 have hns16_1 := NB155_154.out
 have hms16_1 := NB154_155.out
 refine skip_ (w1 := ?_) (by rfl) rfl ?_ ?_
 rotate_left
 ·go_simp
  rfl
 refine hK.out _ _ ?_
 clear hK K
 refine done_ (done_of HT_.out (by kernel_rfl)) ?_
 have hnb17 := NB154_155.out
 have hnc17 := NB155_154.out
 have hcz18_0 : w10.cell? ⟨gb154, 0, none⟩ = some (.string a0_0) := (blk_cell BK154.out 0).trans rfl
 have hcz18_1 : w10.cell? ⟨gb154, 1, none⟩ = some (.string a0_1) := (blk_cell BK154.out 1).trans rfl
 have hcz18_2 : w10.cell? ⟨gb154, 2, none⟩ = some (.int .i64 a0_2) := (blk_cell BK154.out 2).trans rfl
 have hcz18_3 : w10.cell? ⟨gb154, 3, none⟩ = some (.slice A0_3 l0_3.length c0_3) := (blk_cell BK154.out 3).trans rfl
 have hcz18_4 : w10.cell? ⟨gb154, 4, none⟩ = some (.bool a0_4) := (blk_cell BK154.out 4).trans rfl
 have hcz18_5 : w10.cell? ⟨gb154, 5, none⟩ = some (.slice A0_5 l0_5.length c0_5) := (blk_cell BK154.out 5).trans rfl
 have hcz18_6 : w10.cell? ⟨gb154, 6, none⟩ = some (.slice A0_6 l0_6.length c0_6) := (blk_cell BK154.out 6).trans rfl
 have hfz18_0 := blk_frozen BK154.out 0
 have hfz18_1 := blk_frozen BK154.out 1
 have hfz18_2 := blk_frozen BK154.out 2
 have hfz18_3 := blk_frozen BK154.out 3
 have hfz18_4 := blk_frozen BK154.out 4
 have hfz18_5 := blk_frozen BK154.out 5
 have hfz18_6 := blk_frozen BK154.out 6
 have hcz19_0 : w10.cell? ⟨gb155, 0, none⟩ = some (.string (⟨#[]⟩ : ByteArray)) := (blk_cell BK155.out 0).trans rfl
 have hcz19_1 : w10.cell? ⟨gb155, 1, none⟩ = some (.string (⟨#[]⟩ : ByteArray)) := (blk_cell BK155.out 1).trans rfl
 have hcz19_2 : w10.cell? ⟨gb155, 2, none⟩ = some (.int .i64 0) := (blk_cell BK155.out 2).trans rfl
 have hcz19_3 : w10.cell? ⟨gb155, 3, none⟩ = some (.slice none 0 0) := (blk_cell BK155.out 3).trans rfl
 have hcz19_4 : w10.cell? ⟨gb155, 4, none⟩ = some (.bool false) := (blk_cell BK155.out 4).trans rfl
 have hcz19_5 : w10.cell? ⟨gb155, 5, none⟩ = some (.slice none 0 0) := (blk_cell BK155.out 5).trans rfl
 have hcz19_6 : w10.cell? ⟨gb155, 6, none⟩ = some (.slice none 0 0) := (blk_cell BK155.out 6).trans rfl
 have hfz19_0 := blk_frozen BK155.out 0
 have hfz19_1 := blk_frozen BK155.out 1
 have hfz19_2 := blk_frozen BK155.out 2
 have hfz19_3 := blk_frozen BK155.out 3
 have hfz19_4 := blk_frozen BK155.out 4
 have hfz19_5 := blk_frozen BK155.out 5
 have hfz19_6 := blk_frozen BK155.out 6
 try go_wp2
 refine bodyPost_ret (results_cell_row rfl _ _ gb155 25 #[.string a0_0, .string a0_1, .int .i64 a0_2, .slice Ao11 t156.length co11, .bool a0_4, .slice Ao13 t159.length co13, .slice Ao15 t162.length co15] (0, 0) _ rfl (by (with_reducible repeat (first | refine blk_drewN ?_ _ | refine blk_drew ?_ | refine blk_alloc ?_ _)); refine blk_put (cs := #[.string a0_0, .string a0_1, .int .i64 a0_2, .slice Ao11 t156.length co11, .bool a0_4, .slice Ao13 t159.length co13, .slice none 0 0]) ?_ 6 _ rfl; (with_reducible repeat (first | refine blk_drewN ?_ _ | refine blk_drew ?_ | refine blk_alloc ?_ _)); refine blk_put (cs := #[.string a0_0, .string a0_1, .int .i64 a0_2, .slice Ao11 t156.length co11, .bool a0_4, .slice none 0 0, .slice none 0 0]) ?_ 5 _ rfl; (with_reducible repeat (first | refine blk_drewN ?_ _ | refine blk_drew ?_ | refine blk_alloc ?_ _)); refine blk_put (cs := #[.string a0_0, .string a0_1, .int .i64 a0_2, .slice Ao11 t156.length co11, .bool false, .slice none 0 0, .slice none 0 0]) ?_ 4 _ rfl; (with_reducible repeat (first | refine blk_drewN ?_ _ | refine blk_drew ?_ | refine blk_alloc ?_ _)); refine blk_put (cs := #[.string a0_0, .string a0_1, .int .i64 a0_2, .slice none 0 0, .bool false, .slice none 0 0, .slice none 0 0]) ?_ 3 _ rfl; (with_reducible repeat (first | refine blk_drewN ?_ _ | refine blk_drew ?_ | refine blk_alloc ?_ _)); refine blk_put (cs := #[.string a0_0, .string a0_1, .int .i64 0, .slice none 0 0, .bool false, .slice none 0 0, .slice none 0 0]) ?_ 2 _ rfl; (with_reducible repeat (first | refine blk_drewN ?_ _ | refine blk_drew ?_ | refine blk_alloc ?_ _)); refine blk_put (cs := #[.string a0_0, .string (⟨#[]⟩ : ByteArray), .int .i64 0, .slice none 0 0, .bool false, .slice none 0 0, .slice none 0 0]) ?_ 1 _ rfl; (with_reducible repeat (first | refine blk_drewN ?_ _ | refine blk_drew ?_ | refine blk_alloc ?_ _)); refine blk_put (cs := #[.string (⟨#[]⟩ : ByteArray), .string (⟨#[]⟩ : ByteArray), .int .i64 0, .slice none 0 0, .bool false, .slice none 0 0, .slice none 0 0]) ?_ 0 _ rfl; (repeat ((with_reducible repeat (first | refine blk_drewN ?_ _ | refine blk_drew ?_ | refine blk_alloc ?_ _)); refine blk_far ?_ NB155_154.out _)); (with_reducible repeat (first | refine blk_drewN ?_ _ | refine blk_drew ?_ | refine blk_alloc ?_ _)); exact BK155.out) Tryd.underlying25 rfl (by kernel_rfl)) rfl ?_
 exact ⟨_, _, _, by first | rfl | (simp [errW_none, errW_some] <;> rfl) | (simp [*, errW_none, errW_some] <;> rfl), by (with_reducible repeat (first | apply Kd.R_alloc | apply Kd.R_drewN | apply Kd.R_drew)); exact Kd.R_mono (Kd.R_far (p := ⟨gb155, 6, none⟩) (Kd.R_far (p := ⟨gb155, 5, none⟩) (Kd.R_far (p := ⟨gb155, 4, none⟩) (Kd.R_far (p := ⟨gb155, 3, none⟩) (Kd.R_far (p := ⟨gb155, 2, none⟩) (Kd.R_far (p := ⟨gb155, 1, none⟩) (Kd.R_far (p := ⟨gb155, 0, none⟩) (Kd.R_far (p := ⟨gb154, 6, none⟩) (Kd.R_far (p := ⟨gb154, 5, none⟩) (Kd.R_far (p := ⟨gb154, 3, none⟩) (Kd.R_types (Kd.R_types HO158.out BK154.out (by decide)) BK155.out (by decide)) (fun _ hk => hk.1.2) (.slice Ao11 t156.length co11)) (fun _ hk => hk.1.2) (.slice Ao13 t159.length co13)) (fun _ hk => hk.1.2) (.slice Ao15 t162.length co15)) Mark.K (.string a0_0)) Mark.K (.string a0_1)) Mark.K (.int .i64 a0_2)) Mark.K (.slice Ao11 t156.length co11)) Mark.K (.bool a0_4)) Mark.K (.slice Ao13 t159.length co13)) Mark.K (.slice Ao15 t162.length co15)) (fun _ hk => hk.1.1.2), by (with_reducible repeat (first | apply Kd.R_alloc | apply Kd.R_drewN | apply Kd.R_drew)); exact Kd.R_mono (Kd.R_far (p := ⟨gb155, 6, none⟩) (Kd.R_far (p := ⟨gb155, 5, none⟩) (Kd.R_far (p := ⟨gb155, 4, none⟩) (Kd.R_far (p := ⟨gb155, 3, none⟩) (Kd.R_far (p := ⟨gb155, 2, none⟩) (Kd.R_far (p := ⟨gb155, 1, none⟩) (Kd.R_far (p := ⟨gb155, 0, none⟩) (Kd.R_far (p := ⟨gb154, 6, none⟩) (Kd.R_far (p := ⟨gb154, 5, none⟩) (Kd.R_far (p := ⟨gb154, 3, none⟩) (Kd.R_types (Kd.R_types HO161.out BK154.out (by decide)) BK155.out (by decide)) (fun _ hk => hk.1.2) (.slice Ao11 t156.length co11)) (fun _ hk => hk.1.2) (.slice Ao13 t159.length co13)) (fun _ hk => hk.1.2) (.slice Ao15 t162.length co15)) Mark.K (.string a0_0)) Mark.K (.string a0_1)) Mark.K (.int .i64 a0_2)) Mark.K (.slice Ao11 t156.length co11)) Mark.K (.bool a0_4)) Mark.K (.slice Ao13 t159.length co13)) Mark.K (.slice Ao15 t162.length co15)) (fun _ hk => trivial), by (with_reducible repeat (first | apply Kd.R_alloc | apply Kd.R_drewN | apply Kd.R_drew)); exact Kd.R_mono (Kd.R_far (p := ⟨gb155, 6, none⟩) (Kd.R_far (p := ⟨gb155, 5, none⟩) (Kd.R_far (p := ⟨gb155, 4, none⟩) (Kd.R_far (p := ⟨gb155, 3, none⟩) (Kd.R_far (p := ⟨gb155, 2, none⟩) (Kd.R_far (p := ⟨gb155, 1, none⟩) (Kd.R_far (p := ⟨gb155, 0, none⟩) (Kd.R_far (p := ⟨gb154, 6, none⟩) (Kd.R_far (p := ⟨gb154, 5, none⟩) (Kd.R_far (p := ⟨gb154, 3, none⟩) (Kd.R_types (Kd.R_types HO164.out BK154.out (by decide)) BK155.out (by decide)) (fun _ hk => hk.1.2) (.slice Ao11 t156.length co11)) (fun _ hk => hk.1.2) (.slice Ao13 t159.length co13)) (fun _ hk => hk.1.2) (.slice Ao15 t162.length co15)) Mark.K (.string a0_0)) Mark.K (.string a0_1)) Mark.K (.int .i64 a0_2)) Mark.K (.slice Ao11 t156.length co11)) Mark.K (.bool a0_4)) Mark.K (.slice Ao13 t159.length co13)) Mark.K (.slice Ao15 t162.length co15)) (fun _ hk => hk.1.1.2), Mark.h⟩

/-! ### api_Record: function 35 -/
def api_Record.l0 : Nat → List (S25) → List (S25) → Int → Int → Option (Bool)
 | 0, _, _, _, _ => none
 | k + 1, x1, x15, x16, x17 => if x17 < x16 then (if 0 ≤ x17 then (if x17 < (x15.length : Int) then (if x17 < (x1.length : Int) then ((record_Same.f k ((rd_T25 x15 x17).f0) ((rd_T25 x15 x17).f1) ((rd_T25 x15 x17).f2) ((rd_T25 x15 x17).f3) ((rd_T25 x15 x17).f4) ((rd_T25 x15 x17).f5) ((rd_T25 x15 x17).f6) ((rd_T25 x1 x17).f0) ((rd_T25 x1 x17).f1) ((rd_T25 x1 x17).f2) ((rd_T25 x1 x17).f3) ((rd_T25 x1 x17).f4) ((rd_T25 x1 x17).f5) ((rd_T25 x1 x17).f6)).bind fun t169 => (if t169 = true then (api_Record.l0 k x1 x15 x16 (wrap64 (x17 + 1))) else (some false))) else (none)) else (none)) else (none)) else (some true)
def api_Record.f (k : Nat) (l0 : List (S25)) (l1 : List (S25))  : Option (Bool) := if (l0.length : Int) = (l1.length : Int) then (api_Record.l0 k l1 l0 (l0.length : Int) 0) else (some false)
theorem api_Record.mono_l : ∀ k, (∀ y0 y1 y2 y3, LeO (api_Record.l0 k y0 y1 y2 y3) (api_Record.l0 (k + 1) y0 y1 y2 y3))
 | 0 => fun _ _ _ _ r h => by simp [api_Record.l0] at h
 | k + 1 => by
  have ih0 := api_Record.mono_l k
  ·intro y0 y1 y2 y3
   unfold api_Record.l0
   repeat' first
   | (with_reducible exact ih0 _ _ _ _)
   | (with_reducible exact record_Same.mono _ _ _ _ _ _ _ _ _ _ _ _ _ _ _)
   | (with_reducible exact LeO.refl _)
   | (with_reducible exact LeO.none _)
   | (with_reducible refine LeO.ite ?_ ?_)
   | (with_reducible refine LeO.bind ?_ (fun _ => ?_))
   | exact ih0 _ _ _ _
   | exact record_Same.mono _ _ _ _ _ _ _ _ _ _ _ _ _ _ _
   | exact LeO.none _
   | refine LeO.ite ?_ ?_
   | refine LeO.bind ?_ (fun _ => ?_)
theorem api_Record.mono : ∀ a0 a1 k, LeO (api_Record.f k a0 a1) (api_Record.f (k + 1) a0 a1) := by
 intro a0 a1 k
 have ih0 := api_Record.mono_l k
 unfold api_Record.f
 repeat' first
   | (with_reducible exact ih0 _ _ _ _)
   | (with_reducible exact record_Same.mono _ _ _ _ _ _ _ _ _ _ _ _ _ _ _)
   | (with_reducible exact LeO.refl _)
   | (with_reducible exact LeO.none _)
   | (with_reducible refine LeO.ite ?_ ?_)
   | (with_reducible refine LeO.bind ?_ (fun _ => ?_))
   | exact ih0 _ _ _ _
   | exact record_Same.mono _ _ _ _ _ _ _ _ _ _ _ _ _ _ _
   | exact LeO.none _
   | refine LeO.ite ?_ ?_
   | refine LeO.bind ?_ (fun _ => ?_)
set_option maxHeartbeats 8000000 in
set_option maxRecDepth 100000 in
theorem api_Record.calls (k : Nat) (A0 : Option Addr) (c0 : Nat) (l0 : List (S25)) (A1 : Option Addr) (c1 : Nat) (l1 : List (S25))  (r : Bool) (w : World) (hr0 : Kd.C k25 w A0 l0.length l0) (hc0 : l0.length ≤ c0) (hr1 : Kd.C k25 w A1 l1.length l1) (hc1 : l1.length ≤ c1) (h : api_Record.f k l0 l1 = some r) :
  Calls Tryd.prog 35 #[.slice A0 l0.length c0, .slice A1 l1.length c1, .func (Fn.func 10) #[] #[]] w fun e w' => e = .returned (.bool r) ∧ Below w.heap.size w w' := by
 have hu25 := Tryd.underlying25
 have HR0 := Aside0.mk hr0
 have HC0 := Aside0.mk hc0
 clear hr0 hc0
 have HR1 := Aside0.mk hr1
 have HC1 := Aside0.mk hc1
 clear hr1 hc1
 have HB := Aside0.mk (Below.refl w.heap.size w)
 have H : (if (l0.length : Int) = (l1.length : Int) then (api_Record.l0 k l1 l0 (l0.length : Int) 0) else (some false)) = some r := h
 clear h
 by_cases c4 : (l0.length : Int) = (l1.length : Int)
 ·rw [if_pos c4] at H
  have c4b0 : ((l0.length : Int) == (l1.length : Int)) = true := beq_iff_eq.mpr c4
  have c4b1 : ((l0.length : Int) != (l1.length : Int)) = false := bne_eq_false_iff_eq.mpr c4
  have c4b2 : (l0.length == l1.length) = true := by first | simpa using c4 | (simp at c4 ⊢; omega)
  clear c4
  have H' := Aside0.mk H
  clear H
  go_enter Tryd.func35, Tryd.ntmps35
  go_wp2
  go_loopg [17] k (fun kq v17 w' => ∃ (x17_1 : Int), v17 = .int .i64 x17_1 ∧ Aside0 (api_Record.l0 kq l1 l0 (l0.length : Int) x17_1 = some r) ∧ Aside0 (kq ≤ k) ∧ Aside0 (Below w.heap.size w w'))
  case atStart => exact ⟨(0), (by first | rfl | (simp; done) | (simp [*]; done)), H', ⟨Nat.le_refl _⟩, ⟨Mark.h⟩⟩
  case round =>
   clear H'
   try clear c1
   try clear p2
   try clear c3
   try clear c4
   try clear c4b0
   try clear c4b1
   try clear c4b2
   obtain ⟨x17_1, rfl, HA, HK1, HB⟩ := hrel
   cases gk with
   | zero => exact absurd HA.out (by simp [api_Record.l0])
   | succ k1 =>
    have H := HA.out
    clear HA
    simp only [api_Record.l0] at H
    by_cases c5 : x17_1 < (l0.length : Int)
    ·rw [if_pos c5] at H
     have c5b0 : decide (x17_1 < (l0.length : Int)) = true := decide_eq_true c5
     clear c5
     by_cases c6 : 0 ≤ x17_1
     ·rw [if_pos c6] at H
      have c6b0 : decide (0 ≤ x17_1) = true := decide_eq_true c6
      clear c6
      by_cases c7 : x17_1 < (l0.length : Int)
      ·rw [if_pos c7] at H
       have c7b0 : decide (x17_1 < (l0.length : Int)) = true := decide_eq_true c7
       clear c7
       by_cases c8 : x17_1 < (l1.length : Int)
       ·rw [if_pos c8] at H
        have c8b0 : decide (x17_1 < (l1.length : Int)) = true := decide_eq_true c8
        clear c8
        replace H := Option.bind_eq_some_iff.mp H
        obtain ⟨t169, A90, H⟩ := H
        replace H : (if t169 = true then (api_Record.l0 k1 l1 l0 (l0.length : Int) (wrap64 (x17_1 + 1))) else (some false)) = some r := H
        have A9 := Aside0.mk A90
        clear A90
        by_cases c10 : t169 = true
        ·subst c10
         have H1 : (api_Record.l0 k1 l1 l0 (l0.length : Int) (wrap64 (x17_1 + 1))) = some r := by rw [if_pos rfl] at H; exact H
         clear H
         have H := H1
         clear H1
         have H' := Aside0.mk H
         clear H
         have p165 : 0 ≤ (x17_1 : Int) := of_decide_eq_true (by first | (with_reducible assumption) | assumption)
         have q165 : x17_1 < (l0.length : Int) := of_decide_eq_true (by first | (with_reducible assumption) | assumption)
         obtain ⟨ad165, A165_3, c165_3, A165_5, c165_5, A165_6, c165_6, e165, hx165_0, hx165_1, hx165_2, hx165_3, hx165_4, hx165_5, hx165_6, hl165_3, hi165_3, hl165_5, hi165_5, hl165_6, hi165_6⟩ := at_T25 HR0.out x17_1 p165 q165
         cases e165
         replace hx165_0 := (HB.out.cell (World.block_lt_of_cell? w _ hx165_0)).trans hx165_0
         replace hx165_1 := (HB.out.cell (World.block_lt_of_cell? w _ hx165_1)).trans hx165_1
         replace hx165_2 := (HB.out.cell (World.block_lt_of_cell? w _ hx165_2)).trans hx165_2
         replace hx165_3 := (HB.out.cell (World.block_lt_of_cell? w _ hx165_3)).trans hx165_3
         replace hx165_4 := (HB.out.cell (World.block_lt_of_cell? w _ hx165_4)).trans hx165_4
         replace hx165_5 := (HB.out.cell (World.block_lt_of_cell? w _ hx165_5)).trans hx165_5
         replace hx165_6 := (HB.out.cell (World.block_lt_of_cell? w _ hx165_6)).trans hx165_6
         have HR165_3 := Aside0.mk hi165_3
         have HC165_3 := Aside0.mk hl165_3
         clear hi165_3 hl165_3
         have HR165_5 := Aside0.mk hi165_5
         have HC165_5 := Aside0.mk hl165_5
         clear hi165_5 hl165_5
         have HR165_6 := Aside0.mk hi165_6
         have HC165_6 := Aside0.mk hl165_6
         clear hi165_6 hl165_6
         replace p165 := eq_true p165
         replace q165 := eq_true q165
         go_wp2_with (first | ((with_reducible refine gate_dst (N := 8) rfl ?_); refine box_event ?hg (N := 8) ?hd (cs := #[.string (⟨#[]⟩ : ByteArray), .string (⟨#[]⟩ : ByteArray), .int .i64 0, .slice none 0 0, .bool false, .slice none 0 0, .slice none 0 0]) (t := 25) ?hr ?_; (case hd => rfl); (case hg => rfl); (case hr => first | (go_simp; done) | (go_simp; rfl)); intro gb166 hg w11 hbox hb; have n0_ := Aside0.mk (below_step Mark.h hb); have n1_ := Aside0.mk (hbox); have n2_ := Aside0.mk ((by rw [hg]; exact (below_size Mark.h) : w.heap.size ≤ gb166)); have n3_ := Aside0.mk ((by rw [hg]; exact (below_size Mark.h) : w.heap.size ≤ gb166)); clear HB; have HB := n0_; have BK166 := n1_; have GW166 := n2_; have GE166 := n3_; clear n0_ n1_ n2_ n3_; clear hb hbox hg; have hcz12_0 : w11.cell? ⟨gb166, 0, none⟩ = some (.string (⟨#[]⟩ : ByteArray)) := (blk_cell BK166.out 0).trans rfl; have hcz12_1 : w11.cell? ⟨gb166, 1, none⟩ = some (.string (⟨#[]⟩ : ByteArray)) := (blk_cell BK166.out 1).trans rfl; have hcz12_2 : w11.cell? ⟨gb166, 2, none⟩ = some (.int .i64 0) := (blk_cell BK166.out 2).trans rfl; have hcz12_3 : w11.cell? ⟨gb166, 3, none⟩ = some (.slice none 0 0) := (blk_cell BK166.out 3).trans rfl; have hcz12_4 : w11.cell? ⟨gb166, 4, none⟩ = some (.bool false) := (blk_cell BK166.out 4).trans rfl; have hcz12_5 : w11.cell? ⟨gb166, 5, none⟩ = some (.slice none 0 0) := (blk_cell BK166.out 5).trans rfl; have hcz12_6 : w11.cell? ⟨gb166, 6, none⟩ = some (.slice none 0 0) := (blk_cell BK166.out 6).trans rfl; have hfz12_0 := blk_frozen BK166.out 0; have hfz12_1 := blk_frozen BK166.out 1; have hfz12_2 := blk_frozen BK166.out 2; have hfz12_3 := blk_frozen BK166.out 3; have hfz12_4 := blk_frozen BK166.out 4; have hfz12_5 := blk_frozen BK166.out 5; have hfz12_6 := blk_frozen BK166.out 6; have p167 : 0 ≤ (x17_1 : Int) := of_decide_eq_true (by first | (with_reducible assumption) | assumption); have q167 : x17_1 < (l1.length : Int) := of_decide_eq_true (by first | (with_reducible assumption) | assumption); obtain ⟨ad167, A167_3, c167_3, A167_5, c167_5, A167_6, c167_6, e167, hx167_0, hx167_1, hx167_2, hx167_3, hx167_4, hx167_5, hx167_6, hl167_3, hi167_3, hl167_5, hi167_5, hl167_6, hi167_6⟩ := at_T25 HR1.out x17_1 p167 q167; cases e167; have hn167_0 : ad167.block ≠ gb166 := Nat.ne_of_lt (Nat.lt_of_lt_of_le (by have := World.block_lt_of_cell? _ _ hx167_0; first | rwa [add_block] at this | exact this) GW166.out); have hn167_1 : ad167.block ≠ gb166 := Nat.ne_of_lt (Nat.lt_of_lt_of_le (by have := World.block_lt_of_cell? _ _ hx167_0; first | rwa [add_block] at this | exact this) GW166.out); have hn167_2 : ad167.block ≠ gb166 := Nat.ne_of_lt (Nat.lt_of_lt_of_le (by have := World.block_lt_of_cell? _ _ hx167_0; first | rwa [add_block] at this | exact this) GW166.out); have hn167_3 : ad167.block ≠ gb166 := Nat.ne_of_lt (Nat.lt_of_lt_of_le (by have := World.block_lt_of_cell? _ _ hx167_0; first | rwa [add_block] at this | exact this) GW166.out); have hn167_4 : ad167.block ≠ gb166 := Nat.ne_of_lt (Nat.lt_of_lt_of_le (by have := World.block_lt_of_cell? _ _ hx167_0; first | rwa [add_block] at this | exact this) GW166.out); have hn167_5 : ad167.block ≠ gb166 := Nat.ne_of_lt (Nat.lt_of_lt_of_le (by have := World.block_lt_of_cell? _ _ hx167_0; first | rwa [add_block] at this | exact this) GW166.out); have hn167_6 : ad167.block ≠ gb166 := Nat.ne_of_lt (Nat.lt_of_lt_of_le (by have := World.block_lt_of_cell? _ _ hx167_0; first | rwa [add_block] at this | exact this) GW166.out); replace hx167_0 := (HB.out.cell (World.block_lt_of_cell? w _ hx167_0)).trans hx167_0; replace hx167_1 := (HB.out.cell (World.block_lt_of_cell? w _ hx167_1)).trans hx167_1; replace hx167_2 := (HB.out.cell (World.block_lt_of_cell? w _ hx167_2)).trans hx167_2; replace hx167_3 := (HB.out.cell (World.block_lt_of_cell? w _ hx167_3)).trans hx167_3; replace hx167_4 := (HB.out.cell (World.block_lt_of_cell? w _ hx167_4)).trans hx167_4; replace hx167_5 := (HB.out.cell (World.block_lt_of_cell? w _ hx167_5)).trans hx167_5; replace hx167_6 := (HB.out.cell (World.block_lt_of_cell? w _ hx167_6)).trans hx167_6; have HR167_3 := Aside0.mk hi167_3; have HC167_3 := Aside0.mk hl167_3; clear hi167_3 hl167_3; have HR167_5 := Aside0.mk hi167_5; have HC167_5 := Aside0.mk hl167_5; clear hi167_5 hl167_5; have HR167_6 := Aside0.mk hi167_6; have HC167_6 := Aside0.mk hl167_6; clear hi167_6 hl167_6; replace hx167_0 := (cell_far (p := ⟨gb166, 0, none⟩) (by first | (rw [add_block]; exact hn167_0) | (show (Addr.add _ _).block ≠ _; rw [add_block]; exact hn167_0) | exact hn167_0) (.string ((rd_T25 l0 x17_1).f0))).trans hx167_0; replace hx167_1 := (cell_far (p := ⟨gb166, 0, none⟩) (by first | (rw [add_block]; exact hn167_0) | (show (Addr.add _ _).block ≠ _; rw [add_block]; exact hn167_0) | exact hn167_0) (.string ((rd_T25 l0 x17_1).f0))).trans hx167_1; replace hx167_2 := (cell_far (p := ⟨gb166, 0, none⟩) (by first | (rw [add_block]; exact hn167_0) | (show (Addr.add _ _).block ≠ _; rw [add_block]; exact hn167_0) | exact hn167_0) (.string ((rd_T25 l0 x17_1).f0))).trans hx167_2; replace hx167_3 := (cell_far (p := ⟨gb166, 0, none⟩) (by first | (rw [add_block]; exact hn167_0) | (show (Addr.add _ _).block ≠ _; rw [add_block]; exact hn167_0) | exact hn167_0) (.string ((rd_T25 l0 x17_1).f0))).trans hx167_3; replace hx167_4 := (cell_far (p := ⟨gb166, 0, none⟩) (by first | (rw [add_block]; exact hn167_0) | (show (Addr.add _ _).block ≠ _; rw [add_block]; exact hn167_0) | exact hn167_0) (.string ((rd_T25 l0 x17_1).f0))).trans hx167_4; replace hx167_5 := (cell_far (p := ⟨gb166, 0, none⟩) (by first | (rw [add_block]; exact hn167_0) | (show (Addr.add _ _).block ≠ _; rw [add_block]; exact hn167_0) | exact hn167_0) (.string ((rd_T25 l0 x17_1).f0))).trans hx167_5; replace hx167_6 := (cell_far (p := ⟨gb166, 0, none⟩) (by first | (rw [add_block]; exact hn167_0) | (show (Addr.add _ _).block ≠ _; rw [add_block]; exact hn167_0) | exact hn167_0) (.string ((rd_T25 l0 x17_1).f0))).trans hx167_6; replace hx167_0 := (cell_far (p := ⟨gb166, 1, none⟩) (by first | (rw [add_block]; exact hn167_1) | (show (Addr.add _ _).block ≠ _; rw [add_block]; exact hn167_1) | exact hn167_1) (.string ((rd_T25 l0 x17_1).f1))).trans hx167_0; replace hx167_1 := (cell_far (p := ⟨gb166, 1, none⟩) (by first | (rw [add_block]; exact hn167_1) | (show (Addr.add _ _).block ≠ _; rw [add_block]; exact hn167_1) | exact hn167_1) (.string ((rd_T25 l0 x17_1).f1))).trans hx167_1; replace hx167_2 := (cell_far (p := ⟨gb166, 1, none⟩) (by first | (rw [add_block]; exact hn167_1) | (show (Addr.add _ _).block ≠ _; rw [add_block]; exact hn167_1) | exact hn167_1) (.string ((rd_T25 l0 x17_1).f1))).trans hx167_2; replace hx167_3 := (cell_far (p := ⟨gb166, 1, none⟩) (by first | (rw [add_block]; exact hn167_1) | (show (Addr.add _ _).block ≠ _; rw [add_block]; exact hn167_1) | exact hn167_1) (.string ((rd_T25 l0 x17_1).f1))).trans hx167_3; replace hx167_4 := (cell_far (p := ⟨gb166, 1, none⟩) (by first | (rw [add_block]; exact hn167_1) | (show (Addr.add _ _).block ≠ _; rw [add_block]; exact hn167_1) | exact hn167_1) (.string ((rd_T25 l0 x17_1).f1))).trans hx167_4; replace hx167_5 := (cell_far (p := ⟨gb166, 1, none⟩) (by first | (rw [add_block]; exact hn167_1) | (show (Addr.add _ _).block ≠ _; rw [add_block]; exact hn167_1) | exact hn167_1) (.string ((rd_T25 l0 x17_1).f1))).trans hx167_5; replace hx167_6 := (cell_far (p := ⟨gb166, 1, none⟩) (by first | (rw [add_block]; exact hn167_1) | (show (Addr.add _ _).block ≠ _; rw [add_block]; exact hn167_1) | exact hn167_1) (.string ((rd_T25 l0 x17_1).f1))).trans hx167_6; replace hx167_0 := (cell_far (p := ⟨gb166, 2, none⟩) (by first | (rw [add_block]; exact hn167_2) | (show (Addr.add _ _).block ≠ _; rw [add_block]; exact hn167_2) | exact hn167_2) (.int .i64 ((rd_T25 l0 x17_1).f2))).trans hx167_0; replace hx167_1 := (cell_far (p := ⟨gb166, 2, none⟩) (by first | (rw [add_block]; exact hn167_2) | (show (Addr.add _ _).block ≠ _; rw [add_block]; exact hn167_2) | exact hn167_2) (.int .i64 ((rd_T25 l0 x17_1).f2))).trans hx167_1; replace hx167_2 := (cell_far (p := ⟨gb166, 2, none⟩) (by first | (rw [add_block]; exact hn167_2) | (show (Addr.add _ _).block ≠ _; rw [add_block]; exact hn167_2) | exact hn167_2) (.int .i64 ((rd_T25 l0 x17_1).f2))).trans hx167_2; replace hx167_3 := (cell_far (p := ⟨gb166, 2, none⟩) (by first | (rw [add_block]; exact hn167_2) | (show (Addr.add _ _).block ≠ _; rw [add_block]; exact hn167_2) | exact hn167_2) (.int .i64 ((rd_T25 l0 x17_1).f2))).trans hx167_3; replace hx167_4 := (cell_far (p := ⟨gb166, 2, none⟩) (by first | (rw [add_block]; exact hn167_2) | (show (Addr.add _ _).block ≠ _; rw [add_block]; exact hn167_2) | exact hn167_2) (.int .i64 ((rd_T25 l0 x17_1).f2))).trans hx167_4; replace hx167_5 := (cell_far (p := ⟨gb166, 2, none⟩) (by first | (rw [add_block]; exact hn167_2) | (show (Addr.add _ _).block ≠ _; rw [add_block]; exact hn167_2) | exact hn167_2) (.int .i64 ((rd_T25 l0 x17_1).f2))).trans hx167_5; replace hx167_6 := (cell_far (p := ⟨gb166, 2, none⟩) (by first | (rw [add_block]; exact hn167_2) | (show (Addr.add _ _).block ≠ _; rw [add_block]; exact hn167_2) | exact hn167_2) (.int .i64 ((rd_T25 l0 x17_1).f2))).trans hx167_6; replace hx167_0 := (cell_far (p := ⟨gb166, 3, none⟩) (by first | (rw [add_block]; exact hn167_3) | (show (Addr.add _ _).block ≠ _; rw [add_block]; exact hn167_3) | exact hn167_3) (.slice A165_3 ((rd_T25 l0 x17_1).f3).length c165_3)).trans hx167_0; replace hx167_1 := (cell_far (p := ⟨gb166, 3, none⟩) (by first | (rw [add_block]; exact hn167_3) | (show (Addr.add _ _).block ≠ _; rw [add_block]; exact hn167_3) | exact hn167_3) (.slice A165_3 ((rd_T25 l0 x17_1).f3).length c165_3)).trans hx167_1; replace hx167_2 := (cell_far (p := ⟨gb166, 3, none⟩) (by first | (rw [add_block]; exact hn167_3) | (show (Addr.add _ _).block ≠ _; rw [add_block]; exact hn167_3) | exact hn167_3) (.slice A165_3 ((rd_T25 l0 x17_1).f3).length c165_3)).trans hx167_2; replace hx167_3 := (cell_far (p := ⟨gb166, 3, none⟩) (by first | (rw [add_block]; exact hn167_3) | (show (Addr.add _ _).block ≠ _; rw [add_block]; exact hn167_3) | exact hn167_3) (.slice A165_3 ((rd_T25 l0 x17_1).f3).length c165_3)).trans hx167_3; replace hx167_4 := (cell_far (p := ⟨gb166, 3, none⟩) (by first | (rw [add_block]; exact hn167_3) | (show (Addr.add _ _).block ≠ _; rw [add_block]; exact hn167_3) | exact hn167_3) (.slice A165_3 ((rd_T25 l0 x17_1).f3).length c165_3)).trans hx167_4; replace hx167_5 := (cell_far (p := ⟨gb166, 3, none⟩) (by first | (rw [add_block]; exact hn167_3) | (show (Addr.add _ _).block ≠ _; rw [add_block]; exact hn167_3) | exact hn167_3) (.slice A165_3 ((rd_T25 l0 x17_1).f3).length c165_3)).trans hx167_5; replace hx167_6 := (cell_far (p := ⟨gb166, 3, none⟩) (by first | (rw [add_block]; exact hn167_3) | (show (Addr.add _ _).block ≠ _; rw [add_block]; exact hn167_3) | exact hn167_3) (.slice A165_3 ((rd_T25 l0 x17_1).f3).length c165_3)).trans hx167_6; replace hx167_0 := (cell_far (p := ⟨gb166, 4, none⟩) (by first | (rw [add_block]; exact hn167_4) | (show (Addr.add _ _).block ≠ _; rw [add_block]; exact hn167_4) | exact hn167_4) (.bool ((rd_T25 l0 x17_1).f4))).trans hx167_0; replace hx167_1 := (cell_far (p := ⟨gb166, 4, none⟩) (by first | (rw [add_block]; exact hn167_4) | (show (Addr.add _ _).block ≠ _; rw [add_block]; exact hn167_4) | exact hn167_4) (.bool ((rd_T25 l0 x17_1).f4))).trans hx167_1; replace hx167_2 := (cell_far (p := ⟨gb166, 4, none⟩) (by first | (rw [add_block]; exact hn167_4) | (show (Addr.add _ _).block ≠ _; rw [add_block]; exact hn167_4) | exact hn167_4) (.bool ((rd_T25 l0 x17_1).f4))).trans hx167_2; replace hx167_3 := (cell_far (p := ⟨gb166, 4, none⟩) (by first | (rw [add_block]; exact hn167_4) | (show (Addr.add _ _).block ≠ _; rw [add_block]; exact hn167_4) | exact hn167_4) (.bool ((rd_T25 l0 x17_1).f4))).trans hx167_3; replace hx167_4 := (cell_far (p := ⟨gb166, 4, none⟩) (by first | (rw [add_block]; exact hn167_4) | (show (Addr.add _ _).block ≠ _; rw [add_block]; exact hn167_4) | exact hn167_4) (.bool ((rd_T25 l0 x17_1).f4))).trans hx167_4; replace hx167_5 := (cell_far (p := ⟨gb166, 4, none⟩) (by first | (rw [add_block]; exact hn167_4) | (show (Addr.add _ _).block ≠ _; rw [add_block]; exact hn167_4) | exact hn167_4) (.bool ((rd_T25 l0 x17_1).f4))).trans hx167_5; replace hx167_6 := (cell_far (p := ⟨gb166, 4, none⟩) (by first | (rw [add_block]; exact hn167_4) | (show (Addr.add _ _).block ≠ _; rw [add_block]; exact hn167_4) | exact hn167_4) (.bool ((rd_T25 l0 x17_1).f4))).trans hx167_6; replace hx167_0 := (cell_far (p := ⟨gb166, 5, none⟩) (by first | (rw [add_block]; exact hn167_5) | (show (Addr.add _ _).block ≠ _; rw [add_block]; exact hn167_5) | exact hn167_5) (.slice A165_5 ((rd_T25 l0 x17_1).f5).length c165_5)).trans hx167_0; replace hx167_1 := (cell_far (p := ⟨gb166, 5, none⟩) (by first | (rw [add_block]; exact hn167_5) | (show (Addr.add _ _).block ≠ _; rw [add_block]; exact hn167_5) | exact hn167_5) (.slice A165_5 ((rd_T25 l0 x17_1).f5).length c165_5)).trans hx167_1; replace hx167_2 := (cell_far (p := ⟨gb166, 5, none⟩) (by first | (rw [add_block]; exact hn167_5) | (show (Addr.add _ _).block ≠ _; rw [add_block]; exact hn167_5) | exact hn167_5) (.slice A165_5 ((rd_T25 l0 x17_1).f5).length c165_5)).trans hx167_2; replace hx167_3 := (cell_far (p := ⟨gb166, 5, none⟩) (by first | (rw [add_block]; exact hn167_5) | (show (Addr.add _ _).block ≠ _; rw [add_block]; exact hn167_5) | exact hn167_5) (.slice A165_5 ((rd_T25 l0 x17_1).f5).length c165_5)).trans hx167_3; replace hx167_4 := (cell_far (p := ⟨gb166, 5, none⟩) (by first | (rw [add_block]; exact hn167_5) | (show (Addr.add _ _).block ≠ _; rw [add_block]; exact hn167_5) | exact hn167_5) (.slice A165_5 ((rd_T25 l0 x17_1).f5).length c165_5)).trans hx167_4; replace hx167_5 := (cell_far (p := ⟨gb166, 5, none⟩) (by first | (rw [add_block]; exact hn167_5) | (show (Addr.add _ _).block ≠ _; rw [add_block]; exact hn167_5) | exact hn167_5) (.slice A165_5 ((rd_T25 l0 x17_1).f5).length c165_5)).trans hx167_5; replace hx167_6 := (cell_far (p := ⟨gb166, 5, none⟩) (by first | (rw [add_block]; exact hn167_5) | (show (Addr.add _ _).block ≠ _; rw [add_block]; exact hn167_5) | exact hn167_5) (.slice A165_5 ((rd_T25 l0 x17_1).f5).length c165_5)).trans hx167_6; replace hx167_0 := (cell_far (p := ⟨gb166, 6, none⟩) (by first | (rw [add_block]; exact hn167_6) | (show (Addr.add _ _).block ≠ _; rw [add_block]; exact hn167_6) | exact hn167_6) (.slice A165_6 ((rd_T25 l0 x17_1).f6).length c165_6)).trans hx167_0; replace hx167_1 := (cell_far (p := ⟨gb166, 6, none⟩) (by first | (rw [add_block]; exact hn167_6) | (show (Addr.add _ _).block ≠ _; rw [add_block]; exact hn167_6) | exact hn167_6) (.slice A165_6 ((rd_T25 l0 x17_1).f6).length c165_6)).trans hx167_1; replace hx167_2 := (cell_far (p := ⟨gb166, 6, none⟩) (by first | (rw [add_block]; exact hn167_6) | (show (Addr.add _ _).block ≠ _; rw [add_block]; exact hn167_6) | exact hn167_6) (.slice A165_6 ((rd_T25 l0 x17_1).f6).length c165_6)).trans hx167_2; replace hx167_3 := (cell_far (p := ⟨gb166, 6, none⟩) (by first | (rw [add_block]; exact hn167_6) | (show (Addr.add _ _).block ≠ _; rw [add_block]; exact hn167_6) | exact hn167_6) (.slice A165_6 ((rd_T25 l0 x17_1).f6).length c165_6)).trans hx167_3; replace hx167_4 := (cell_far (p := ⟨gb166, 6, none⟩) (by first | (rw [add_block]; exact hn167_6) | (show (Addr.add _ _).block ≠ _; rw [add_block]; exact hn167_6) | exact hn167_6) (.slice A165_6 ((rd_T25 l0 x17_1).f6).length c165_6)).trans hx167_4; replace hx167_5 := (cell_far (p := ⟨gb166, 6, none⟩) (by first | (rw [add_block]; exact hn167_6) | (show (Addr.add _ _).block ≠ _; rw [add_block]; exact hn167_6) | exact hn167_6) (.slice A165_6 ((rd_T25 l0 x17_1).f6).length c165_6)).trans hx167_5; replace hx167_6 := (cell_far (p := ⟨gb166, 6, none⟩) (by first | (rw [add_block]; exact hn167_6) | (show (Addr.add _ _).block ≠ _; rw [add_block]; exact hn167_6) | exact hn167_6) (.slice A165_6 ((rd_T25 l0 x17_1).f6).length c165_6)).trans hx167_6; clear hn167_0; clear hn167_1; clear hn167_2; clear hn167_3; clear hn167_4; clear hn167_5; clear hn167_6; replace p167 := eq_true p167; replace q167 := eq_true q167) | ((with_reducible refine gate_dst (N := 9) rfl ?_); refine box_event ?hg (N := 9) ?hd (cs := #[.string (⟨#[]⟩ : ByteArray), .string (⟨#[]⟩ : ByteArray), .int .i64 0, .slice none 0 0, .bool false, .slice none 0 0, .slice none 0 0]) (t := 25) ?hr ?_; (case hd => rfl); (case hg => rfl); (case hr => first | (go_simp; done) | (go_simp; rfl)); intro gb168 hg w13 hbox hb; have n0_ := Aside0.mk (blk_below (g := gb166) (o := .cells #[.string ((rd_T25 l0 x17_1).f0), .string ((rd_T25 l0 x17_1).f1), .int .i64 ((rd_T25 l0 x17_1).f2), .slice A165_3 ((rd_T25 l0 x17_1).f3).length c165_3, .bool ((rd_T25 l0 x17_1).f4), .slice A165_5 ((rd_T25 l0 x17_1).f5).length c165_5, .slice A165_6 ((rd_T25 l0 x17_1).f6).length c165_6] 25 (0, 0)) (by (with_reducible repeat (first | refine blk_drewN ?_ _ | refine blk_drew ?_ | refine blk_alloc ?_ _)); refine blk_put (cs := #[.string ((rd_T25 l0 x17_1).f0), .string ((rd_T25 l0 x17_1).f1), .int .i64 ((rd_T25 l0 x17_1).f2), .slice A165_3 ((rd_T25 l0 x17_1).f3).length c165_3, .bool ((rd_T25 l0 x17_1).f4), .slice A165_5 ((rd_T25 l0 x17_1).f5).length c165_5, .slice none 0 0]) ?_ 6 _ rfl; (with_reducible repeat (first | refine blk_drewN ?_ _ | refine blk_drew ?_ | refine blk_alloc ?_ _)); refine blk_put (cs := #[.string ((rd_T25 l0 x17_1).f0), .string ((rd_T25 l0 x17_1).f1), .int .i64 ((rd_T25 l0 x17_1).f2), .slice A165_3 ((rd_T25 l0 x17_1).f3).length c165_3, .bool ((rd_T25 l0 x17_1).f4), .slice none 0 0, .slice none 0 0]) ?_ 5 _ rfl; (with_reducible repeat (first | refine blk_drewN ?_ _ | refine blk_drew ?_ | refine blk_alloc ?_ _)); refine blk_put (cs := #[.string ((rd_T25 l0 x17_1).f0), .string ((rd_T25 l0 x17_1).f1), .int .i64 ((rd_T25 l0 x17_1).f2), .slice A165_3 ((rd_T25 l0 x17_1).f3).length c165_3, .bool false, .slice none 0 0, .slice none 0 0]) ?_ 4 _ rfl; (with_reducible repeat (first | refine blk_drewN ?_ _ | refine blk_drew ?_ | refine blk_alloc ?_ _)); refine blk_put (cs := #[.string ((rd_T25 l0 x17_1).f0), .string ((rd_T25 l0 x17_1).f1), .int .i64 ((rd_T25 l0 x17_1).f2), .slice none 0 0, .bool false, .slice none 0 0, .slice none 0 0]) ?_ 3 _ rfl; (with_reducible repeat (first | refine blk_drewN ?_ _ | refine blk_drew ?_ | refine blk_alloc ?_ _)); refine blk_put (cs := #[.string ((rd_T25 l0 x17_1).f0), .string ((rd_T25 l0 x17_1).f1), .int .i64 0, .slice none 0 0, .bool false, .slice none 0 0, .slice none 0 0]) ?_ 2 _ rfl; (with_reducible repeat (first | refine blk_drewN ?_ _ | refine blk_drew ?_ | refine blk_alloc ?_ _)); refine blk_put (cs := #[.string ((rd_T25 l0 x17_1).f0), .string (⟨#[]⟩ : ByteArray), .int .i64 0, .slice none 0 0, .bool false, .slice none 0 0, .slice none 0 0]) ?_ 1 _ rfl; (with_reducible repeat (first | refine blk_drewN ?_ _ | refine blk_drew ?_ | refine blk_alloc ?_ _)); refine blk_put (cs := #[.string (⟨#[]⟩ : ByteArray), .string (⟨#[]⟩ : ByteArray), .int .i64 0, .slice none 0 0, .bool false, .slice none 0 0, .slice none 0 0]) ?_ 0 _ rfl; (with_reducible repeat (first | refine blk_drewN ?_ _ | refine blk_drew ?_ | refine blk_alloc ?_ _)); exact BK166.out) hb); have n1_ := Aside0.mk (below_step Mark.h hb); have n2_ := Aside0.mk (hbox); have n3_ := Aside0.mk ((by rw [hg]; exact (below_size Mark.h) : w.heap.size ≤ gb168)); have n4_ := Aside0.mk ((by rw [hg]; exact (below_size Mark.h) : w.heap.size ≤ gb168)); have n5_ := Aside0.mk ((by rw [hg]; exact Nat.ne_of_lt (blk_lt (g := gb166) (o := .cells #[.string ((rd_T25 l0 x17_1).f0), .string ((rd_T25 l0 x17_1).f1), .int .i64 ((rd_T25 l0 x17_1).f2), .slice A165_3 ((rd_T25 l0 x17_1).f3).length c165_3, .bool ((rd_T25 l0 x17_1).f4), .slice A165_5 ((rd_T25 l0 x17_1).f5).length c165_5, .slice A165_6 ((rd_T25 l0 x17_1).f6).length c165_6] 25 (0, 0)) (by (with_reducible repeat (first | refine blk_drewN ?_ _ | refine blk_drew ?_ | refine blk_alloc ?_ _)); refine blk_put (cs := #[.string ((rd_T25 l0 x17_1).f0), .string ((rd_T25 l0 x17_1).f1), .int .i64 ((rd_T25 l0 x17_1).f2), .slice A165_3 ((rd_T25 l0 x17_1).f3).length c165_3, .bool ((rd_T25 l0 x17_1).f4), .slice A165_5 ((rd_T25 l0 x17_1).f5).length c165_5, .slice none 0 0]) ?_ 6 _ rfl; (with_reducible repeat (first | refine blk_drewN ?_ _ | refine blk_drew ?_ | refine blk_alloc ?_ _)); refine blk_put (cs := #[.string ((rd_T25 l0 x17_1).f0), .string ((rd_T25 l0 x17_1).f1), .int .i64 ((rd_T25 l0 x17_1).f2), .slice A165_3 ((rd_T25 l0 x17_1).f3).length c165_3, .bool ((rd_T25 l0 x17_1).f4), .slice none 0 0, .slice none 0 0]) ?_ 5 _ rfl; (with_reducible repeat (first | refine blk_drewN ?_ _ | refine blk_drew ?_ | refine blk_alloc ?_ _)); refine blk_put (cs := #[.string ((rd_T25 l0 x17_1).f0), .string ((rd_T25 l0 x17_1).f1), .int .i64 ((rd_T25 l0 x17_1).f2), .slice A165_3 ((rd_T25 l0 x17_1).f3).length c165_3, .bool false, .slice none 0 0, .slice none 0 0]) ?_ 4 _ rfl; (with_reducible repeat (first | refine blk_drewN ?_ _ | refine blk_drew ?_ | refine blk_alloc ?_ _)); refine blk_put (cs := #[.string ((rd_T25 l0 x17_1).f0), .string ((rd_T25 l0 x17_1).f1), .int .i64 ((rd_T25 l0 x17_1).f2), .slice none 0 0, .bool false, .slice none 0 0, .slice none 0 0]) ?_ 3 _ rfl; (with_reducible repeat (first | refine blk_drewN ?_ _ | refine blk_drew ?_ | refine blk_alloc ?_ _)); refine blk_put (cs := #[.string ((rd_T25 l0 x17_1).f0), .string ((rd_T25 l0 x17_1).f1), .int .i64 0, .slice none 0 0, .bool false, .slice none 0 0, .slice none 0 0]) ?_ 2 _ rfl; (with_reducible repeat (first | refine blk_drewN ?_ _ | refine blk_drew ?_ | refine blk_alloc ?_ _)); refine blk_put (cs := #[.string ((rd_T25 l0 x17_1).f0), .string (⟨#[]⟩ : ByteArray), .int .i64 0, .slice none 0 0, .bool false, .slice none 0 0, .slice none 0 0]) ?_ 1 _ rfl; (with_reducible repeat (first | refine blk_drewN ?_ _ | refine blk_drew ?_ | refine blk_alloc ?_ _)); refine blk_put (cs := #[.string (⟨#[]⟩ : ByteArray), .string (⟨#[]⟩ : ByteArray), .int .i64 0, .slice none 0 0, .bool false, .slice none 0 0, .slice none 0 0]) ?_ 0 _ rfl; (with_reducible repeat (first | refine blk_drewN ?_ _ | refine blk_drew ?_ | refine blk_alloc ?_ _)); exact BK166.out)) : gb166 ≠ gb168)); have n6_ := Aside0.mk ((by rw [hg]; exact Nat.ne_of_gt (blk_lt (g := gb166) (o := .cells #[.string ((rd_T25 l0 x17_1).f0), .string ((rd_T25 l0 x17_1).f1), .int .i64 ((rd_T25 l0 x17_1).f2), .slice A165_3 ((rd_T25 l0 x17_1).f3).length c165_3, .bool ((rd_T25 l0 x17_1).f4), .slice A165_5 ((rd_T25 l0 x17_1).f5).length c165_5, .slice A165_6 ((rd_T25 l0 x17_1).f6).length c165_6] 25 (0, 0)) (by (with_reducible repeat (first | refine blk_drewN ?_ _ | refine blk_drew ?_ | refine blk_alloc ?_ _)); refine blk_put (cs := #[.string ((rd_T25 l0 x17_1).f0), .string ((rd_T25 l0 x17_1).f1), .int .i64 ((rd_T25 l0 x17_1).f2), .slice A165_3 ((rd_T25 l0 x17_1).f3).length c165_3, .bool ((rd_T25 l0 x17_1).f4), .slice A165_5 ((rd_T25 l0 x17_1).f5).length c165_5, .slice none 0 0]) ?_ 6 _ rfl; (with_reducible repeat (first | refine blk_drewN ?_ _ | refine blk_drew ?_ | refine blk_alloc ?_ _)); refine blk_put (cs := #[.string ((rd_T25 l0 x17_1).f0), .string ((rd_T25 l0 x17_1).f1), .int .i64 ((rd_T25 l0 x17_1).f2), .slice A165_3 ((rd_T25 l0 x17_1).f3).length c165_3, .bool ((rd_T25 l0 x17_1).f4), .slice none 0 0, .slice none 0 0]) ?_ 5 _ rfl; (with_reducible repeat (first | refine blk_drewN ?_ _ | refine blk_drew ?_ | refine blk_alloc ?_ _)); refine blk_put (cs := #[.string ((rd_T25 l0 x17_1).f0), .string ((rd_T25 l0 x17_1).f1), .int .i64 ((rd_T25 l0 x17_1).f2), .slice A165_3 ((rd_T25 l0 x17_1).f3).length c165_3, .bool false, .slice none 0 0, .slice none 0 0]) ?_ 4 _ rfl; (with_reducible repeat (first | refine blk_drewN ?_ _ | refine blk_drew ?_ | refine blk_alloc ?_ _)); refine blk_put (cs := #[.string ((rd_T25 l0 x17_1).f0), .string ((rd_T25 l0 x17_1).f1), .int .i64 ((rd_T25 l0 x17_1).f2), .slice none 0 0, .bool false, .slice none 0 0, .slice none 0 0]) ?_ 3 _ rfl; (with_reducible repeat (first | refine blk_drewN ?_ _ | refine blk_drew ?_ | refine blk_alloc ?_ _)); refine blk_put (cs := #[.string ((rd_T25 l0 x17_1).f0), .string ((rd_T25 l0 x17_1).f1), .int .i64 0, .slice none 0 0, .bool false, .slice none 0 0, .slice none 0 0]) ?_ 2 _ rfl; (with_reducible repeat (first | refine blk_drewN ?_ _ | refine blk_drew ?_ | refine blk_alloc ?_ _)); refine blk_put (cs := #[.string ((rd_T25 l0 x17_1).f0), .string (⟨#[]⟩ : ByteArray), .int .i64 0, .slice none 0 0, .bool false, .slice none 0 0, .slice none 0 0]) ?_ 1 _ rfl; (with_reducible repeat (first | refine blk_drewN ?_ _ | refine blk_drew ?_ | refine blk_alloc ?_ _)); refine blk_put (cs := #[.string (⟨#[]⟩ : ByteArray), .string (⟨#[]⟩ : ByteArray), .int .i64 0, .slice none 0 0, .bool false, .slice none 0 0, .slice none 0 0]) ?_ 0 _ rfl; (with_reducible repeat (first | refine blk_drewN ?_ _ | refine blk_drew ?_ | refine blk_alloc ?_ _)); exact BK166.out)) : gb168 ≠ gb166)); clear BK166; clear HB; have BK166 := n0_; have HB := n1_; have BK168 := n2_; have GW168 := n3_; have GE168 := n4_; have NB166_168 := n5_; have NB168_166 := n6_; clear n0_ n1_ n2_ n3_ n4_ n5_ n6_; clear hb hbox hg; have hnb14 := NB168_166.out; have hnc14 := NB166_168.out; have hcz15_0 : w13.cell? ⟨gb168, 0, none⟩ = some (.string (⟨#[]⟩ : ByteArray)) := (blk_cell BK168.out 0).trans rfl; have hcz15_1 : w13.cell? ⟨gb168, 1, none⟩ = some (.string (⟨#[]⟩ : ByteArray)) := (blk_cell BK168.out 1).trans rfl; have hcz15_2 : w13.cell? ⟨gb168, 2, none⟩ = some (.int .i64 0) := (blk_cell BK168.out 2).trans rfl; have hcz15_3 : w13.cell? ⟨gb168, 3, none⟩ = some (.slice none 0 0) := (blk_cell BK168.out 3).trans rfl; have hcz15_4 : w13.cell? ⟨gb168, 4, none⟩ = some (.bool false) := (blk_cell BK168.out 4).trans rfl; have hcz15_5 : w13.cell? ⟨gb168, 5, none⟩ = some (.slice none 0 0) := (blk_cell BK168.out 5).trans rfl; have hcz15_6 : w13.cell? ⟨gb168, 6, none⟩ = some (.slice none 0 0) := (blk_cell BK168.out 6).trans rfl; have hfz15_0 := blk_frozen BK168.out 0; have hfz15_1 := blk_frozen BK168.out 1; have hfz15_2 := blk_frozen BK168.out 2; have hfz15_3 := blk_frozen BK168.out 3; have hfz15_4 := blk_frozen BK168.out 4; have hfz15_5 := blk_frozen BK168.out 5; have hfz15_6 := blk_frozen BK168.out 6; have hcz16_0 : w13.cell? ⟨gb166, 0, none⟩ = some (.string ((rd_T25 l0 x17_1).f0)) := (blk_cell BK166.out 0).trans rfl; have hcz16_1 : w13.cell? ⟨gb166, 1, none⟩ = some (.string ((rd_T25 l0 x17_1).f1)) := (blk_cell BK166.out 1).trans rfl; have hcz16_2 : w13.cell? ⟨gb166, 2, none⟩ = some (.int .i64 ((rd_T25 l0 x17_1).f2)) := (blk_cell BK166.out 2).trans rfl; have hcz16_3 : w13.cell? ⟨gb166, 3, none⟩ = some (.slice A165_3 ((rd_T25 l0 x17_1).f3).length c165_3) := (blk_cell BK166.out 3).trans rfl; have hcz16_4 : w13.cell? ⟨gb166, 4, none⟩ = some (.bool ((rd_T25 l0 x17_1).f4)) := (blk_cell BK166.out 4).trans rfl; have hcz16_5 : w13.cell? ⟨gb166, 5, none⟩ = some (.slice A165_5 ((rd_T25 l0 x17_1).f5).length c165_5) := (blk_cell BK166.out 5).trans rfl; have hcz16_6 : w13.cell? ⟨gb166, 6, none⟩ = some (.slice A165_6 ((rd_T25 l0 x17_1).f6).length c165_6) := (blk_cell BK166.out 6).trans rfl; have hfz16_0 := blk_frozen BK166.out 0; have hfz16_1 := blk_frozen BK166.out 1; have hfz16_2 := blk_frozen BK166.out 2; have hfz16_3 := blk_frozen BK166.out 3; have hfz16_4 := blk_frozen BK166.out 4; have hfz16_5 := blk_frozen BK166.out 5; have hfz16_6 := blk_frozen BK166.out 6) | (go_at_call 10; (with_reducible refine (record_Same.calls k1 ((rd_T25 l0 x17_1).f0) ((rd_T25 l0 x17_1).f1) ((rd_T25 l0 x17_1).f2) _ _ ((rd_T25 l0 x17_1).f3) ((rd_T25 l0 x17_1).f4) _ _ ((rd_T25 l0 x17_1).f5) _ _ ((rd_T25 l0 x17_1).f6) ((rd_T25 l1 x17_1).f0) ((rd_T25 l1 x17_1).f1) ((rd_T25 l1 x17_1).f2) _ _ ((rd_T25 l1 x17_1).f3) ((rd_T25 l1 x17_1).f4) _ _ ((rd_T25 l1 x17_1).f5) _ _ ((rd_T25 l1 x17_1).f6) true _ ?side1 ?side2 ?side3 ?side4 ?side5 ?side6 ?side7 ?side8 ?side9 ?side10 ?side11 ?side12 A9.out).mono ?_); (case side1 => exact Kd.C_below HR165_3.out Mark.h); (case side2 => exact HC165_3.out); (case side3 => exact Kd.C_below HR165_5.out Mark.h); (case side4 => exact HC165_5.out); (case side5 => exact Kd.C_below HR165_6.out Mark.h); (case side6 => exact HC165_6.out); (case side7 => exact Kd.C_below HR167_3.out Mark.h); (case side8 => exact HC167_3.out); (case side9 => exact Kd.C_below HR167_5.out Mark.h); (case side10 => exact HC167_5.out); (case side11 => exact Kd.C_below HR167_6.out Mark.h); (case side12 => exact HC167_6.out); rintro e w17 ⟨rfl, hb⟩; have n0_ := Aside0.mk (blk_below (g := gb166) (o := .cells #[.string ((rd_T25 l0 x17_1).f0), .string ((rd_T25 l0 x17_1).f1), .int .i64 ((rd_T25 l0 x17_1).f2), .slice A165_3 ((rd_T25 l0 x17_1).f3).length c165_3, .bool ((rd_T25 l0 x17_1).f4), .slice A165_5 ((rd_T25 l0 x17_1).f5).length c165_5, .slice A165_6 ((rd_T25 l0 x17_1).f6).length c165_6] 25 (0, 0)) (by (repeat ((with_reducible repeat (first | refine blk_drewN ?_ _ | refine blk_drew ?_ | refine blk_alloc ?_ _)); refine blk_far ?_ NB166_168.out _)); (with_reducible repeat (first | refine blk_drewN ?_ _ | refine blk_drew ?_ | refine blk_alloc ?_ _)); exact BK166.out) hb); have n1_ := Aside0.mk (blk_below (g := gb168) (o := .cells #[.string ((rd_T25 l1 x17_1).f0), .string ((rd_T25 l1 x17_1).f1), .int .i64 ((rd_T25 l1 x17_1).f2), .slice A167_3 ((rd_T25 l1 x17_1).f3).length c167_3, .bool ((rd_T25 l1 x17_1).f4), .slice A167_5 ((rd_T25 l1 x17_1).f5).length c167_5, .slice A167_6 ((rd_T25 l1 x17_1).f6).length c167_6] 25 (0, 0)) (by (with_reducible repeat (first | refine blk_drewN ?_ _ | refine blk_drew ?_ | refine blk_alloc ?_ _)); refine blk_put (cs := #[.string ((rd_T25 l1 x17_1).f0), .string ((rd_T25 l1 x17_1).f1), .int .i64 ((rd_T25 l1 x17_1).f2), .slice A167_3 ((rd_T25 l1 x17_1).f3).length c167_3, .bool ((rd_T25 l1 x17_1).f4), .slice A167_5 ((rd_T25 l1 x17_1).f5).length c167_5, .slice none 0 0]) ?_ 6 _ rfl; (with_reducible repeat (first | refine blk_drewN ?_ _ | refine blk_drew ?_ | refine blk_alloc ?_ _)); refine blk_put (cs := #[.string ((rd_T25 l1 x17_1).f0), .string ((rd_T25 l1 x17_1).f1), .int .i64 ((rd_T25 l1 x17_1).f2), .slice A167_3 ((rd_T25 l1 x17_1).f3).length c167_3, .bool ((rd_T25 l1 x17_1).f4), .slice none 0 0, .slice none 0 0]) ?_ 5 _ rfl; (with_reducible repeat (first | refine blk_drewN ?_ _ | refine blk_drew ?_ | refine blk_alloc ?_ _)); refine blk_put (cs := #[.string ((rd_T25 l1 x17_1).f0), .string ((rd_T25 l1 x17_1).f1), .int .i64 ((rd_T25 l1 x17_1).f2), .slice A167_3 ((rd_T25 l1 x17_1).f3).length c167_3, .bool false, .slice none 0 0, .slice none 0 0]) ?_ 4 _ rfl; (with_reducible repeat (first | refine blk_drewN ?_ _ | refine blk_drew ?_ | refine blk_alloc ?_ _)); refine blk_put (cs := #[.string ((rd_T25 l1 x17_1).f0), .string ((rd_T25 l1 x17_1).f1), .int .i64 ((rd_T25 l1 x17_1).f2), .slice none 0 0, .bool false, .slice none 0 0, .slice none 0 0]) ?_ 3 _ rfl; (with_reducible repeat (first | refine blk_drewN ?_ _ | refine blk_drew ?_ | refine blk_alloc ?_ _)); refine blk_put (cs := #[.string ((rd_T25 l1 x17_1).f0), .string ((rd_T25 l1 x17_1).f1), .int .i64 0, .slice none 0 0, .bool false, .slice none 0 0, .slice none 0 0]) ?_ 2 _ rfl; (with_reducible repeat (first | refine blk_drewN ?_ _ | refine blk_drew ?_ | refine blk_alloc ?_ _)); refine blk_put (cs := #[.string ((rd_T25 l1 x17_1).f0), .string (⟨#[]⟩ : ByteArray), .int .i64 0, .slice none 0 0, .bool false, .slice none 0 0, .slice none 0 0]) ?_ 1 _ rfl; (with_reducible repeat (first | refine blk_drewN ?_ _ | refine blk_drew ?_ | refine blk_alloc ?_ _)); refine blk_put (cs := #[.string (⟨#[]⟩ : ByteArray), .string (⟨#[]⟩ : ByteArray), .int .i64 0, .slice none 0 0, .bool false, .slice none 0 0, .slice none 0 0]) ?_ 0 _ rfl; (with_reducible repeat (first | refine blk_drewN ?_ _ | refine blk_drew ?_ | refine blk_alloc ?_ _)); exact BK168.out) hb); have n2_ := Aside0.mk (below_step Mark.h hb); clear BK166; clear BK168; clear HB; have BK166 := n0_; have BK168 := n1_; have HB := n2_; clear n0_ n1_ n2_; (try clear hb); (try clear hb2); (try clear hk); (try clear hi)))
         go_roundg k1
         case measure => have := HK1.out; omega
         case rel => exact ⟨(wrap64 (x17_1 + 1)), (by first | rfl | (simp; done) | (simp [*]; done)), H', ⟨by have := HK1.out; omega⟩, ⟨Mark.h⟩⟩
        ·replace c10 := Bool.eq_false_iff.mpr c10
         subst c10
         have H1 : (some false) = some r := by rw [if_neg (show ¬ (false = true) by decide)] at H; exact H
         clear H
         have H := H1
         clear H1
         obtain rfl := Option.some.inj H
         have p165 : 0 ≤ (x17_1 : Int) := of_decide_eq_true (by first | (with_reducible assumption) | assumption)
         have q165 : x17_1 < (l0.length : Int) := of_decide_eq_true (by first | (with_reducible assumption) | assumption)
         obtain ⟨ad165, A165_3, c165_3, A165_5, c165_5, A165_6, c165_6, e165, hx165_0, hx165_1, hx165_2, hx165_3, hx165_4, hx165_5, hx165_6, hl165_3, hi165_3, hl165_5, hi165_5, hl165_6, hi165_6⟩ := at_T25 HR0.out x17_1 p165 q165
         cases e165
         replace hx165_0 := (HB.out.cell (World.block_lt_of_cell? w _ hx165_0)).trans hx165_0
         replace hx165_1 := (HB.out.cell (World.block_lt_of_cell? w _ hx165_1)).trans hx165_1
         replace hx165_2 := (HB.out.cell (World.block_lt_of_cell? w _ hx165_2)).trans hx165_2
         replace hx165_3 := (HB.out.cell (World.block_lt_of_cell? w _ hx165_3)).trans hx165_3
         replace hx165_4 := (HB.out.cell (World.block_lt_of_cell? w _ hx165_4)).trans hx165_4
         replace hx165_5 := (HB.out.cell (World.block_lt_of_cell? w _ hx165_5)).trans hx165_5
         replace hx165_6 := (HB.out.cell (World.block_lt_of_cell? w _ hx165_6)).trans hx165_6
         have HR165_3 := Aside0.mk hi165_3
         have HC165_3 := Aside0.mk hl165_3
         clear hi165_3 hl165_3
         have HR165_5 := Aside0.mk hi165_5
         have HC165_5 := Aside0.mk hl165_5
         clear hi165_5 hl165_5
         have HR165_6 := Aside0.mk hi165_6
         have HC165_6 := Aside0.mk hl165_6
         clear hi165_6 hl165_6
         replace p165 := eq_true p165
         replace q165 := eq_true q165
         go_wp2_with (first | ((with_reducible refine gate_dst (N := 8) rfl ?_); refine box_event ?hg (N := 8) ?hd (cs := #[.string (⟨#[]⟩ : ByteArray), .string (⟨#[]⟩ : ByteArray), .int .i64 0, .slice none 0 0, .bool false, .slice none 0 0, .slice none 0 0]) (t := 25) ?hr ?_; (case hd => rfl); (case hg => rfl); (case hr => first | (go_simp; done) | (go_simp; rfl)); intro gb166 hg w18 hbox hb; have n0_ := Aside0.mk (below_step Mark.h hb); have n1_ := Aside0.mk (hbox); have n2_ := Aside0.mk ((by rw [hg]; exact (below_size Mark.h) : w.heap.size ≤ gb166)); have n3_ := Aside0.mk ((by rw [hg]; exact (below_size Mark.h) : w.heap.size ≤ gb166)); clear HB; have HB := n0_; have BK166 := n1_; have GW166 := n2_; have GE166 := n3_; clear n0_ n1_ n2_ n3_; clear hb hbox hg; have hcz19_0 : w18.cell? ⟨gb166, 0, none⟩ = some (.string (⟨#[]⟩ : ByteArray)) := (blk_cell BK166.out 0).trans rfl; have hcz19_1 : w18.cell? ⟨gb166, 1, none⟩ = some (.string (⟨#[]⟩ : ByteArray)) := (blk_cell BK166.out 1).trans rfl; have hcz19_2 : w18.cell? ⟨gb166, 2, none⟩ = some (.int .i64 0) := (blk_cell BK166.out 2).trans rfl; have hcz19_3 : w18.cell? ⟨gb166, 3, none⟩ = some (.slice none 0 0) := (blk_cell BK166.out 3).trans rfl; have hcz19_4 : w18.cell? ⟨gb166, 4, none⟩ = some (.bool false) := (blk_cell BK166.out 4).trans rfl; have hcz19_5 : w18.cell? ⟨gb166, 5, none⟩ = some (.slice none 0 0) := (blk_cell BK166.out 5).trans rfl; have hcz19_6 : w18.cell? ⟨gb166, 6, none⟩ = some (.slice none 0 0) := (blk_cell BK166.out 6).trans rfl; have hfz19_0 := blk_frozen BK166.out 0; have hfz19_1 := blk_frozen BK166.out 1; have hfz19_2 := blk_frozen BK166.out 2; have hfz19_3 := blk_frozen BK166.out 3; have hfz19_4 := blk_frozen BK166.out 4; have hfz19_5 := blk_frozen BK166.out 5; have hfz19_6 := blk_frozen BK166.out 6; have p167 : 0 ≤ (x17_1 : Int) := of_decide_eq_true (by first | (with_reducible assumption) | assumption); have q167 : x17_1 < (l1.length : Int) := of_decide_eq_true (by first | (with_reducible assumption) | assumption); obtain ⟨ad167, A167_3, c167_3, A167_5, c167_5, A167_6, c167_6, e167, hx167_0, hx167_1, hx167_2, hx167_3, hx167_4, hx167_5, hx167_6, hl167_3, hi167_3, hl167_5, hi167_5, hl167_6, hi167_6⟩ := at_T25 HR1.out x17_1 p167 q167; cases e167; have hn167_0 : ad167.block ≠ gb166 := Nat.ne_of_lt (Nat.lt_of_lt_of_le (by have := World.block_lt_of_cell? _ _ hx167_0; first | rwa [add_block] at this | exact this) GW166.out); have hn167_1 : ad167.block ≠ gb166 := Nat.ne_of_lt (Nat.lt_of_lt_of_le (by have := World.block_lt_of_cell? _ _ hx167_0; first | rwa [add_block] at this | exact this) GW166.out); have hn167_2 : ad167.block ≠ gb166 := Nat.ne_of_lt (Nat.lt_of_lt_of_le (by have := World.block_lt_of_cell? _ _ hx167_0; first | rwa [add_block] at this | exact this) GW166.out); have hn167_3 : ad167.block ≠ gb166 := Nat.ne_of_lt (Nat.lt_of_lt_of_le (by have := World.block_lt_of_cell? _ _ hx167_0; first | rwa [add_block] at this | exact this) GW166.out); have hn167_4 : ad167.block ≠ gb166 := Nat.ne_of_lt (Nat.lt_of_lt_of_le (by have := World.block_lt_of_cell? _ _ hx167_0; first | rwa [add_block] at this | exact this) GW166.out); have hn167_5 : ad167.block ≠ gb166 := Nat.ne_of_lt (Nat.lt_of_lt_of_le (by have := World.block_lt_of_cell? _ _ hx167_0; first | rwa [add_block] at this | exact this) GW166.out); have hn167_6 : ad167.block ≠ gb166 := Nat.ne_of_lt (Nat.lt_of_lt_of_le (by have := World.block_lt_of_cell? _ _ hx167_0; first | rwa [add_block] at this | exact this) GW166.out); replace hx167_0 := (HB.out.cell (World.block_lt_of_cell? w _ hx167_0)).trans hx167_0; replace hx167_1 := (HB.out.cell (World.block_lt_of_cell? w _ hx167_1)).trans hx167_1; replace hx167_2 := (HB.out.cell (World.block_lt_of_cell? w _ hx167_2)).trans hx167_2; replace hx167_3 := (HB.out.cell (World.block_lt_of_cell? w _ hx167_3)).trans hx167_3; replace hx167_4 := (HB.out.cell (World.block_lt_of_cell? w _ hx167_4)).trans hx167_4; replace hx167_5 := (HB.out.cell (World.block_lt_of_cell? w _ hx167_5)).trans hx167_5; replace hx167_6 := (HB.out.cell (World.block_lt_of_cell? w _ hx167_6)).trans hx167_6; have HR167_3 := Aside0.mk hi167_3; have HC167_3 := Aside0.mk hl167_3; clear hi167_3 hl167_3; have HR167_5 := Aside0.mk hi167_5; have HC167_5 := Aside0.mk hl167_5; clear hi167_5 hl167_5; have HR167_6 := Aside0.mk hi167_6; have HC167_6 := Aside0.mk hl167_6; clear hi167_6 hl167_6; replace hx167_0 := (cell_far (p := ⟨gb166, 0, none⟩) (by first | (rw [add_block]; exact hn167_0) | (show (Addr.add _ _).block ≠ _; rw [add_block]; exact hn167_0) | exact hn167_0) (.string ((rd_T25 l0 x17_1).f0))).trans hx167_0; replace hx167_1 := (cell_far (p := ⟨gb166, 0, none⟩) (by first | (rw [add_block]; exact hn167_0) | (show (Addr.add _ _).block ≠ _; rw [add_block]; exact hn167_0) | exact hn167_0) (.string ((rd_T25 l0 x17_1).f0))).trans hx167_1; replace hx167_2 := (cell_far (p := ⟨gb166, 0, none⟩) (by first | (rw [add_block]; exact hn167_0) | (show (Addr.add _ _).block ≠ _; rw [add_block]; exact hn167_0) | exact hn167_0) (.string ((rd_T25 l0 x17_1).f0))).trans hx167_2; replace hx167_3 := (cell_far (p := ⟨gb166, 0, none⟩) (by first | (rw [add_block]; exact hn167_0) | (show (Addr.add _ _).block ≠ _; rw [add_block]; exact hn167_0) | exact hn167_0) (.string ((rd_T25 l0 x17_1).f0))).trans hx167_3; replace hx167_4 := (cell_far (p := ⟨gb166, 0, none⟩) (by first | (rw [add_block]; exact hn167_0) | (show (Addr.add _ _).block ≠ _; rw [add_block]; exact hn167_0) | exact hn167_0) (.string ((rd_T25 l0 x17_1).f0))).trans hx167_4; replace hx167_5 := (cell_far (p := ⟨gb166, 0, none⟩) (by first | (rw [add_block]; exact hn167_0) | (show (Addr.add _ _).block ≠ _; rw [add_block]; exact hn167_0) | exact hn167_0) (.string ((rd_T25 l0 x17_1).f0))).trans hx167_5; replace hx167_6 := (cell_far (p := ⟨gb166, 0, none⟩) (by first | (rw [add_block]; exact hn167_0) | (show (Addr.add _ _).block ≠ _; rw [add_block]; exact hn167_0) | exact hn167_0) (.string ((rd_T25 l0 x17_1).f0))).trans hx167_6; replace hx167_0 := (cell_far (p := ⟨gb166, 1, none⟩) (by first | (rw [add_block]; exact hn167_1) | (show (Addr.add _ _).block ≠ _; rw [add_block]; exact hn167_1) | exact hn167_1) (.string ((rd_T25 l0 x17_1).f1))).trans hx167_0; replace hx167_1 := (cell_far (p := ⟨gb166, 1, none⟩) (by first | (rw [add_block]; exact hn167_1) | (show (Addr.add _ _).block ≠ _; rw [add_block]; exact hn167_1) | exact hn167_1) (.string ((rd_T25 l0 x17_1).f1))).trans hx167_1; replace hx167_2 := (cell_far (p := ⟨gb166, 1, none⟩) (by first | (rw [add_block]; exact hn167_1) | (show (Addr.add _ _).block ≠ _; rw [add_block]; exact hn167_1) | exact hn167_1) (.string ((rd_T25 l0 x17_1).f1))).trans hx167_2; replace hx167_3 := (cell_far (p := ⟨gb166, 1, none⟩) (by first | (rw [add_block]; exact hn167_1) | (show (Addr.add _ _).block ≠ _; rw [add_block]; exact hn167_1) | exact hn167_1) (.string ((rd_T25 l0 x17_1).f1))).trans hx167_3; replace hx167_4 := (cell_far (p := ⟨gb166, 1, none⟩) (by first | (rw [add_block]; exact hn167_1) | (show (Addr.add _ _).block ≠ _; rw [add_block]; exact hn167_1) | exact hn167_1) (.string ((rd_T25 l0 x17_1).f1))).trans hx167_4; replace hx167_5 := (cell_far (p := ⟨gb166, 1, none⟩) (by first | (rw [add_block]; exact hn167_1) | (show (Addr.add _ _).block ≠ _; rw [add_block]; exact hn167_1) | exact hn167_1) (.string ((rd_T25 l0 x17_1).f1))).trans hx167_5; replace hx167_6 := (cell_far (p := ⟨gb166, 1, none⟩) (by first | (rw [add_block]; exact hn167_1) | (show (Addr.add _ _).block ≠ _; rw [add_block]; exact hn167_1) | exact hn167_1) (.string ((rd_T25 l0 x17_1).f1))).trans hx167_6; replace hx167_0 := (cell_far (p := ⟨gb166, 2, none⟩) (by first | (rw [add_block]; exact hn167_2) | (show (Addr.add _ _).block ≠ _; rw [add_block]; exact hn167_2) | exact hn167_2) (.int .i64 ((rd_T25 l0 x17_1).f2))).trans hx167_0; replace hx167_1 := (cell_far (p := ⟨gb166, 2, none⟩) (by first | (rw [add_block]; exact hn167_2) | (show (Addr.add _ _).block ≠ _; rw [add_block]; exact hn167_2) | exact hn167_2) (.int .i64 ((rd_T25 l0 x17_1).f2))).trans hx167_1; replace hx167_2 := (cell_far (p := ⟨gb166, 2, none⟩) (by first | (rw [add_block]; exact hn167_2) | (show (Addr.add _ _).block ≠ _; rw [add_block]; exact hn167_2) | exact hn167_2) (.int .i64 ((rd_T25 l0 x17_1).f2))).trans hx167_2; replace hx167_3 := (cell_far (p := ⟨gb166, 2, none⟩) (by first | (rw [add_block]; exact hn167_2) | (show (Addr.add _ _).block ≠ _; rw [add_block]; exact hn167_2) | exact hn167_2) (.int .i64 ((rd_T25 l0 x17_1).f2))).trans hx167_3; replace hx167_4 := (cell_far (p := ⟨gb166, 2, none⟩) (by first | (rw [add_block]; exact hn167_2) | (show (Addr.add _ _).block ≠ _; rw [add_block]; exact hn167_2) | exact hn167_2) (.int .i64 ((rd_T25 l0 x17_1).f2))).trans hx167_4; replace hx167_5 := (cell_far (p := ⟨gb166, 2, none⟩) (by first | (rw [add_block]; exact hn167_2) | (show (Addr.add _ _).block ≠ _; rw [add_block]; exact hn167_2) | exact hn167_2) (.int .i64 ((rd_T25 l0 x17_1).f2))).trans hx167_5; replace hx167_6 := (cell_far (p := ⟨gb166, 2, none⟩) (by first | (rw [add_block]; exact hn167_2) | (show (Addr.add _ _).block ≠ _; rw [add_block]; exact hn167_2) | exact hn167_2) (.int .i64 ((rd_T25 l0 x17_1).f2))).trans hx167_6; replace hx167_0 := (cell_far (p := ⟨gb166, 3, none⟩) (by first | (rw [add_block]; exact hn167_3) | (show (Addr.add _ _).block ≠ _; rw [add_block]; exact hn167_3) | exact hn167_3) (.slice A165_3 ((rd_T25 l0 x17_1).f3).length c165_3)).trans hx167_0; replace hx167_1 := (cell_far (p := ⟨gb166, 3, none⟩) (by first | (rw [add_block]; exact hn167_3) | (show (Addr.add _ _).block ≠ _; rw [add_block]; exact hn167_3) | exact hn167_3) (.slice A165_3 ((rd_T25 l0 x17_1).f3).length c165_3)).trans hx167_1; replace hx167_2 := (cell_far (p := ⟨gb166, 3, none⟩) (by first | (rw [add_block]; exact hn167_3) | (show (Addr.add _ _).block ≠ _; rw [add_block]; exact hn167_3) | exact hn167_3) (.slice A165_3 ((rd_T25 l0 x17_1).f3).length c165_3)).trans hx167_2; replace hx167_3 := (cell_far (p := ⟨gb166, 3, none⟩) (by first | (rw [add_block]; exact hn167_3) | (show (Addr.add _ _).block ≠ _; rw [add_block]; exact hn167_3) | exact hn167_3) (.slice A165_3 ((rd_T25 l0 x17_1).f3).length c165_3)).trans hx167_3; replace hx167_4 := (cell_far (p := ⟨gb166, 3, none⟩) (by first | (rw [add_block]; exact hn167_3) | (show (Addr.add _ _).block ≠ _; rw [add_block]; exact hn167_3) | exact hn167_3) (.slice A165_3 ((rd_T25 l0 x17_1).f3).length c165_3)).trans hx167_4; replace hx167_5 := (cell_far (p := ⟨gb166, 3, none⟩) (by first | (rw [add_block]; exact hn167_3) | (show (Addr.add _ _).block ≠ _; rw [add_block]; exact hn167_3) | exact hn167_3) (.slice A165_3 ((rd_T25 l0 x17_1).f3).length c165_3)).trans hx167_5; replace hx167_6 := (cell_far (p := ⟨gb166, 3, none⟩) (by first | (rw [add_block]; exact hn167_3) | (show (Addr.add _ _).block ≠ _; rw [add_block]; exact hn167_3) | exact hn167_3) (.slice A165_3 ((rd_T25 l0 x17_1).f3).length c165_3)).trans hx167_6; replace hx167_0 := (cell_far (p := ⟨gb166, 4, none⟩) (by first | (rw [add_block]; exact hn167_4) | (show (Addr.add _ _).block ≠ _; rw [add_block]; exact hn167_4) | exact hn167_4) (.bool ((rd_T25 l0 x17_1).f4))).trans hx167_0; replace hx167_1 := (cell_far (p := ⟨gb166, 4, none⟩) (by first | (rw [add_block]; exact hn167_4) | (show (Addr.add _ _).block ≠ _; rw [add_block]; exact hn167_4) | exact hn167_4) (.bool ((rd_T25 l0 x17_1).f4))).trans hx167_1; replace hx167_2 := (cell_far (p := ⟨gb166, 4, none⟩) (by first | (rw [add_block]; exact hn167_4) | (show (Addr.add _ _).block ≠ _; rw [add_block]; exact hn167_4) | exact hn167_4) (.bool ((rd_T25 l0 x17_1).f4))).trans hx167_2; replace hx167_3 := (cell_far (p := ⟨gb166, 4, none⟩) (by first | (rw [add_block]; exact hn167_4) | (show (Addr.add _ _).block ≠ _; rw [add_block]; exact hn167_4) | exact hn167_4) (.bool ((rd_T25 l0 x17_1).f4))).trans hx167_3; replace hx167_4 := (cell_far (p := ⟨gb166, 4, none⟩) (by first | (rw [add_block]; exact hn167_4) | (show (Addr.add _ _).block ≠ _; rw [add_block]; exact hn167_4) | exact hn167_4) (.bool ((rd_T25 l0 x17_1).f4))).trans hx167_4; replace hx167_5 := (cell_far (p := ⟨gb166, 4, none⟩) (by first | (rw [add_block]; exact hn167_4) | (show (Addr.add _ _).block ≠ _; rw [add_block]; exact hn167_4) | exact hn167_4) (.bool ((rd_T25 l0 x17_1).f4))).trans hx167_5; replace hx167_6 := (cell_far (p := ⟨gb166, 4, none⟩) (by first | (rw [add_block]; exact hn167_4) | (show (Addr.add _ _).block ≠ _; rw [add_block]; exact hn167_4) | exact hn167_4) (.bool ((rd_T25 l0 x17_1).f4))).trans hx167_6; replace hx167_0 := (cell_far (p := ⟨gb166, 5, none⟩) (by first | (rw [add_block]; exact hn167_5) | (show (Addr.add _ _).block ≠ _; rw [add_block]; exact hn167_5) | exact hn167_5) (.slice A165_5 ((rd_T25 l0 x17_1).f5).length c165_5)).trans hx167_0; replace hx167_1 := (cell_far (p := ⟨gb166, 5, none⟩) (by first | (rw [add_block]; exact hn167_5) | (show (Addr.add _ _).block ≠ _; rw [add_block]; exact hn167_5) | exact hn167_5) (.slice A165_5 ((rd_T25 l0 x17_1).f5).length c165_5)).trans hx167_1; replace hx167_2 := (cell_far (p := ⟨gb166, 5, none⟩) (by first | (rw [add_block]; exact hn167_5) | (show (Addr.add _ _).block ≠ _; rw [add_block]; exact hn167_5) | exact hn167_5) (.slice A165_5 ((rd_T25 l0 x17_1).f5).length c165_5)).trans hx167_2; replace hx167_3 := (cell_far (p := ⟨gb166, 5, none⟩) (by first | (rw [add_block]; exact hn167_5) | (show (Addr.add _ _).block ≠ _; rw [add_block]; exact hn167_5) | exact hn167_5) (.slice A165_5 ((rd_T25 l0 x17_1).f5).length c165_5)).trans hx167_3; replace hx167_4 := (cell_far (p := ⟨gb166, 5, none⟩) (by first | (rw [add_block]; exact hn167_5) | (show (Addr.add _ _).block ≠ _; rw [add_block]; exact hn167_5) | exact hn167_5) (.slice A165_5 ((rd_T25 l0 x17_1).f5).length c165_5)).trans hx167_4; replace hx167_5 := (cell_far (p := ⟨gb166, 5, none⟩) (by first | (rw [add_block]; exact hn167_5) | (show (Addr.add _ _).block ≠ _; rw [add_block]; exact hn167_5) | exact hn167_5) (.slice A165_5 ((rd_T25 l0 x17_1).f5).length c165_5)).trans hx167_5; replace hx167_6 := (cell_far (p := ⟨gb166, 5, none⟩) (by first | (rw [add_block]; exact hn167_5) | (show (Addr.add _ _).block ≠ _; rw [add_block]; exact hn167_5) | exact hn167_5) (.slice A165_5 ((rd_T25 l0 x17_1).f5).length c165_5)).trans hx167_6; replace hx167_0 := (cell_far (p := ⟨gb166, 6, none⟩) (by first | (rw [add_block]; exact hn167_6) | (show (Addr.add _ _).block ≠ _; rw [add_block]; exact hn167_6) | exact hn167_6) (.slice A165_6 ((rd_T25 l0 x17_1).f6).length c165_6)).trans hx167_0; replace hx167_1 := (cell_far (p := ⟨gb166, 6, none⟩) (by first | (rw [add_block]; exact hn167_6) | (show (Addr.add _ _).block ≠ _; rw [add_block]; exact hn167_6) | exact hn167_6) (.slice A165_6 ((rd_T25 l0 x17_1).f6).length c165_6)).trans hx167_1; replace hx167_2 := (cell_far (p := ⟨gb166, 6, none⟩) (by first | (rw [add_block]; exact hn167_6) | (show (Addr.add _ _).block ≠ _; rw [add_block]; exact hn167_6) | exact hn167_6) (.slice A165_6 ((rd_T25 l0 x17_1).f6).length c165_6)).trans hx167_2; replace hx167_3 := (cell_far (p := ⟨gb166, 6, none⟩) (by first | (rw [add_block]; exact hn167_6) | (show (Addr.add _ _).block ≠ _; rw [add_block]; exact hn167_6) | exact hn167_6) (.slice A165_6 ((rd_T25 l0 x17_1).f6).length c165_6)).trans hx167_3; replace hx167_4 := (cell_far (p := ⟨gb166, 6, none⟩) (by first | (rw [add_block]; exact hn167_6) | (show (Addr.add _ _).block ≠ _; rw [add_block]; exact hn167_6) | exact hn167_6) (.slice A165_6 ((rd_T25 l0 x17_1).f6).length c165_6)).trans hx167_4; replace hx167_5 := (cell_far (p := ⟨gb166, 6, none⟩) (by first | (rw [add_block]; exact hn167_6) | (show (Addr.add _ _).block ≠ _; rw [add_block]; exact hn167_6) | exact hn167_6) (.slice A165_6 ((rd_T25 l0 x17_1).f6).length c165_6)).trans hx167_5; replace hx167_6 := (cell_far (p := ⟨gb166, 6, none⟩) (by first | (rw [add_block]; exact hn167_6) | (show (Addr.add _ _).block ≠ _; rw [add_block]; exact hn167_6) | exact hn167_6) (.slice A165_6 ((rd_T25 l0 x17_1).f6).length c165_6)).trans hx167_6; clear hn167_0; clear hn167_1; clear hn167_2; clear hn167_3; clear hn167_4; clear hn167_5; clear hn167_6; replace p167 := eq_true p167; replace q167 := eq_true q167) | ((with_reducible refine gate_dst (N := 9) rfl ?_); refine box_event ?hg (N := 9) ?hd (cs := #[.string (⟨#[]⟩ : ByteArray), .string (⟨#[]⟩ : ByteArray), .int .i64 0, .slice none 0 0, .bool false, .slice none 0 0, .slice none 0 0]) (t := 25) ?hr ?_; (case hd => rfl); (case hg => rfl); (case hr => first | (go_simp; done) | (go_simp; rfl)); intro gb168 hg w20 hbox hb; have n0_ := Aside0.mk (blk_below (g := gb166) (o := .cells #[.string ((rd_T25 l0 x17_1).f0), .string ((rd_T25 l0 x17_1).f1), .int .i64 ((rd_T25 l0 x17_1).f2), .slice A165_3 ((rd_T25 l0 x17_1).f3).length c165_3, .bool ((rd_T25 l0 x17_1).f4), .slice A165_5 ((rd_T25 l0 x17_1).f5).length c165_5, .slice A165_6 ((rd_T25 l0 x17_1).f6).length c165_6] 25 (0, 0)) (by (with_reducible repeat (first | refine blk_drewN ?_ _ | refine blk_drew ?_ | refine blk_alloc ?_ _)); refine blk_put (cs := #[.string ((rd_T25 l0 x17_1).f0), .string ((rd_T25 l0 x17_1).f1), .int .i64 ((rd_T25 l0 x17_1).f2), .slice A165_3 ((rd_T25 l0 x17_1).f3).length c165_3, .bool ((rd_T25 l0 x17_1).f4), .slice A165_5 ((rd_T25 l0 x17_1).f5).length c165_5, .slice none 0 0]) ?_ 6 _ rfl; (with_reducible repeat (first | refine blk_drewN ?_ _ | refine blk_drew ?_ | refine blk_alloc ?_ _)); refine blk_put (cs := #[.string ((rd_T25 l0 x17_1).f0), .string ((rd_T25 l0 x17_1).f1), .int .i64 ((rd_T25 l0 x17_1).f2), .slice A165_3 ((rd_T25 l0 x17_1).f3).length c165_3, .bool ((rd_T25 l0 x17_1).f4), .slice none 0 0, .slice none 0 0]) ?_ 5 _ rfl; (with_reducible repeat (first | refine blk_drewN ?_ _ | refine blk_drew ?_ | refine blk_alloc ?_ _)); refine blk_put (cs := #[.string ((rd_T25 l0 x17_1).f0), .string ((rd_T25 l0 x17_1).f1), .int .i64 ((rd_T25 l0 x17_1).f2), .slice A165_3 ((rd_T25 l0 x17_1).f3).length c165_3, .bool false, .slice none 0 0, .slice none 0 0]) ?_ 4 _ rfl; (with_reducible repeat (first | refine blk_drewN ?_ _ | refine blk_drew ?_ | refine blk_alloc ?_ _)); refine blk_put (cs := #[.string ((rd_T25 l0 x17_1).f0), .string ((rd_T25 l0 x17_1).f1), .int .i64 ((rd_T25 l0 x17_1).f2), .slice none 0 0, .bool false, .slice none 0 0, .slice none 0 0]) ?_ 3 _ rfl; (with_reducible repeat (first | refine blk_drewN ?_ _ | refine blk_drew ?_ | refine blk_alloc ?_ _)); refine blk_put (cs := #[.string ((rd_T25 l0 x17_1).f0), .string ((rd_T25 l0 x17_1).f1), .int .i64 0, .slice none 0 0, .bool false, .slice none 0 0, .slice none 0 0]) ?_ 2 _ rfl; (with_reducible repeat (first | refine blk_drewN ?_ _ | refine blk_drew ?_ | refine blk_alloc ?_ _)); refine blk_put (cs := #[.string ((rd_T25 l0 x17_1).f0), .string (⟨#[]⟩ : ByteArray), .int .i64 0, .slice none 0 0, .bool false, .slice none 0 0, .slice none 0 0]) ?_ 1 _ rfl; (with_reducible repeat (first | refine blk_drewN ?_ _ | refine blk_drew ?_ | refine blk_alloc ?_ _)); refine blk_put (cs := #[.string (⟨#[]⟩ : ByteArray), .string (⟨#[]⟩ : ByteArray), .int .i64 0, .slice none 0 0, .bool false, .slice none 0 0, .slice none 0 0]) ?_ 0 _ rfl; (with_reducible repeat (first | refine blk_drewN ?_ _ | refine blk_drew ?_ | refine blk_alloc ?_ _)); exact BK166.out) hb); have n1_ := Aside0.mk (below_step Mark.h hb); have n2_ := Aside0.mk (hbox); have n3_ := Aside0.mk ((by rw [hg]; exact (below_size Mark.h) : w.heap.size ≤ gb168)); have n4_ := Aside0.mk ((by rw [hg]; exact (below_size Mark.h) : w.heap.size ≤ gb168)); have n5_ := Aside0.mk ((by rw [hg]; exact Nat.ne_of_lt (blk_lt (g := gb166) (o := .cells #[.string ((rd_T25 l0 x17_1).f0), .string ((rd_T25 l0 x17_1).f1), .int .i64 ((rd_T25 l0 x17_1).f2), .slice A165_3 ((rd_T25 l0 x17_1).f3).length c165_3, .bool ((rd_T25 l0 x17_1).f4), .slice A165_5 ((rd_T25 l0 x17_1).f5).length c165_5, .slice A165_6 ((rd_T25 l0 x17_1).f6).length c165_6] 25 (0, 0)) (by (with_reducible repeat (first | refine blk_drewN ?_ _ | refine blk_drew ?_ | refine blk_alloc ?_ _)); refine blk_put (cs := #[.string ((rd_T25 l0 x17_1).f0), .string ((rd_T25 l0 x17_1).f1), .int .i64 ((rd_T25 l0 x17_1).f2), .slice A165_3 ((rd_T25 l0 x17_1).f3).length c165_3, .bool ((rd_T25 l0 x17_1).f4), .slice A165_5 ((rd_T25 l0 x17_1).f5).length c165_5, .slice none 0 0]) ?_ 6 _ rfl; (with_reducible repeat (first | refine blk_drewN ?_ _ | refine blk_drew ?_ | refine blk_alloc ?_ _)); refine blk_put (cs := #[.string ((rd_T25 l0 x17_1).f0), .string ((rd_T25 l0 x17_1).f1), .int .i64 ((rd_T25 l0 x17_1).f2), .slice A165_3 ((rd_T25 l0 x17_1).f3).length c165_3, .bool ((rd_T25 l0 x17_1).f4), .slice none 0 0, .slice none 0 0]) ?_ 5 _ rfl; (with_reducible repeat (first | refine blk_drewN ?_ _ | refine blk_drew ?_ | refine blk_alloc ?_ _)); refine blk_put (cs := #[.string ((rd_T25 l0 x17_1).f0), .string ((rd_T25 l0 x17_1).f1), .int .i64 ((rd_T25 l0 x17_1).f2), .slice A165_3 ((rd_T25 l0 x17_1).f3).length c165_3, .bool false, .slice none 0 0, .slice none 0 0]) ?_ 4 _ rfl; (with_reducible repeat (first | refine blk_drewN ?_ _ | refine blk_drew ?_ | refine blk_alloc ?_ _)); refine blk_put (cs := #[.string ((rd_T25 l0 x17_1).f0), .string ((rd_T25 l0 x17_1).f1), .int .i64 ((rd_T25 l0 x17_1).f2), .slice none 0 0, .bool false, .slice none 0 0, .slice none 0 0]) ?_ 3 _ rfl; (with_reducible repeat (first | refine blk_drewN ?_ _ | refine blk_drew ?_ | refine blk_alloc ?_ _)); refine blk_put (cs := #[.string ((rd_T25 l0 x17_1).f0), .string ((rd_T25 l0 x17_1).f1), .int .i64 0, .slice none 0 0, .bool false, .slice none 0 0, .slice none 0 0]) ?_ 2 _ rfl; (with_reducible repeat (first | refine blk_drewN ?_ _ | refine blk_drew ?_ | refine blk_alloc ?_ _)); refine blk_put (cs := #[.string ((rd_T25 l0 x17_1).f0), .string (⟨#[]⟩ : ByteArray), .int .i64 0, .slice none 0 0, .bool false, .slice none 0 0, .slice none 0 0]) ?_ 1 _ rfl; (with_reducible repeat (first | refine blk_drewN ?_ _ | refine blk_drew ?_ | refine blk_alloc ?_ _)); refine blk_put (cs := #[.string (⟨#[]⟩ : ByteArray), .string (⟨#[]⟩ : ByteArray), .int .i64 0, .slice none 0 0, .bool false, .slice none 0 0, .slice none 0 0]) ?_ 0 _ rfl; (with_reducible repeat (first | refine blk_drewN ?_ _ | refine blk_drew ?_ | refine blk_alloc ?_ _)); exact BK166.out)) : gb166 ≠ gb168)); have n6_ := Aside0.mk ((by rw [hg]; exact Nat.ne_of_gt (blk_lt (g := gb166) (o := .cells #[.string ((rd_T25 l0 x17_1).f0), .string ((rd_T25 l0 x17_1).f1), .int .i64 ((rd_T25 l0 x17_1).f2), .slice A165_3 ((rd_T25 l0 x17_1).f3).length c165_3, .bool ((rd_T25 l0 x17_1).f4), .slice A165_5 ((rd_T25 l0 x17_1).f5).length c165_5, .slice A165_6 ((rd_T25 l0 x17_1).f6).length c165_6] 25 (0, 0)) (by (with_reducible repeat (first | refine blk_drewN ?_ _ | refine blk_drew ?_ | refine blk_alloc ?_ _)); refine blk_put (cs := #[.string ((rd_T25 l0 x17_1).f0), .string ((rd_T25 l0 x17_1).f1), .int .i64 ((rd_T25 l0 x17_1).f2), .slice A165_3 ((rd_T25 l0 x17_1).f3).length c165_3, .bool ((rd_T25 l0 x17_1).f4), .slice A165_5 ((rd_T25 l0 x17_1).f5).length c165_5, .slice none 0 0]) ?_ 6 _ rfl; (with_reducible repeat (first | refine blk_drewN ?_ _ | refine blk_drew ?_ | refine blk_alloc ?_ _)); refine blk_put (cs := #[.string ((rd_T25 l0 x17_1).f0), .string ((rd_T25 l0 x17_1).f1), .int .i64 ((rd_T25 l0 x17_1).f2), .slice A165_3 ((rd_T25 l0 x17_1).f3).length c165_3, .bool ((rd_T25 l0 x17_1).f4), .slice none 0 0, .slice none 0 0]) ?_ 5 _ rfl; (with_reducible repeat (first | refine blk_drewN ?_ _ | refine blk_drew ?_ | refine blk_alloc ?_ _)); refine blk_put (cs := #[.string ((rd_T25 l0 x17_1).f0), .string ((rd_T25 l0 x17_1).f1), .int .i64 ((rd_T25 l0 x17_1).f2), .slice A165_3 ((rd_T25 l0 x17_1).f3).length c165_3, .bool false, .slice none 0 0, .slice none 0 0]) ?_ 4 _ rfl; (with_reducible repeat (first | refine blk_drewN ?_ _ | refine blk_drew ?_ | refine blk_alloc ?_ _)); refine blk_put (cs := #[.string ((rd_T25 l0 x17_1).f0), .string ((rd_T25 l0 x17_1).f1), .int .i64 ((rd_T25 l0 x17_1).f2), .slice none 0 0, .bool false, .slice none 0 0, .slice none 0 0]) ?_ 3 _ rfl; (with_reducible repeat (first | refine blk_drewN ?_ _ | refine blk_drew ?_ | refine blk_alloc ?_ _)); refine blk_put (cs := #[.string ((rd_T25 l0 x17_1).f0), .string ((rd_T25 l0 x17_1).f1), .int .i64 0, .slice none 0 0, .bool false, .slice none 0 0, .slice none 0 0]) ?_ 2 _ rfl; (with_reducible repeat (first | refine blk_drewN ?_ _ | refine blk_drew ?_ | refine blk_alloc ?_ _)); refine blk_put (cs := #[.string ((rd_T25 l0 x17_1).f0), .string (⟨#[]⟩ : ByteArray), .int .i64 0, .slice none 0 0, .bool false, .slice none 0 0, .slice none 0 0]) ?_ 1 _ rfl; (with_reducible repeat (first | refine blk_drewN ?_ _ | refine blk_drew ?_ | refine blk_alloc ?_ _)); refine blk_put (cs := #[.string (⟨#[]⟩ : ByteArray), .string (⟨#[]⟩ : ByteArray), .int .i64 0, .slice none 0 0, .bool false, .slice none 0 0, .slice none 0 0]) ?_ 0 _ rfl; (with_reducible repeat (first | refine blk_drewN ?_ _ | refine blk_drew ?_ | refine blk_alloc ?_ _)); exact BK166.out)) : gb168 ≠ gb166)); clear BK166; clear HB; have BK166 := n0_; have HB := n1_; have BK168 := n2_; have GW168 := n3_; have GE168 := n4_; have NB166_168 := n5_; have NB168_166 := n6_; clear n0_ n1_ n2_ n3_ n4_ n5_ n6_; clear hb hbox hg; have hnb21 := NB168_166.out; have hnc21 := NB166_168.out; have hcz22_0 : w20.cell? ⟨gb168, 0, none⟩ = some (.string (⟨#[]⟩ : ByteArray)) := (blk_cell BK168.out 0).trans rfl; have hcz22_1 : w20.cell? ⟨gb168, 1, none⟩ = some (.string (⟨#[]⟩ : ByteArray)) := (blk_cell BK168.out 1).trans rfl; have hcz22_2 : w20.cell? ⟨gb168, 2, none⟩ = some (.int .i64 0) := (blk_cell BK168.out 2).trans rfl; have hcz22_3 : w20.cell? ⟨gb168, 3, none⟩ = some (.slice none 0 0) := (blk_cell BK168.out 3).trans rfl; have hcz22_4 : w20.cell? ⟨gb168, 4, none⟩ = some (.bool false) := (blk_cell BK168.out 4).trans rfl; have hcz22_5 : w20.cell? ⟨gb168, 5, none⟩ = some (.slice none 0 0) := (blk_cell BK168.out 5).trans rfl; have hcz22_6 : w20.cell? ⟨gb168, 6, none⟩ = some (.slice none 0 0) := (blk_cell BK168.out 6).trans rfl; have hfz22_0 := blk_frozen BK168.out 0; have hfz22_1 := blk_frozen BK168.out 1; have hfz22_2 := blk_frozen BK168.out 2; have hfz22_3 := blk_frozen BK168.out 3; have hfz22_4 := blk_frozen BK168.out 4; have hfz22_5 := blk_frozen BK168.out 5; have hfz22_6 := blk_frozen BK168.out 6; have hcz23_0 : w20.cell? ⟨gb166, 0, none⟩ = some (.string ((rd_T25 l0 x17_1).f0)) := (blk_cell BK166.out 0).trans rfl; have hcz23_1 : w20.cell? ⟨gb166, 1, none⟩ = some (.string ((rd_T25 l0 x17_1).f1)) := (blk_cell BK166.out 1).trans rfl; have hcz23_2 : w20.cell? ⟨gb166, 2, none⟩ = some (.int .i64 ((rd_T25 l0 x17_1).f2)) := (blk_cell BK166.out 2).trans rfl; have hcz23_3 : w20.cell? ⟨gb166, 3, none⟩ = some (.slice A165_3 ((rd_T25 l0 x17_1).f3).length c165_3) := (blk_cell BK166.out 3).trans rfl; have hcz23_4 : w20.cell? ⟨gb166, 4, none⟩ = some (.bool ((rd_T25 l0 x17_1).f4)) := (blk_cell BK166.out 4).trans rfl; have hcz23_5 : w20.cell? ⟨gb166, 5, none⟩ = some (.slice A165_5 ((rd_T25 l0 x17_1).f5).length c165_5) := (blk_cell BK166.out 5).trans rfl; have hcz23_6 : w20.cell? ⟨gb166, 6, none⟩ = some (.slice A165_6 ((rd_T25 l0 x17_1).f6).length c165_6) := (blk_cell BK166.out 6).trans rfl; have hfz23_0 := blk_frozen BK166.out 0; have hfz23_1 := blk_frozen BK166.out 1; have hfz23_2 := blk_frozen BK166.out 2; have hfz23_3 := blk_frozen BK166.out 3; have hfz23_4 := blk_frozen BK166.out 4; have hfz23_5 := blk_frozen BK166.out 5; have hfz23_6 := blk_frozen BK166.out 6) | (go_at_call 10; (with_reducible refine (record_Same.calls k1 ((rd_T25 l0 x17_1).f0) ((rd_T25 l0 x17_1).f1) ((rd_T25 l0 x17_1).f2) _ _ ((rd_T25 l0 x17_1).f3) ((rd_T25 l0 x17_1).f4) _ _ ((rd_T25 l0 x17_1).f5) _ _ ((rd_T25 l0 x17_1).f6) ((rd_T25 l1 x17_1).f0) ((rd_T25 l1 x17_1).f1) ((rd_T25 l1 x17_1).f2) _ _ ((rd_T25 l1 x17_1).f3) ((rd_T25 l1 x17_1).f4) _ _ ((rd_T25 l1 x17_1).f5) _ _ ((rd_T25 l1 x17_1).f6) false _ ?side1 ?side2 ?side3 ?side4 ?side5 ?side6 ?side7 ?side8 ?side9 ?side10 ?side11 ?side12 A9.out).mono ?_); (case side1 => exact Kd.C_below HR165_3.out Mark.h); (case side2 => exact HC165_3.out); (case side3 => exact Kd.C_below HR165_5.out Mark.h); (case side4 => exact HC165_5.out); (case side5 => exact Kd.C_below HR165_6.out Mark.h); (case side6 => exact HC165_6.out); (case side7 => exact Kd.C_below HR167_3.out Mark.h); (case side8 => exact HC167_3.out); (case side9 => exact Kd.C_below HR167_5.out Mark.h); (case side10 => exact HC167_5.out); (case side11 => exact Kd.C_below HR167_6.out Mark.h); (case side12 => exact HC167_6.out); rintro e w24 ⟨rfl, hb⟩; have n0_ := Aside0.mk (blk_below (g := gb166) (o := .cells #[.string ((rd_T25 l0 x17_1).f0), .string ((rd_T25 l0 x17_1).f1), .int .i64 ((rd_T25 l0 x17_1).f2), .slice A165_3 ((rd_T25 l0 x17_1).f3).length c165_3, .bool ((rd_T25 l0 x17_1).f4), .slice A165_5 ((rd_T25 l0 x17_1).f5).length c165_5, .slice A165_6 ((rd_T25 l0 x17_1).f6).length c165_6] 25 (0, 0)) (by (repeat ((with_reducible repeat (first | refine blk_drewN ?_ _ | refine blk_drew ?_ | refine blk_alloc ?_ _)); refine blk_far ?_ NB166_168.out _)); (with_reducible repeat (first | refine blk_drewN ?_ _ | refine blk_drew ?_ | refine blk_alloc ?_ _)); exact BK166.out) hb); have n1_ := Aside0.mk (blk_below (g := gb168) (o := .cells #[.string ((rd_T25 l1 x17_1).f0), .string ((rd_T25 l1 x17_1).f1), .int .i64 ((rd_T25 l1 x17_1).f2), .slice A167_3 ((rd_T25 l1 x17_1).f3).length c167_3, .bool ((rd_T25 l1 x17_1).f4), .slice A167_5 ((rd_T25 l1 x17_1).f5).length c167_5, .slice A167_6 ((rd_T25 l1 x17_1).f6).length c167_6] 25 (0, 0)) (by (with_reducible repeat (first | refine blk_drewN ?_ _ | refine blk_drew ?_ | refine blk_alloc ?_ _)); refine blk_put (cs := #[.string ((rd_T25 l1 x17_1).f0), .string ((rd_T25 l1 x17_1).f1), .int .i64 ((rd_T25 l1 x17_1).f2), .slice A167_3 ((rd_T25 l1 x17_1).f3).length c167_3, .bool ((rd_T25 l1 x17_1).f4), .slice A167_5 ((rd_T25 l1 x17_1).f5).length c167_5, .slice none 0 0]) ?_ 6 _ rfl; (with_reducible repeat (first | refine blk_drewN ?_ _ | refine blk_drew ?_ | refine blk_alloc ?_ _)); refine blk_put (cs := #[.string ((rd_T25 l1 x17_1).f0), .string ((rd_T25 l1 x17_1).f1), .int .i64 ((rd_T25 l1 x17_1).f2), .slice A167_3 ((rd_T25 l1 x17_1).f3).length c167_3, .bool ((rd_T25 l1 x17_1).f4), .slice none 0 0, .slice none 0 0]) ?_ 5 _ rfl; (with_reducible repeat (first | refine blk_drewN ?_ _ | refine blk_drew ?_ | refine blk_alloc ?_ _)); refine blk_put (cs := #[.string ((rd_T25 l1 x17_1).f0), .string ((rd_T25 l1 x17_1).f1), .int .i64 ((rd_T25 l1 x17_1).f2), .slice A167_3 ((rd_T25 l1 x17_1).f3).length c167_3, .bool false, .slice none 0 0, .slice none 0 0]) ?_ 4 _ rfl; (with_reducible repeat (first | refine blk_drewN ?_ _ | refine blk_drew ?_ | refine blk_alloc ?_ _)); refine blk_put (cs := #[.string ((rd_T25 l1 x17_1).f0), .string ((rd_T25 l1 x17_1).f1), .int .i64 ((rd_T25 l1 x17_1).f2), .slice none 0 0, .bool false, .slice none 0 0, .slice none 0 0]) ?_ 3 _ rfl; (with_reducible repeat (first | refine blk_drewN ?_ _ | refine blk_drew ?_ | refine blk_alloc ?_ _)); refine blk_put (cs := #[.string ((rd_T25 l1 x17_1).f0), .string ((rd_T25 l1 x17_1).f1), .int .i64 0, .slice none 0 0, .bool false, .slice none 0 0, .slice none 0 0]) ?_ 2 _ rfl; (with_reducible repeat (first | refine blk_drewN ?_ _ | refine blk_drew ?_ | refine blk_alloc ?_ _)); refine blk_put (cs := #[.string ((rd_T25 l1 x17_1).f0), .string (⟨#[]⟩ : ByteArray), .int .i64 0, .slice none 0 0, .bool false, .slice none 0 0, .slice none 0 0]) ?_ 1 _ rfl; (with_reducible repeat (first | refine blk_drewN ?_ _ | refine blk_drew ?_ | refine blk_alloc ?_ _)); refine blk_put (cs := #[.string (⟨#[]⟩ : ByteArray), .string (⟨#[]⟩ : ByteArray), .int .i64 0, .slice none 0 0, .bool false, .slice none 0 0, .slice none 0 0]) ?_ 0 _ rfl; (with_reducible repeat (first | refine blk_drewN ?_ _ | refine blk_drew ?_ | refine blk_alloc ?_ _)); exact BK168.out) hb); have n2_ := Aside0.mk (below_step Mark.h hb); clear BK166; clear BK168; clear HB; have BK166 := n0_; have BK168 := n1_; have HB := n2_; clear n0_ n1_ n2_; (try clear hb); (try clear hb2); (try clear hk); (try clear hi)))
         go_ret
         exact ⟨by first | rfl | (simp [errW_none, errW_some] <;> rfl) | (simp [*, errW_none, errW_some] <;> rfl), Mark.h⟩
       ·rw [if_neg c8] at H
        exact absurd H (by simp)
      ·rw [if_neg c7] at H
       exact absurd H (by simp)
     ·rw [if_neg c6] at H
      exact absurd H (by simp)
    ·rw [if_neg c5] at H
     have c5b0 : decide (x17_1 < (l0.length : Int)) = false := decide_eq_false c5
     clear c5
     obtain rfl := Option.some.inj H
     go_wp2
     go_ret
     exact ⟨by first | rfl | (simp [errW_none, errW_some] <;> rfl) | (simp [*, errW_none, errW_some] <;> rfl), Mark.h⟩
 ·rw [if_neg c4] at H
  have c4b0 : ((l0.length : Int) == (l1.length : Int)) = false := beq_eq_false_iff_ne.mpr c4
  have c4b1 : ((l0.length : Int) != (l1.length : Int)) = true := bne_iff_ne.mpr c4
  have c4b2 : (l0.length == l1.length) = false := by first | simpa using c4 | (simp at c4 ⊢; omega)
  obtain rfl := Option.some.inj H
  go_enter Tryd.func35, Tryd.ntmps35
  go_wp2
  go_ret
  exact ⟨by first | rfl | (simp [errW_none, errW_some] <;> rfl) | (simp [*, errW_none, errW_some] <;> rfl), Mark.h⟩

/-! ### record_All: function 19 -/
def record_All.f (k : Nat) (l0 : List (S25)) (l1 : List (S25)) : Option (Bool) := (api_Record.f k l0 l1).bind fun t170 => (some t170)
theorem record_All.mono : ∀ a0 a1 k, LeO (record_All.f k a0 a1) (record_All.f (k + 1) a0 a1) := by
 intro a0 a1 k
 unfold record_All.f
 repeat' first
   | (with_reducible exact api_Record.mono _ _ _)
   | (with_reducible exact LeO.refl _)
   | (with_reducible exact LeO.none _)
   | (with_reducible refine LeO.ite ?_ ?_)
   | (with_reducible refine LeO.bind ?_ (fun _ => ?_))
   | exact api_Record.mono _ _ _
   | exact LeO.none _
   | refine LeO.ite ?_ ?_
   | refine LeO.bind ?_ (fun _ => ?_)
set_option maxHeartbeats 8000000 in
set_option maxRecDepth 100000 in
theorem record_All.calls (k : Nat) (A0 : Option Addr) (c0 : Nat) (l0 : List (S25)) (A1 : Option Addr) (c1 : Nat) (l1 : List (S25)) (r : Bool) (w : World) (hr0 : Kd.C k25 w A0 l0.length l0) (hc0 : l0.length ≤ c0) (hr1 : Kd.C k25 w A1 l1.length l1) (hc1 : l1.length ≤ c1) (h : record_All.f k l0 l1 = some r) :
  Calls Tryd.prog 19 #[.slice A0 l0.length c0, .slice A1 l1.length c1] w fun e w' => e = .returned (.bool r) ∧ Below w.heap.size w w' := by
 have HR0 := Aside0.mk hr0
 have HC0 := Aside0.mk hc0
 clear hr0 hc0
 have HR1 := Aside0.mk hr1
 have HC1 := Aside0.mk hc1
 clear hr1 hc1
 have HB := Aside0.mk (Below.refl w.heap.size w)
 have H : ((api_Record.f k l0 l1).bind fun t170 => (some t170)) = some r := h
 clear h
 replace H := Option.bind_eq_some_iff.mp H
 obtain ⟨t170, A30, H⟩ := H
 replace H : (some t170) = some r := H
 have A3 := Aside0.mk A30
 clear A30
 obtain rfl := Option.some.inj H
 go_enter Tryd.func19, Tryd.ntmps19
 go_wp2_with (first | ((with_reducible refine gate_callee (f := 35) rfl ?_); refine goesL_ (some 7) rfl rfl Tryd.func35 (by kernel_rfl) rfl #[.slice A0 l0.length c0, .slice A1 l1.length c1, .func (Fn.func 10) #[] #[]] rfl (by (try simp only [List.map_toArray, List.map_cons, List.map_nil]); first | done | rfl | (simp only [List.length_drop, List.length_take]; rfl)) ?_; (with_reducible refine (api_Record.calls k _ _ l0 _ _ l1  t170 _ ?side1 ?side2 ?side3 ?side4 A3.out).mono ?_); (case side1 => repeat (first | exact HR0.out | (with_reducible refine Kd.C_alloc ?_ _) | (with_reducible refine Kd.C_drewN ?_ _) | (with_reducible refine Kd.C_drew ?_))); (case side2 => exact HC0.out); (case side3 => repeat (first | exact HR1.out | (with_reducible refine Kd.C_alloc ?_ _) | (with_reducible refine Kd.C_drewN ?_ _) | (with_reducible refine Kd.C_drew ?_))); (case side4 => exact HC1.out); rintro e w4 ⟨rfl, hb⟩; refine ⟨_, rfl, ?_⟩; have n0_ := Aside0.mk (below_step Mark.h hb); clear HB; have HB := n0_; clear n0_; (try clear hb); (try clear hb2); (try clear hk); (try clear hi)))
 go_ret
 exact ⟨by first | rfl | (simp [errW_none, errW_some] <;> rfl) | (simp [*, errW_none, errW_some] <;> rfl), Mark.h⟩

end Go.Proofs.YtomofacchnmepaaDoor.PRecordCopies
