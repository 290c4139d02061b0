-- Written by a program of this session (wip/tools/myprint.sh)
import Derived.Test.YtlheepfjdmhplaaDoorPFramingClausesx0
import Derived.Test.YtlheepfjdmhplaaDoorPFramingClausesx3
import Derived.Test.YtlheepfjdmhplaaDoorPFramingClausesx4
import Derived.Test.YtlheepfjdmhplaaDoorPFramingClausesx5
import Derived.Test.YtlheepfjdmhplaaDoorPFramingClausesx6
namespace Go.Proofs.YtlheepfjdmhplaaDoor.PFramingClauses
open Go.RowKit Go.Proofs.YtlheepfjdmhplaaDoorW.PrintWords Go.Proofs.YtlheepfjdmhplaaDoorW.PrintLast Go.Proofs.YtlheepfjdmhplaaDoorW.PrintMore
attribute [local go_sem] max2_int min2_int max_two min_two max_three min_three max_four min_four   -- for this text's walks alone
set_option linter.unusedVariables false
set_option linter.unusedSimpArgs false

/-! ### parallaxref4_Usual: function 24 -/
def parallaxref4_Usual.f  : Option (Int × Int × Int × Int × Int × Int × Int × Int × Bool × Bool) := some (1024, 32, 8192, 65536, 32, 8, 4, 20, true, true)
set_option maxHeartbeats 8000000 in
set_option maxRecDepth 100000 in
theorem parallaxref4_Usual.calls  (r1 : Int) (r2 : Int) (r3 : Int) (r4 : Int) (r5 : Int) (r6 : Int) (r7 : Int) (r8 : Int) (r9 : Bool) (r10 : Bool) (w : World) (h : parallaxref4_Usual.f  = some (r1, r2, r3, r4, r5, r6, r7, r8, r9, r10)) :
    Calls Tryd.prog 24 #[] w fun e w' => e = .returned (.agg #[.int .i64 r1, .int .i64 r2, .int .i64 r3, .int .i64 r4, .int .i64 r5, .int .i64 r6, .int .i64 r7, .int .i64 r8, .bool r9, .bool r10]) ∧ Below w.heap.size w w' := by
  have hu30 := Tryd.underlying30
  have HB := Aside0.mk (Below.refl w.heap.size w)
  have H : (some (1024, 32, 8192, 65536, 32, 8, 4, 20, true, true)) = some (r1, r2, r3, r4, r5, r6, r7, r8, r9, r10) := h
  clear h
  simp only [Option.some.injEq, Prod.mk.injEq] at H
  obtain ⟨rfl, rfl, rfl, rfl, rfl, rfl, rfl, rfl, rfl, rfl⟩ := H
  go_enter Tryd.func24, Tryd.ntmps24
  go_wp2_with (first | ((with_reducible refine gate_dst (N := 0) rfl ?_); refine box_event ?hg (N := 0) ?hd (cs := #[.int .i64 0, .int .i64 0, .int .i64 0, .int .i64 0, .int .i64 0, .int .i64 0, .int .i64 0, .int .i64 0, .bool false, .bool false]) (t := 30) ?hr ?_; (case hd => rfl); (case hg => rfl); (case hr => first | (go_simp; done) | (go_simp; rfl)); intro gb243 hg w1 hbox hb; have n0_ := Aside0.mk (below_step (by repeat (first | (with_reducible first | exact HB.out | apply below_alloc | apply pw_below_drewN | apply below_drew1) | exact HB.out)) hb); have n1_ := Aside0.mk (hbox); have n2_ := Aside0.mk ((by rw [hg]; exact (below_size (by repeat (first | (with_reducible first | exact HB.out | apply below_alloc | apply pw_below_drewN | apply below_drew1) | exact HB.out))) : w.heap.size ≤ gb243)); have n3_ := Aside0.mk ((by rw [hg]; exact (below_size (by repeat (first | (with_reducible first | exact HB.out | apply below_alloc | apply pw_below_drewN | apply below_drew1) | exact HB.out))) : w.heap.size ≤ gb243)); clear HB; have HB := n0_; have BK243 := n1_; have GW243 := n2_; have GE243 := n3_; clear n0_ n1_ n2_ n3_; clear hb hbox hg; have hcz2_0 : w1.cell? ⟨gb243, 0, none⟩ = some (.int .i64 0) := (blk_cell BK243.out 0).trans rfl; have hcz2_1 : w1.cell? ⟨gb243, 1, none⟩ = some (.int .i64 0) := (blk_cell BK243.out 1).trans rfl; have hcz2_2 : w1.cell? ⟨gb243, 2, none⟩ = some (.int .i64 0) := (blk_cell BK243.out 2).trans rfl; have hcz2_3 : w1.cell? ⟨gb243, 3, none⟩ = some (.int .i64 0) := (blk_cell BK243.out 3).trans rfl; have hcz2_4 : w1.cell? ⟨gb243, 4, none⟩ = some (.int .i64 0) := (blk_cell BK243.out 4).trans rfl; have hcz2_5 : w1.cell? ⟨gb243, 5, none⟩ = some (.int .i64 0) := (blk_cell BK243.out 5).trans rfl; have hcz2_6 : w1.cell? ⟨gb243, 6, none⟩ = some (.int .i64 0) := (blk_cell BK243.out 6).trans rfl; have hcz2_7 : w1.cell? ⟨gb243, 7, none⟩ = some (.int .i64 0) := (blk_cell BK243.out 7).trans rfl; have hcz2_8 : w1.cell? ⟨gb243, 8, none⟩ = some (.bool false) := (blk_cell BK243.out 8).trans rfl; have hcz2_9 : w1.cell? ⟨gb243, 9, none⟩ = some (.bool false) := (blk_cell BK243.out 9).trans rfl; have hfz2_0 := blk_frozen BK243.out 0; have hfz2_1 := blk_frozen BK243.out 1; have hfz2_2 := blk_frozen BK243.out 2; have hfz2_3 := blk_frozen BK243.out 3; have hfz2_4 := blk_frozen BK243.out 4; have hfz2_5 := blk_frozen BK243.out 5; have hfz2_6 := blk_frozen BK243.out 6; have hfz2_7 := blk_frozen BK243.out 7; have hfz2_8 := blk_frozen BK243.out 8; have hfz2_9 := blk_frozen BK243.out 9))
  refine bodyPost_ret (results_cell_row rfl _ _ gb243 30 #[.int .i64 1024, .int .i64 32, .int .i64 8192, .int .i64 65536, .int .i64 32, .int .i64 8, .int .i64 4, .int .i64 20, .bool true, .bool true] (0, 0) _ rfl (by (with_reducible repeat (first | refine blk_drewN ?_ _ | refine blk_drew ?_ | refine blk_alloc ?_ _)); refine blk_put (cs := #[.int .i64 1024, .int .i64 32, .int .i64 8192, .int .i64 65536, .int .i64 32, .int .i64 8, .int .i64 4, .int .i64 20, .bool true, .bool false]) ?_ 9 _ rfl; (with_reducible repeat (first | refine blk_drewN ?_ _ | refine blk_drew ?_ | refine blk_alloc ?_ _)); refine blk_put (cs := #[.int .i64 1024, .int .i64 32, .int .i64 8192, .int .i64 65536, .int .i64 32, .int .i64 8, .int .i64 4, .int .i64 20, .bool false, .bool false]) ?_ 8 _ rfl; (with_reducible repeat (first | refine blk_drewN ?_ _ | refine blk_drew ?_ | refine blk_alloc ?_ _)); refine blk_put (cs := #[.int .i64 1024, .int .i64 32, .int .i64 8192, .int .i64 65536, .int .i64 32, .int .i64 8, .int .i64 4, .int .i64 0, .bool false, .bool false]) ?_ 7 _ rfl; (with_reducible repeat (first | refine blk_drewN ?_ _ | refine blk_drew ?_ | refine blk_alloc ?_ _)); refine blk_put (cs := #[.int .i64 1024, .int .i64 32, .int .i64 8192, .int .i64 65536, .int .i64 32, .int .i64 8, .int .i64 0, .int .i64 0, .bool false, .bool false]) ?_ 6 _ rfl; (with_reducible repeat (first | refine blk_drewN ?_ _ | refine blk_drew ?_ | refine blk_alloc ?_ _)); refine blk_put (cs := #[.int .i64 1024, .int .i64 32, .int .i64 8192, .int .i64 65536, .int .i64 32, .int .i64 0, .int .i64 0, .int .i64 0, .bool false, .bool false]) ?_ 5 _ rfl; (with_reducible repeat (first | refine blk_drewN ?_ _ | refine blk_drew ?_ | refine blk_alloc ?_ _)); refine blk_put (cs := #[.int .i64 1024, .int .i64 32, .int .i64 8192, .int .i64 65536, .int .i64 0, .int .i64 0, .int .i64 0, .int .i64 0, .bool false, .bool false]) ?_ 4 _ rfl; (with_reducible repeat (first | refine blk_drewN ?_ _ | refine blk_drew ?_ | refine blk_alloc ?_ _)); refine blk_put (cs := #[.int .i64 1024, .int .i64 32, .int .i64 8192, .int .i64 0, .int .i64 0, .int .i64 0, .int .i64 0, .int .i64 0, .bool false, .bool false]) ?_ 3 _ rfl; (with_reducible repeat (first | refine blk_drewN ?_ _ | refine blk_drew ?_ | refine blk_alloc ?_ _)); refine blk_put (cs := #[.int .i64 1024, .int .i64 32, .int .i64 0, .int .i64 0, .int .i64 0, .int .i64 0, .int .i64 0, .int .i64 0, .bool false, .bool false]) ?_ 2 _ rfl; (with_reducible repeat (first | refine blk_drewN ?_ _ | refine blk_drew ?_ | refine blk_alloc ?_ _)); refine blk_put (cs := #[.int .i64 1024, .int .i64 0, .int .i64 0, .int .i64 0, .int .i64 0, .int .i64 0, .int .i64 0, .int .i64 0, .bool false, .bool false]) ?_ 1 _ rfl; (with_reducible repeat (first | refine blk_drewN ?_ _ | refine blk_drew ?_ | refine blk_alloc ?_ _)); refine blk_put (cs := #[.int .i64 0, .int .i64 0, .int .i64 0, .int .i64 0, .int .i64 0, .int .i64 0, .int .i64 0, .int .i64 0, .bool false, .bool false]) ?_ 0 _ rfl; (with_reducible repeat (first | refine blk_drewN ?_ _ | refine blk_drew ?_ | refine blk_alloc ?_ _)); exact BK243.out) Tryd.underlying30 rfl (by kernel_rfl)) rfl ?_
  exact ⟨by first | rfl | (simp [errW_none, errW_some] <;> rfl) | (simp [*, errW_none, errW_some] <;> rfl), by repeat (first | (with_reducible first | exact HB.out | apply below_alloc | apply pw_below_drewN | apply below_drew1 | refine below_set ?_ GE243.out) | exact HB.out)⟩

/-! ### parallaxlaw10_known: function 8 -/
def parallaxlaw10_known.j0 : Nat → Bool → Option (Bool)
  | 0, _ => none
  | k + 1, x0 => some x0
def parallaxlaw10_known.f (k : Nat)  : Option (Bool) := (parallaxref4_Usual.f).bind fun bt244 => ((framing_Decide.f k 0 bt244.1 bt244.2.1 bt244.2.2.1 bt244.2.2.2.1 bt244.2.2.2.2.1 bt244.2.2.2.2.2.1 bt244.2.2.2.2.2.2.1 bt244.2.2.2.2.2.2.2.1 bt244.2.2.2.2.2.2.2.2.1 bt244.2.2.2.2.2.2.2.2.2 1 (([(⟨(⟨#[104, 111, 115, 116]⟩ : ByteArray), (⟨#[97]⟩ : ByteArray)⟩ : S34), (⟨(⟨#[99, 111, 110, 116, 101, 110, 116, 45, 108, 101, 110, 103, 116, 104]⟩ : ByteArray), (⟨#[53]⟩ : ByteArray)⟩ : S34)] : List (S34)))).bind fun bt258 => ((framing_Decide.f k 0 bt244.1 bt244.2.1 bt244.2.2.1 bt244.2.2.2.1 bt244.2.2.2.2.1 bt244.2.2.2.2.2.1 bt244.2.2.2.2.2.2.1 bt244.2.2.2.2.2.2.2.1 bt244.2.2.2.2.2.2.2.2.1 bt244.2.2.2.2.2.2.2.2.2 1 (([(⟨(⟨#[72, 111, 115, 116]⟩ : ByteArray), (⟨#[97]⟩ : ByteArray)⟩ : S34), (⟨(⟨#[84, 114, 97, 110, 115, 102, 101, 114, 45, 69, 110, 99, 111, 100, 105, 110, 103]⟩ : ByteArray), (⟨#[67, 104, 117, 110, 107, 101, 100]⟩ : ByteArray)⟩ : S34)] : List (S34)))).bind fun bt265 => ((framing_Length.f k 0 9 (([(⟨#[49, 48]⟩ : ByteArray)] : List ByteArray))).bind fun bt272 => (if bt258.2.2 = 0 then (if bt258.1 = 1 then (if bt258.2.1 = 5 then (if bt265.2.2 = 0 then (if bt265.1 = 2 then (if bt272.1 = 0 then (if bt272.2 = 413 then ((framing_Coding.f k 0 (([(⟨#[99, 104, 117, 110, 107, 101, 100]⟩ : ByteArray)] : List ByteArray))).bind fun t277 => (if t277 = true then ((framing_Coding.f k 0 (([(⟨#[103, 122, 105, 112, 44, 32, 99, 104, 117, 110, 107, 101, 100]⟩ : ByteArray)] : List ByteArray))).bind fun t281 => (if t281 = true then (parallaxlaw10_known.j0 k false) else ((framing_Hosts.f k 0 1 ([] : List (S34))).bind fun t282 => (parallaxlaw10_known.j0 k (t282 == 400))))) else (parallaxlaw10_known.j0 k false))) else (parallaxlaw10_known.j0 k false)) else (parallaxlaw10_known.j0 k false)) else (parallaxlaw10_known.j0 k false)) else (parallaxlaw10_known.j0 k false)) else (parallaxlaw10_known.j0 k false)) else (parallaxlaw10_known.j0 k false)) else (parallaxlaw10_known.j0 k false)))))
theorem parallaxlaw10_known.mono_l : ∀ k, (∀ y0, LeO (parallaxlaw10_known.j0 k y0) (parallaxlaw10_known.j0 (k + 1) y0))
  | 0 => fun _ r h => by simp [parallaxlaw10_known.j0] at h
  | k + 1 => by
    have ih0 := parallaxlaw10_known.mono_l k
    · intro y0
      unfold parallaxlaw10_known.j0
      repeat' first
      | (with_reducible exact ih0 _)
      | (with_reducible exact framing_Coding.mono _ _ _)
      | (with_reducible exact framing_Decide.mono _ _ _ _ _ _ _ _ _ _ _ _ _ _)
      | (with_reducible exact framing_Hosts.mono _ _ _ _)
      | (with_reducible exact framing_Length.mono _ _ _ _)
      | (with_reducible exact LeO.refl _)
      | (with_reducible exact LeO.none _)
      | (with_reducible refine LeO.ite ?_ ?_)
      | (with_reducible refine LeO.bind ?_ (fun _ => ?_))
      | exact ih0 _
      | exact framing_Coding.mono _ _ _
      | exact framing_Decide.mono _ _ _ _ _ _ _ _ _ _ _ _ _ _
      | exact framing_Hosts.mono _ _ _ _
      | exact framing_Length.mono _ _ _ _
      | exact LeO.none _
      | refine LeO.ite ?_ ?_
      | refine LeO.bind ?_ (fun _ => ?_)
theorem parallaxlaw10_known.mono : ∀ k, LeO (parallaxlaw10_known.f k ) (parallaxlaw10_known.f (k + 1) ) := by
  intro  k
  have ih0 := parallaxlaw10_known.mono_l k
  unfold parallaxlaw10_known.f
  repeat' first
      | (with_reducible exact ih0 _)
      | (with_reducible exact framing_Coding.mono _ _ _)
      | (with_reducible exact framing_Decide.mono _ _ _ _ _ _ _ _ _ _ _ _ _ _)
      | (with_reducible exact framing_Hosts.mono _ _ _ _)
      | (with_reducible exact framing_Length.mono _ _ _ _)
      | (with_reducible exact LeO.refl _)
      | (with_reducible exact LeO.none _)
      | (with_reducible refine LeO.ite ?_ ?_)
      | (with_reducible refine LeO.bind ?_ (fun _ => ?_))
      | exact ih0 _
      | exact framing_Coding.mono _ _ _
      | exact framing_Decide.mono _ _ _ _ _ _ _ _ _ _ _ _ _ _
      | exact framing_Hosts.mono _ _ _ _
      | exact framing_Length.mono _ _ _ _
      | exact LeO.none _
      | refine LeO.ite ?_ ?_
      | refine LeO.bind ?_ (fun _ => ?_)
set_option maxHeartbeats 8000000 in
set_option maxRecDepth 100000 in
theorem parallaxlaw10_known.calls (k : Nat)  (r : Bool) (w : World) (hT : r = true) (h : parallaxlaw10_known.f k  = some r) :
    Calls Tryd.prog 8 #[] w fun e w' => e = .returned (.bool r) ∧ Below w.heap.size w w' := by
  have hu30 := Tryd.underlying30
  have hu34 := Tryd.underlying34
  have hu40 := Tryd.underlying40
  have HT := Aside0.mk hT
  clear hT
  have HB := Aside0.mk (Below.refl w.heap.size w)
  have H : ((parallaxref4_Usual.f).bind fun bt244 => ((framing_Decide.f k 0 bt244.1 bt244.2.1 bt244.2.2.1 bt244.2.2.2.1 bt244.2.2.2.2.1 bt244.2.2.2.2.2.1 bt244.2.2.2.2.2.2.1 bt244.2.2.2.2.2.2.2.1 bt244.2.2.2.2.2.2.2.2.1 bt244.2.2.2.2.2.2.2.2.2 1 (([(⟨(⟨#[104, 111, 115, 116]⟩ : ByteArray), (⟨#[97]⟩ : ByteArray)⟩ : S34), (⟨(⟨#[99, 111, 110, 116, 101, 110, 116, 45, 108, 101, 110, 103, 116, 104]⟩ : ByteArray), (⟨#[53]⟩ : ByteArray)⟩ : S34)] : List (S34)))).bind fun bt258 => ((framing_Decide.f k 0 bt244.1 bt244.2.1 bt244.2.2.1 bt244.2.2.2.1 bt244.2.2.2.2.1 bt244.2.2.2.2.2.1 bt244.2.2.2.2.2.2.1 bt244.2.2.2.2.2.2.2.1 bt244.2.2.2.2.2.2.2.2.1 bt244.2.2.2.2.2.2.2.2.2 1 (([(⟨(⟨#[72, 111, 115, 116]⟩ : ByteArray), (⟨#[97]⟩ : ByteArray)⟩ : S34), (⟨(⟨#[84, 114, 97, 110, 115, 102, 101, 114, 45, 69, 110, 99, 111, 100, 105, 110, 103]⟩ : ByteArray), (⟨#[67, 104, 117, 110, 107, 101, 100]⟩ : ByteArray)⟩ : S34)] : List (S34)))).bind fun bt265 => ((framing_Length.f k 0 9 (([(⟨#[49, 48]⟩ : ByteArray)] : List ByteArray))).bind fun bt272 => (if bt258.2.2 = 0 then (if bt258.1 = 1 then (if bt258.2.1 = 5 then (if bt265.2.2 = 0 then (if bt265.1 = 2 then (if bt272.1 = 0 then (if bt272.2 = 413 then ((framing_Coding.f k 0 (([(⟨#[99, 104, 117, 110, 107, 101, 100]⟩ : ByteArray)] : List ByteArray))).bind fun t277 => (if t277 = true then ((framing_Coding.f k 0 (([(⟨#[103, 122, 105, 112, 44, 32, 99, 104, 117, 110, 107, 101, 100]⟩ : ByteArray)] : List ByteArray))).bind fun t281 => (if t281 = true then (parallaxlaw10_known.j0 k false) else ((framing_Hosts.f k 0 1 ([] : List (S34))).bind fun t282 => (parallaxlaw10_known.j0 k (t282 == 400))))) else (parallaxlaw10_known.j0 k false))) else (parallaxlaw10_known.j0 k false)) else (parallaxlaw10_known.j0 k false)) else (parallaxlaw10_known.j0 k false)) else (parallaxlaw10_known.j0 k false)) else (parallaxlaw10_known.j0 k false)) else (parallaxlaw10_known.j0 k false)) else (parallaxlaw10_known.j0 k false)))))) = some r := h
  clear h
  replace H := Option.bind_eq_some_iff.mp H
  obtain ⟨⟨t244, t245, t246, t247, t248, t249, t250, t251, t252, t253⟩, A10, H⟩ := H
  (try dsimp only at H)
  have A1 := Aside0.mk A10
  clear A10
  obtain ⟨y255, hy255⟩ : ∃ y_ : List (S34), y_ = (([(⟨(⟨#[104, 111, 115, 116]⟩ : ByteArray), (⟨#[97]⟩ : ByteArray)⟩ : S34), (⟨(⟨#[99, 111, 110, 116, 101, 110, 116, 45, 108, 101, 110, 103, 116, 104]⟩ : ByteArray), (⟨#[53]⟩ : ByteArray)⟩ : S34)] : List (S34))) := ⟨_, rfl⟩
  replace H : ((framing_Decide.f k 0 t244 t245 t246 t247 t248 t249 t250 t251 t252 t253 1 y255).bind fun bt258 => ((framing_Decide.f k 0 t244 t245 t246 t247 t248 t249 t250 t251 t252 t253 1 (([(⟨(⟨#[72, 111, 115, 116]⟩ : ByteArray), (⟨#[97]⟩ : ByteArray)⟩ : S34), (⟨(⟨#[84, 114, 97, 110, 115, 102, 101, 114, 45, 69, 110, 99, 111, 100, 105, 110, 103]⟩ : ByteArray), (⟨#[67, 104, 117, 110, 107, 101, 100]⟩ : ByteArray)⟩ : S34)] : List (S34)))).bind fun bt265 => ((framing_Length.f k 0 9 (([(⟨#[49, 48]⟩ : ByteArray)] : List ByteArray))).bind fun bt272 => (if bt258.2.2 = 0 then (if bt258.1 = 1 then (if bt258.2.1 = 5 then (if bt265.2.2 = 0 then (if bt265.1 = 2 then (if bt272.1 = 0 then (if bt272.2 = 413 then ((framing_Coding.f k 0 (([(⟨#[99, 104, 117, 110, 107, 101, 100]⟩ : ByteArray)] : List ByteArray))).bind fun t277 => (if t277 = true then ((framing_Coding.f k 0 (([(⟨#[103, 122, 105, 112, 44, 32, 99, 104, 117, 110, 107, 101, 100]⟩ : ByteArray)] : List ByteArray))).bind fun t281 => (if t281 = true then (parallaxlaw10_known.j0 k false) else ((framing_Hosts.f k 0 1 ([] : List (S34))).bind fun t282 => (parallaxlaw10_known.j0 k (t282 == 400))))) else (parallaxlaw10_known.j0 k false))) else (parallaxlaw10_known.j0 k false)) else (parallaxlaw10_known.j0 k false)) else (parallaxlaw10_known.j0 k false)) else (parallaxlaw10_known.j0 k false)) else (parallaxlaw10_known.j0 k false)) else (parallaxlaw10_known.j0 k false)) else (parallaxlaw10_known.j0 k false))))) = some r := by first | (rw [hy255]; with_reducible exact H) | (have H2_ := (Option.bind_some _ _).symm.trans H; rw [hy255]; with_reducible exact H2_) | (have H2_ := (Option.bind_some _ _).symm.trans H; with_reducible exact H2_) | with_reducible exact H | (rw [hy255]; exact H) | exact H
  have Ny255 := Aside0.mk hy255
  clear hy255
  replace H := Option.bind_eq_some_iff.mp H
  obtain ⟨⟨t258, t259, t260⟩, A20, H⟩ := H
  (try dsimp only at H)
  have A2 := Aside0.mk A20
  clear A20
  obtain ⟨y262, hy262⟩ : ∃ y_ : List (S34), y_ = (([(⟨(⟨#[72, 111, 115, 116]⟩ : ByteArray), (⟨#[97]⟩ : ByteArray)⟩ : S34), (⟨(⟨#[84, 114, 97, 110, 115, 102, 101, 114, 45, 69, 110, 99, 111, 100, 105, 110, 103]⟩ : ByteArray), (⟨#[67, 104, 117, 110, 107, 101, 100]⟩ : ByteArray)⟩ : S34)] : List (S34))) := ⟨_, rfl⟩
  replace H : ((framing_Decide.f k 0 t244 t245 t246 t247 t248 t249 t250 t251 t252 t253 1 y262).bind fun bt265 => ((framing_Length.f k 0 9 (([(⟨#[49, 48]⟩ : ByteArray)] : List ByteArray))).bind fun bt272 => (if t260 = 0 then (if t258 = 1 then (if t259 = 5 then (if bt265.2.2 = 0 then (if bt265.1 = 2 then (if bt272.1 = 0 then (if bt272.2 = 413 then ((framing_Coding.f k 0 (([(⟨#[99, 104, 117, 110, 107, 101, 100]⟩ : ByteArray)] : List ByteArray))).bind fun t277 => (if t277 = true then ((framing_Coding.f k 0 (([(⟨#[103, 122, 105, 112, 44, 32, 99, 104, 117, 110, 107, 101, 100]⟩ : ByteArray)] : List ByteArray))).bind fun t281 => (if t281 = true then (parallaxlaw10_known.j0 k false) else ((framing_Hosts.f k 0 1 ([] : List (S34))).bind fun t282 => (parallaxlaw10_known.j0 k (t282 == 400))))) else (parallaxlaw10_known.j0 k false))) else (parallaxlaw10_known.j0 k false)) else (parallaxlaw10_known.j0 k false)) else (parallaxlaw10_known.j0 k false)) else (parallaxlaw10_known.j0 k false)) else (parallaxlaw10_known.j0 k false)) else (parallaxlaw10_known.j0 k false)) else (parallaxlaw10_known.j0 k false)))) = some r := by first | (rw [hy262]; with_reducible exact H) | (have H2_ := (Option.bind_some _ _).symm.trans H; rw [hy262]; with_reducible exact H2_) | (have H2_ := (Option.bind_some _ _).symm.trans H; with_reducible exact H2_) | with_reducible exact H | (rw [hy262]; exact H) | exact H
  have Ny262 := Aside0.mk hy262
  clear hy262
  replace H := Option.bind_eq_some_iff.mp H
  obtain ⟨⟨t265, t266, t267⟩, A30, H⟩ := H
  (try dsimp only at H)
  have A3 := Aside0.mk A30
  clear A30
  obtain ⟨y269, hy269⟩ : ∃ y_ : List ByteArray, y_ = (([(⟨#[49, 48]⟩ : ByteArray)] : List ByteArray)) := ⟨_, rfl⟩
  replace H : ((framing_Length.f k 0 9 y269).bind fun bt272 => (if t260 = 0 then (if t258 = 1 then (if t259 = 5 then (if t267 = 0 then (if t265 = 2 then (if bt272.1 = 0 then (if bt272.2 = 413 then ((framing_Coding.f k 0 (([(⟨#[99, 104, 117, 110, 107, 101, 100]⟩ : ByteArray)] : List ByteArray))).bind fun t277 => (if t277 = true then ((framing_Coding.f k 0 (([(⟨#[103, 122, 105, 112, 44, 32, 99, 104, 117, 110, 107, 101, 100]⟩ : ByteArray)] : List ByteArray))).bind fun t281 => (if t281 = true then (parallaxlaw10_known.j0 k false) else ((framing_Hosts.f k 0 1 ([] : List (S34))).bind fun t282 => (parallaxlaw10_known.j0 k (t282 == 400))))) else (parallaxlaw10_known.j0 k false))) else (parallaxlaw10_known.j0 k false)) else (parallaxlaw10_known.j0 k false)) else (parallaxlaw10_known.j0 k false)) else (parallaxlaw10_known.j0 k false)) else (parallaxlaw10_known.j0 k false)) else (parallaxlaw10_known.j0 k false)) else (parallaxlaw10_known.j0 k false))) = some r := by first | (rw [hy269]; with_reducible exact H) | (have H2_ := (Option.bind_some _ _).symm.trans H; rw [hy269]; with_reducible exact H2_) | (have H2_ := (Option.bind_some _ _).symm.trans H; with_reducible exact H2_) | with_reducible exact H | (rw [hy269]; exact H) | exact H
  have Ny269 := Aside0.mk hy269
  clear hy269
  replace H := Option.bind_eq_some_iff.mp H
  obtain ⟨⟨t272, t273⟩, A40, H⟩ := H
  (try dsimp only at H)
  have A4 := Aside0.mk A40
  clear A40
  have HC5 := Aside0.mk H
  clear H
  go_enter Tryd.func8, Tryd.ntmps8
  go_upto_region 5 with (first | ((with_reducible refine gate_callee (f := 24) rfl ?_); refine goesL_ (some 8) rfl rfl Tryd.func24 (by kernel_rfl) rfl #[] rfl (by (try simp only [List.map_toArray, List.map_cons, List.map_nil]); first | done | rfl | (simp only [List.length_drop, List.length_take]; rfl)) ?_; (with_reducible refine (parallaxref4_Usual.calls  t244 t245 t246 t247 t248 t249 t250 t251 t252 t253 _ A1.out).mono ?_); rintro e w6 ⟨rfl, hb⟩; refine ⟨_, rfl, ?_⟩; have n0_ := Aside0.mk (below_step (by repeat (first | (with_reducible first | exact HB.out | apply below_alloc | apply pw_below_drewN | apply below_drew1) | exact HB.out)) hb); clear HB; have HB := n0_; clear n0_; (try clear hb); (try clear hb2); (try clear hk); (try clear hi)) | ((with_reducible refine gate_dst (N := 1) rfl ?_); (try (refine gate_guard (by rfl) ?_; dsimp only)); refine box_event ?hg (N := 1) ?hd (cs := #[.int .i64 0, .int .i64 0, .int .i64 0, .int .i64 0, .int .i64 0, .int .i64 0, .int .i64 0, .int .i64 0, .bool false, .bool false]) (t := 30) ?hr ?_; (case hd => rfl); (case hg => rfl); (case hr => first | (go_simp; done) | (go_simp; rfl)); intro gb254 hg w7 hbox hb; have n0_ := Aside0.mk (below_step (by repeat (first | (with_reducible first | exact HB.out | apply below_alloc | apply pw_below_drewN | apply below_drew1) | exact HB.out)) hb); have n1_ := Aside0.mk (hbox); have n2_ := Aside0.mk ((by rw [hg]; exact (below_size (by repeat (first | (with_reducible first | exact HB.out | apply below_alloc | apply pw_below_drewN | apply below_drew1) | exact HB.out))) : w.heap.size ≤ gb254)); have n3_ := Aside0.mk ((by rw [hg]; exact (below_size (by repeat (first | (with_reducible first | exact HB.out | apply below_alloc | apply pw_below_drewN | apply below_drew1) | exact HB.out))) : w.heap.size ≤ gb254)); clear HB; have HB := n0_; have BK254 := n1_; have GW254 := n2_; have GE254 := n3_; clear n0_ n1_ n2_ n3_; clear hb hbox hg; have hcz8_0 : w7.cell? ⟨gb254, 0, none⟩ = some (.int .i64 0) := (blk_cell BK254.out 0).trans rfl; have hcz8_1 : w7.cell? ⟨gb254, 1, none⟩ = some (.int .i64 0) := (blk_cell BK254.out 1).trans rfl; have hcz8_2 : w7.cell? ⟨gb254, 2, none⟩ = some (.int .i64 0) := (blk_cell BK254.out 2).trans rfl; have hcz8_3 : w7.cell? ⟨gb254, 3, none⟩ = some (.int .i64 0) := (blk_cell BK254.out 3).trans rfl; have hcz8_4 : w7.cell? ⟨gb254, 4, none⟩ = some (.int .i64 0) := (blk_cell BK254.out 4).trans rfl; have hcz8_5 : w7.cell? ⟨gb254, 5, none⟩ = some (.int .i64 0) := (blk_cell BK254.out 5).trans rfl; have hcz8_6 : w7.cell? ⟨gb254, 6, none⟩ = some (.int .i64 0) := (blk_cell BK254.out 6).trans rfl; have hcz8_7 : w7.cell? ⟨gb254, 7, none⟩ = some (.int .i64 0) := (blk_cell BK254.out 7).trans rfl; have hcz8_8 : w7.cell? ⟨gb254, 8, none⟩ = some (.bool false) := (blk_cell BK254.out 8).trans rfl; have hcz8_9 : w7.cell? ⟨gb254, 9, none⟩ = some (.bool false) := (blk_cell BK254.out 9).trans rfl; have hfz8_0 := blk_frozen BK254.out 0; have hfz8_1 := blk_frozen BK254.out 1; have hfz8_2 := blk_frozen BK254.out 2; have hfz8_3 := blk_frozen BK254.out 3; have hfz8_4 := blk_frozen BK254.out 4; have hfz8_5 := blk_frozen BK254.out 5; have hfz8_6 := blk_frozen BK254.out 6; have hfz8_7 := blk_frozen BK254.out 7; have hfz8_8 := blk_frozen BK254.out 8; have hfz8_9 := blk_frozen BK254.out 9) | ((with_reducible refine gate_dst (N := 13) rfl ?_); (try (refine gate_guard (by rfl) ?_; dsimp only)); refine Kd.R_lit k34 _ 34 ?hg (N := 13) ?hd (xs := ([(⟨(⟨#[104, 111, 115, 116]⟩ : ByteArray), (⟨#[97]⟩ : ByteArray)⟩ : S34), (⟨(⟨#[99, 111, 110, 116, 101, 110, 116, 45, 108, 101, 110, 103, 116, 104]⟩ : ByteArray), (⟨#[53]⟩ : ByteArray)⟩ : S34)] : List (S34))) (inner := [.string (⟨#[104, 111, 115, 116]⟩ : ByteArray), .string (⟨#[97]⟩ : ByteArray), .string (⟨#[99, 111, 110, 116, 101, 110, 116, 45, 108, 101, 110, 103, 116, 104]⟩ : ByteArray), .string (⟨#[53]⟩ : ByteArray)]) (ok := fun _ => True) (okp := fun _ => True) ?hr ?hp (fun _ hk => hk) trivial (Below.refl _ _) (Nat.le_refl _) (by simp) ?_; (case hd => rfl); (case hg => rfl); (case hr => first | (go_simp; done) | (go_simp; rfl)); (case hp => exact (Reps.c2 (show Kd.M k34 _ _ _ (⟨(⟨#[104, 111, 115, 116]⟩ : ByteArray), (⟨#[97]⟩ : ByteArray)⟩ : S34) [.string (⟨#[104, 111, 115, 116]⟩ : ByteArray), .string (⟨#[97]⟩ : ByteArray)] from (k34_mkM _ _ _ (⟨(⟨#[104, 111, 115, 116]⟩ : ByteArray), (⟨#[97]⟩ : ByteArray)⟩ : S34) )) (Reps.c2 (show Kd.M k34 _ _ _ (⟨(⟨#[99, 111, 110, 116, 101, 110, 116, 45, 108, 101, 110, 103, 116, 104]⟩ : ByteArray), (⟨#[53]⟩ : ByteArray)⟩ : S34) [.string (⟨#[99, 111, 110, 116, 101, 110, 116, 45, 108, 101, 110, 103, 116, 104]⟩ : ByteArray), .string (⟨#[53]⟩ : ByteArray)] from (k34_mkM _ _ _ (⟨(⟨#[99, 111, 110, 116, 101, 110, 116, 45, 108, 101, 110, 103, 116, 104]⟩ : ByteArray), (⟨#[53]⟩ : ByteArray)⟩ : S34) )) (Reps.none _ _)))); intro v256 w9 ho10 hb hg_ hnew_; clear hg_ hnew_; (first | rw [← Ny255.out] at ho10 | (simp only [Int.reduceToNat] at ho10; rw [← Ny255.out] at ho10)); have n0_ := Aside0.mk (Kd.R_lower ho10 (below_size (by repeat (first | (with_reducible first | exact HB.out | apply below_alloc | apply pw_below_drewN | apply below_drew1 | refine below_set ?_ GE254.out) | exact HB.out)))); have n1_ := Aside0.mk (blk_below (g := gb254) (o := .cells #[.int .i64 t244, .int .i64 t245, .int .i64 t246, .int .i64 t247, .int .i64 t248, .int .i64 t249, .int .i64 t250, .int .i64 t251, .bool t252, .bool t253] 30 (0, 0)) (by (with_reducible repeat (first | refine blk_drewN ?_ _ | refine blk_drew ?_ | refine blk_alloc ?_ _)); refine blk_put (cs := #[.int .i64 t244, .int .i64 t245, .int .i64 t246, .int .i64 t247, .int .i64 t248, .int .i64 t249, .int .i64 t250, .int .i64 t251, .bool t252, .bool false]) ?_ 9 _ rfl; (with_reducible repeat (first | refine blk_drewN ?_ _ | refine blk_drew ?_ | refine blk_alloc ?_ _)); refine blk_put (cs := #[.int .i64 t244, .int .i64 t245, .int .i64 t246, .int .i64 t247, .int .i64 t248, .int .i64 t249, .int .i64 t250, .int .i64 t251, .bool false, .bool false]) ?_ 8 _ rfl; (with_reducible repeat (first | refine blk_drewN ?_ _ | refine blk_drew ?_ | refine blk_alloc ?_ _)); refine blk_put (cs := #[.int .i64 t244, .int .i64 t245, .int .i64 t246, .int .i64 t247, .int .i64 t248, .int .i64 t249, .int .i64 t250, .int .i64 0, .bool false, .bool false]) ?_ 7 _ rfl; (with_reducible repeat (first | refine blk_drewN ?_ _ | refine blk_drew ?_ | refine blk_alloc ?_ _)); refine blk_put (cs := #[.int .i64 t244, .int .i64 t245, .int .i64 t246, .int .i64 t247, .int .i64 t248, .int .i64 t249, .int .i64 0, .int .i64 0, .bool false, .bool false]) ?_ 6 _ rfl; (with_reducible repeat (first | refine blk_drewN ?_ _ | refine blk_drew ?_ | refine blk_alloc ?_ _)); refine blk_put (cs := #[.int .i64 t244, .int .i64 t245, .int .i64 t246, .int .i64 t247, .int .i64 t248, .int .i64 0, .int .i64 0, .int .i64 0, .bool false, .bool false]) ?_ 5 _ rfl; (with_reducible repeat (first | refine blk_drewN ?_ _ | refine blk_drew ?_ | refine blk_alloc ?_ _)); refine blk_put (cs := #[.int .i64 t244, .int .i64 t245, .int .i64 t246, .int .i64 t247, .int .i64 0, .int .i64 0, .int .i64 0, .int .i64 0, .bool false, .bool false]) ?_ 4 _ rfl; (with_reducible repeat (first | refine blk_drewN ?_ _ | refine blk_drew ?_ | refine blk_alloc ?_ _)); refine blk_put (cs := #[.int .i64 t244, .int .i64 t245, .int .i64 t246, .int .i64 0, .int .i64 0, .int .i64 0, .int .i64 0, .int .i64 0, .bool false, .bool false]) ?_ 3 _ rfl; (with_reducible repeat (first | refine blk_drewN ?_ _ | refine blk_drew ?_ | refine blk_alloc ?_ _)); refine blk_put (cs := #[.int .i64 t244, .int .i64 t245, .int .i64 0, .int .i64 0, .int .i64 0, .int .i64 0, .int .i64 0, .int .i64 0, .bool false, .bool false]) ?_ 2 _ rfl; (with_reducible repeat (first | refine blk_drewN ?_ _ | refine blk_drew ?_ | refine blk_alloc ?_ _)); refine blk_put (cs := #[.int .i64 t244, .int .i64 0, .int .i64 0, .int .i64 0, .int .i64 0, .int .i64 0, .int .i64 0, .int .i64 0, .bool false, .bool false]) ?_ 1 _ rfl; (with_reducible repeat (first | refine blk_drewN ?_ _ | refine blk_drew ?_ | refine blk_alloc ?_ _)); refine blk_put (cs := #[.int .i64 0, .int .i64 0, .int .i64 0, .int .i64 0, .int .i64 0, .int .i64 0, .int .i64 0, .int .i64 0, .bool false, .bool false]) ?_ 0 _ rfl; (with_reducible repeat (first | refine blk_drewN ?_ _ | refine blk_drew ?_ | refine blk_alloc ?_ _)); exact BK254.out) hb); have n2_ := Aside0.mk (below_step (by repeat (first | (with_reducible first | exact HB.out | apply below_alloc | apply pw_below_drewN | apply below_drew1 | refine below_set ?_ GE254.out) | exact HB.out)) hb); clear BK254; clear HB; have HO257 := n0_; have BK254 := n1_; have HB := n2_; clear n0_ n1_ n2_; clear hb ho10; obtain ⟨Ao11, co11, eo11⟩ := Kd.R_slice HO257.out; subst eo11) | ((with_reducible refine gate_callee (f := 14) rfl ?_); refine goesL_ (some 14) rfl rfl Tryd.func14 (by kernel_rfl) rfl #[.int .u32 0, .agg #[.int .i64 t244, .int .i64 t245, .int .i64 t246, .int .i64 t247, .int .i64 t248, .int .i64 t249, .int .i64 t250, .int .i64 t251, .bool t252, .bool t253], .int .i64 1, .slice Ao11 y255.length co11] rfl (by (try simp only [List.map_toArray, List.map_cons, List.map_nil]); first | done | rfl | (simp only [List.length_drop, List.length_take]; rfl)) ?_; (with_reducible refine (framing_Decide.calls k 0 t244 t245 t246 t247 t248 t249 t250 t251 t252 t253 1 _ _ y255 t258 t259 t260 _ ?side1 ?side2 A2.out).mono ?_); (case side1 => repeat (first | exact (Kd.R_reads' HO257.out).2.2 | (with_reducible refine Kd.C_alloc ?_ _) | (with_reducible refine Kd.C_drewN ?_ _) | (with_reducible refine Kd.C_drew ?_))); (case side2 => exact (Kd.R_reads' HO257.out).2.1); rintro e w12 ⟨rfl, hb⟩; refine ⟨_, rfl, ?_⟩; have n0_ := Aside0.mk (Kd.R_below (by (with_reducible repeat (first | apply Kd.R_alloc | apply Kd.R_drewN | apply Kd.R_drew)); exact HO257.out) hb); have n1_ := Aside0.mk (blk_below (g := gb254) (o := .cells #[.int .i64 t244, .int .i64 t245, .int .i64 t246, .int .i64 t247, .int .i64 t248, .int .i64 t249, .int .i64 t250, .int .i64 t251, .bool t252, .bool t253] 30 (0, 0)) (by (with_reducible repeat (first | refine blk_drewN ?_ _ | refine blk_drew ?_ | refine blk_alloc ?_ _)); exact BK254.out) hb); have n2_ := Aside0.mk (below_step (by repeat (first | (with_reducible first | exact HB.out | apply below_alloc | apply pw_below_drewN | apply below_drew1 | refine below_set ?_ GE254.out) | exact HB.out)) hb); clear HO257; clear BK254; clear HB; have HO257 := n0_; have BK254 := n1_; have HB := n2_; clear n0_ n1_ n2_; (try clear hb); (try clear hb2); (try clear hk); (try clear hi)) | ((with_reducible refine gate_dst (N := 2) rfl ?_); (try (refine gate_guard (by rfl) ?_; dsimp only)); refine box_event ?hg (N := 2) ?hd (cs := #[.int .i64 0, .int .i64 0]) (t := 40) ?hr ?_; (case hd => rfl); (case hg => rfl); (case hr => first | (go_simp; done) | (go_simp; rfl)); intro gb261 hg w13 hbox hb; have n0_ := Aside0.mk (Kd.R_below (by (with_reducible repeat (first | apply Kd.R_alloc | apply Kd.R_drewN | apply Kd.R_drew)); exact HO257.out) hb); have n1_ := Aside0.mk (blk_below (g := gb254) (o := .cells #[.int .i64 t244, .int .i64 t245, .int .i64 t246, .int .i64 t247, .int .i64 t248, .int .i64 t249, .int .i64 t250, .int .i64 t251, .bool t252, .bool t253] 30 (0, 0)) (by (with_reducible repeat (first | refine blk_drewN ?_ _ | refine blk_drew ?_ | refine blk_alloc ?_ _)); exact BK254.out) hb); have n2_ := Aside0.mk (below_step (by repeat (first | (with_reducible first | exact HB.out | apply below_alloc | apply pw_below_drewN | apply below_drew1 | refine below_set ?_ GE254.out) | exact HB.out)) hb); have n3_ := Aside0.mk (hbox); have n4_ := Aside0.mk ((by rw [hg]; exact (below_size (by repeat (first | (with_reducible first | exact HB.out | apply below_alloc | apply pw_below_drewN | apply below_drew1 | refine below_set ?_ GE254.out) | exact HB.out))) : w.heap.size ≤ gb261)); have n5_ := Aside0.mk ((by rw [hg]; exact (below_size (by repeat (first | (with_reducible first | exact HB.out | apply below_alloc | apply pw_below_drewN | apply below_drew1 | refine below_set ?_ GE254.out) | exact HB.out))) : w.heap.size ≤ gb261)); have n6_ := Aside0.mk ((by rw [hg]; exact Nat.ne_of_lt (blk_lt (g := gb254) (o := .cells #[.int .i64 t244, .int .i64 t245, .int .i64 t246, .int .i64 t247, .int .i64 t248, .int .i64 t249, .int .i64 t250, .int .i64 t251, .bool t252, .bool t253] 30 (0, 0)) (by (with_reducible repeat (first | refine blk_drewN ?_ _ | refine blk_drew ?_ | refine blk_alloc ?_ _)); exact BK254.out)) : gb254 ≠ gb261)); have n7_ := Aside0.mk ((by rw [hg]; exact Nat.ne_of_gt (blk_lt (g := gb254) (o := .cells #[.int .i64 t244, .int .i64 t245, .int .i64 t246, .int .i64 t247, .int .i64 t248, .int .i64 t249, .int .i64 t250, .int .i64 t251, .bool t252, .bool t253] 30 (0, 0)) (by (with_reducible repeat (first | refine blk_drewN ?_ _ | refine blk_drew ?_ | refine blk_alloc ?_ _)); exact BK254.out)) : gb261 ≠ gb254)); clear HO257; clear BK254; clear HB; have HO257 := n0_; have BK254 := n1_; have HB := n2_; have BK261 := n3_; have GW261 := n4_; have GE261 := n5_; have NB254_261 := n6_; have NB261_254 := n7_; clear n0_ n1_ n2_ n3_ n4_ n5_ n6_ n7_; clear hb hbox hg; have hnb14 := NB261_254.out; have hnc14 := NB254_261.out; have hcz15_0 : w13.cell? ⟨gb261, 0, none⟩ = some (.int .i64 0) := (blk_cell BK261.out 0).trans rfl; have hcz15_1 : w13.cell? ⟨gb261, 1, none⟩ = some (.int .i64 0) := (blk_cell BK261.out 1).trans rfl; have hfz15_0 := blk_frozen BK261.out 0; have hfz15_1 := blk_frozen BK261.out 1; have hcz16_0 : w13.cell? ⟨gb254, 0, none⟩ = some (.int .i64 t244) := (blk_cell BK254.out 0).trans rfl; have hcz16_1 : w13.cell? ⟨gb254, 1, none⟩ = some (.int .i64 t245) := (blk_cell BK254.out 1).trans rfl; have hcz16_2 : w13.cell? ⟨gb254, 2, none⟩ = some (.int .i64 t246) := (blk_cell BK254.out 2).trans rfl; have hcz16_3 : w13.cell? ⟨gb254, 3, none⟩ = some (.int .i64 t247) := (blk_cell BK254.out 3).trans rfl; have hcz16_4 : w13.cell? ⟨gb254, 4, none⟩ = some (.int .i64 t248) := (blk_cell BK254.out 4).trans rfl; have hcz16_5 : w13.cell? ⟨gb254, 5, none⟩ = some (.int .i64 t249) := (blk_cell BK254.out 5).trans rfl; have hcz16_6 : w13.cell? ⟨gb254, 6, none⟩ = some (.int .i64 t250) := (blk_cell BK254.out 6).trans rfl; have hcz16_7 : w13.cell? ⟨gb254, 7, none⟩ = some (.int .i64 t251) := (blk_cell BK254.out 7).trans rfl; have hcz16_8 : w13.cell? ⟨gb254, 8, none⟩ = some (.bool t252) := (blk_cell BK254.out 8).trans rfl; have hcz16_9 : w13.cell? ⟨gb254, 9, none⟩ = some (.bool t253) := (blk_cell BK254.out 9).trans rfl; have hfz16_0 := blk_frozen BK254.out 0; have hfz16_1 := blk_frozen BK254.out 1; have hfz16_2 := blk_frozen BK254.out 2; have hfz16_3 := blk_frozen BK254.out 3; have hfz16_4 := blk_frozen BK254.out 4; have hfz16_5 := blk_frozen BK254.out 5; have hfz16_6 := blk_frozen BK254.out 6; have hfz16_7 := blk_frozen BK254.out 7; have hfz16_8 := blk_frozen BK254.out 8; have hfz16_9 := blk_frozen BK254.out 9) | ((with_reducible refine gate_dst (N := 21) rfl ?_); (try (refine gate_guard (by rfl) ?_; dsimp only)); refine Kd.R_lit k34 _ 34 ?hg (N := 21) ?hd (xs := ([(⟨(⟨#[72, 111, 115, 116]⟩ : ByteArray), (⟨#[97]⟩ : ByteArray)⟩ : S34), (⟨(⟨#[84, 114, 97, 110, 115, 102, 101, 114, 45, 69, 110, 99, 111, 100, 105, 110, 103]⟩ : ByteArray), (⟨#[67, 104, 117, 110, 107, 101, 100]⟩ : ByteArray)⟩ : S34)] : List (S34))) (inner := [.string (⟨#[72, 111, 115, 116]⟩ : ByteArray), .string (⟨#[97]⟩ : ByteArray), .string (⟨#[84, 114, 97, 110, 115, 102, 101, 114, 45, 69, 110, 99, 111, 100, 105, 110, 103]⟩ : ByteArray), .string (⟨#[67, 104, 117, 110, 107, 101, 100]⟩ : ByteArray)]) (ok := fun _ => True) (okp := fun _ => True) ?hr ?hp (fun _ hk => hk) trivial (Below.refl _ _) (Nat.le_refl _) (by simp) ?_; (case hd => rfl); (case hg => rfl); (case hr => first | (go_simp; done) | (go_simp; rfl)); (case hp => exact (Reps.c2 (show Kd.M k34 _ _ _ (⟨(⟨#[72, 111, 115, 116]⟩ : ByteArray), (⟨#[97]⟩ : ByteArray)⟩ : S34) [.string (⟨#[72, 111, 115, 116]⟩ : ByteArray), .string (⟨#[97]⟩ : ByteArray)] from (k34_mkM _ _ _ (⟨(⟨#[72, 111, 115, 116]⟩ : ByteArray), (⟨#[97]⟩ : ByteArray)⟩ : S34) )) (Reps.c2 (show Kd.M k34 _ _ _ (⟨(⟨#[84, 114, 97, 110, 115, 102, 101, 114, 45, 69, 110, 99, 111, 100, 105, 110, 103]⟩ : ByteArray), (⟨#[67, 104, 117, 110, 107, 101, 100]⟩ : ByteArray)⟩ : S34) [.string (⟨#[84, 114, 97, 110, 115, 102, 101, 114, 45, 69, 110, 99, 111, 100, 105, 110, 103]⟩ : ByteArray), .string (⟨#[67, 104, 117, 110, 107, 101, 100]⟩ : ByteArray)] from (k34_mkM _ _ _ (⟨(⟨#[84, 114, 97, 110, 115, 102, 101, 114, 45, 69, 110, 99, 111, 100, 105, 110, 103]⟩ : ByteArray), (⟨#[67, 104, 117, 110, 107, 101, 100]⟩ : ByteArray)⟩ : S34) )) (Reps.none _ _)))); intro v263 w17 ho18 hb hg_ hnew_; clear hg_ hnew_; (first | rw [← Ny262.out] at ho18 | (simp only [Int.reduceToNat] at ho18; rw [← Ny262.out] at ho18)); have n0_ := Aside0.mk (Kd.R_elder' (by (with_reducible repeat (first | apply Kd.R_alloc | apply Kd.R_drewN | apply Kd.R_drew)); exact (Kd.R_mono (Kd.R_far (p := ⟨gb261, 1, none⟩) (Kd.R_far (p := ⟨gb261, 0, none⟩) (Kd.R_types HO257.out BK261.out (by decide)) (fun _ hk => (by first | exact hk.2 | exact True.intro)) (.int .i64 t258)) (fun _ hk => (by first | exact hk.2 | exact True.intro)) (.int .i64 t259)) (fun _ h_ => h_.1))) (Kd.R_base ho18) hb); have n1_ := Aside0.mk (Kd.R_lower (Kd.R_new' ho18 (Kd.R_lt (by (with_reducible repeat (first | apply Kd.R_alloc | apply Kd.R_drewN | apply Kd.R_drew)); exact (Kd.R_mono (Kd.R_far (p := ⟨gb261, 1, none⟩) (Kd.R_far (p := ⟨gb261, 0, none⟩) (Kd.R_types HO257.out BK261.out (by decide)) (fun _ hk => (by first | exact hk.2 | exact True.intro)) (.int .i64 t258)) (fun _ hk => (by first | exact hk.2 | exact True.intro)) (.int .i64 t259)) (fun _ h_ => h_.1))))) (below_size (by repeat (first | (with_reducible first | exact HB.out | apply below_alloc | apply pw_below_drewN | apply below_drew1 | refine below_set ?_ GE254.out | refine below_set ?_ GE261.out) | exact HB.out)))); have n2_ := Aside0.mk (blk_below (g := gb254) (o := .cells #[.int .i64 t244, .int .i64 t245, .int .i64 t246, .int .i64 t247, .int .i64 t248, .int .i64 t249, .int .i64 t250, .int .i64 t251, .bool t252, .bool t253] 30 (0, 0)) (by (with_reducible repeat (first | refine blk_drewN ?_ _ | refine blk_drew ?_ | refine blk_alloc ?_ _)); refine blk_far ?_ NB254_261.out _; (with_reducible repeat (first | refine blk_drewN ?_ _ | refine blk_drew ?_ | refine blk_alloc ?_ _)); refine blk_far ?_ NB254_261.out _; (with_reducible repeat (first | refine blk_drewN ?_ _ | refine blk_drew ?_ | refine blk_alloc ?_ _)); exact BK254.out) hb); have n3_ := Aside0.mk (blk_below (g := gb261) (o := .cells #[.int .i64 t258, .int .i64 t259] 40 (0, 0)) (by (with_reducible repeat (first | refine blk_drewN ?_ _ | refine blk_drew ?_ | refine blk_alloc ?_ _)); refine blk_put (cs := #[.int .i64 t258, .int .i64 0]) ?_ 1 _ rfl; (with_reducible repeat (first | refine blk_drewN ?_ _ | refine blk_drew ?_ | refine blk_alloc ?_ _)); refine blk_put (cs := #[.int .i64 0, .int .i64 0]) ?_ 0 _ rfl; (with_reducible repeat (first | refine blk_drewN ?_ _ | refine blk_drew ?_ | refine blk_alloc ?_ _)); exact BK261.out) hb); have n4_ := Aside0.mk (below_step (by repeat (first | (with_reducible first | exact HB.out | apply below_alloc | apply pw_below_drewN | apply below_drew1 | refine below_set ?_ GE254.out | refine below_set ?_ GE261.out) | exact HB.out)) hb); clear HO257; clear BK254; clear BK261; clear HB; have HO257 := n0_; have HO264 := n1_; have BK254 := n2_; have BK261 := n3_; have HB := n4_; clear n0_ n1_ n2_ n3_ n4_; clear hb ho18; obtain ⟨Ao19, co19, eo19⟩ := Kd.R_slice HO264.out; subst eo19) | ((with_reducible refine gate_callee (f := 14) rfl ?_); refine goesL_ (some 22) rfl rfl Tryd.func14 (by kernel_rfl) rfl #[.int .u32 0, .agg #[.int .i64 t244, .int .i64 t245, .int .i64 t246, .int .i64 t247, .int .i64 t248, .int .i64 t249, .int .i64 t250, .int .i64 t251, .bool t252, .bool t253], .int .i64 1, .slice Ao19 y262.length co19] rfl (by (try simp only [List.map_toArray, List.map_cons, List.map_nil]); first | done | rfl | (simp only [List.length_drop, List.length_take]; rfl)) ?_; (with_reducible refine (framing_Decide.calls k 0 t244 t245 t246 t247 t248 t249 t250 t251 t252 t253 1 _ _ y262 t265 t266 t267 _ ?side1 ?side2 A3.out).mono ?_); (case side1 => repeat (first | exact (Kd.R_reads' HO264.out).2.2 | (with_reducible refine Kd.C_alloc ?_ _) | (with_reducible refine Kd.C_drewN ?_ _) | (with_reducible refine Kd.C_drew ?_))); (case side2 => exact (Kd.R_reads' HO264.out).2.1); rintro e w20 ⟨rfl, hb⟩; refine ⟨_, rfl, ?_⟩; have n0_ := Aside0.mk (Kd.R_below (by (with_reducible repeat (first | apply Kd.R_alloc | apply Kd.R_drewN | apply Kd.R_drew)); exact HO257.out) hb); have n1_ := Aside0.mk (Kd.R_below (by (with_reducible repeat (first | apply Kd.R_alloc | apply Kd.R_drewN | apply Kd.R_drew)); exact HO264.out) hb); have n2_ := Aside0.mk (blk_below (g := gb254) (o := .cells #[.int .i64 t244, .int .i64 t245, .int .i64 t246, .int .i64 t247, .int .i64 t248, .int .i64 t249, .int .i64 t250, .int .i64 t251, .bool t252, .bool t253] 30 (0, 0)) (by (with_reducible repeat (first | refine blk_drewN ?_ _ | refine blk_drew ?_ | refine blk_alloc ?_ _)); exact BK254.out) hb); have n3_ := Aside0.mk (blk_below (g := gb261) (o := .cells #[.int .i64 t258, .int .i64 t259] 40 (0, 0)) (by (with_reducible repeat (first | refine blk_drewN ?_ _ | refine blk_drew ?_ | refine blk_alloc ?_ _)); exact BK261.out) hb); have n4_ := Aside0.mk (below_step (by repeat (first | (with_reducible first | exact HB.out | apply below_alloc | apply pw_below_drewN | apply below_drew1 | refine below_set ?_ GE254.out | refine below_set ?_ GE261.out) | exact HB.out)) hb); clear HO257; clear HO264; clear BK254; clear BK261; clear HB; have HO257 := n0_; have HO264 := n1_; have BK254 := n2_; have BK261 := n3_; have HB := n4_; clear n0_ n1_ n2_ n3_ n4_; (try clear hb); (try clear hb2); (try clear hk); (try clear hi)) | ((with_reducible refine gate_dst (N := 4) rfl ?_); (try (refine gate_guard (by rfl) ?_; dsimp only)); refine box_event ?hg (N := 4) ?hd (cs := #[.int .i64 0, .int .i64 0]) (t := 40) ?hr ?_; (case hd => rfl); (case hg => rfl); (case hr => first | (go_simp; done) | (go_simp; rfl)); intro gb268 hg w21 hbox hb; have n0_ := Aside0.mk (Kd.R_below (by (with_reducible repeat (first | apply Kd.R_alloc | apply Kd.R_drewN | apply Kd.R_drew)); exact HO257.out) hb); have n1_ := Aside0.mk (Kd.R_below (by (with_reducible repeat (first | apply Kd.R_alloc | apply Kd.R_drewN | apply Kd.R_drew)); exact HO264.out) hb); have n2_ := Aside0.mk (blk_below (g := gb254) (o := .cells #[.int .i64 t244, .int .i64 t245, .int .i64 t246, .int .i64 t247, .int .i64 t248, .int .i64 t249, .int .i64 t250, .int .i64 t251, .bool t252, .bool t253] 30 (0, 0)) (by (with_reducible repeat (first | refine blk_drewN ?_ _ | refine blk_drew ?_ | refine blk_alloc ?_ _)); exact BK254.out) hb); have n3_ := Aside0.mk (blk_below (g := gb261) (o := .cells #[.int .i64 t258, .int .i64 t259] 40 (0, 0)) (by (with_reducible repeat (first | refine blk_drewN ?_ _ | refine blk_drew ?_ | refine blk_alloc ?_ _)); exact BK261.out) hb); have n4_ := Aside0.mk (below_step (by repeat (first | (with_reducible first | exact HB.out | apply below_alloc | apply pw_below_drewN | apply below_drew1 | refine below_set ?_ GE254.out | refine below_set ?_ GE261.out) | exact HB.out)) hb); have n5_ := Aside0.mk (hbox); have n6_ := Aside0.mk ((by rw [hg]; exact (below_size (by repeat (first | (with_reducible first | exact HB.out | apply below_alloc | apply pw_below_drewN | apply below_drew1 | refine below_set ?_ GE254.out | refine below_set ?_ GE261.out) | exact HB.out))) : w.heap.size ≤ gb268)); have n7_ := Aside0.mk ((by rw [hg]; exact (below_size (by repeat (first | (with_reducible first | exact HB.out | apply below_alloc | apply pw_below_drewN | apply below_drew1 | refine below_set ?_ GE254.out | refine below_set ?_ GE261.out) | exact HB.out))) : w.heap.size ≤ gb268)); have n8_ := Aside0.mk ((by rw [hg]; exact Nat.ne_of_lt (blk_lt (g := gb254) (o := .cells #[.int .i64 t244, .int .i64 t245, .int .i64 t246, .int .i64 t247, .int .i64 t248, .int .i64 t249, .int .i64 t250, .int .i64 t251, .bool t252, .bool t253] 30 (0, 0)) (by (with_reducible repeat (first | refine blk_drewN ?_ _ | refine blk_drew ?_ | refine blk_alloc ?_ _)); exact BK254.out)) : gb254 ≠ gb268)); have n9_ := Aside0.mk ((by rw [hg]; exact Nat.ne_of_gt (blk_lt (g := gb254) (o := .cells #[.int .i64 t244, .int .i64 t245, .int .i64 t246, .int .i64 t247, .int .i64 t248, .int .i64 t249, .int .i64 t250, .int .i64 t251, .bool t252, .bool t253] 30 (0, 0)) (by (with_reducible repeat (first | refine blk_drewN ?_ _ | refine blk_drew ?_ | refine blk_alloc ?_ _)); exact BK254.out)) : gb268 ≠ gb254)); have n10_ := Aside0.mk ((by rw [hg]; exact Nat.ne_of_lt (blk_lt (g := gb261) (o := .cells #[.int .i64 t258, .int .i64 t259] 40 (0, 0)) (by (with_reducible repeat (first | refine blk_drewN ?_ _ | refine blk_drew ?_ | refine blk_alloc ?_ _)); exact BK261.out)) : gb261 ≠ gb268)); have n11_ := Aside0.mk ((by rw [hg]; exact Nat.ne_of_gt (blk_lt (g := gb261) (o := .cells #[.int .i64 t258, .int .i64 t259] 40 (0, 0)) (by (with_reducible repeat (first | refine blk_drewN ?_ _ | refine blk_drew ?_ | refine blk_alloc ?_ _)); exact BK261.out)) : gb268 ≠ gb261)); clear HO257; clear HO264; clear BK254; clear BK261; clear HB; have HO257 := n0_; have HO264 := n1_; have BK254 := n2_; have BK261 := n3_; have HB := n4_; have BK268 := n5_; have GW268 := n6_; have GE268 := n7_; have NB254_268 := n8_; have NB268_254 := n9_; have NB261_268 := n10_; have NB268_261 := n11_; clear n0_ n1_ n2_ n3_ n4_ n5_ n6_ n7_ n8_ n9_ n10_ n11_; clear hb hbox hg; have hnb22 := NB268_254.out; have hnc22 := NB254_268.out; have hnb23 := NB268_261.out; have hnc23 := NB261_268.out; have hcz24_0 : w21.cell? ⟨gb268, 0, none⟩ = some (.int .i64 0) := (blk_cell BK268.out 0).trans rfl; have hcz24_1 : w21.cell? ⟨gb268, 1, none⟩ = some (.int .i64 0) := (blk_cell BK268.out 1).trans rfl; have hfz24_0 := blk_frozen BK268.out 0; have hfz24_1 := blk_frozen BK268.out 1) | ((with_reducible refine gate_dst (N := 26) rfl ?_); (try (refine gate_guard (by rfl) ?_; dsimp only)); refine Kd.R_lit Kd.string _ 9 ?hg (N := 26) ?hd (xs := ([(⟨#[49, 48]⟩ : ByteArray)] : List ByteArray)) (inner := [.string (⟨#[49, 48]⟩ : ByteArray)]) (ok := fun _ => True) (okp := fun _ => True) ?hr ?hp (fun _ hk => hk) trivial (Below.refl _ _) (Nat.le_refl _) (by simp) ?_; (case hd => rfl); (case hg => rfl); (case hr => first | (go_simp; done) | (go_simp; rfl)); (case hp => exact (Reps.one (show Kd.M Kd.string _ _ _ (⟨#[49, 48]⟩ : ByteArray) [.string (⟨#[49, 48]⟩ : ByteArray)] from rfl) (Reps.none _ _))); intro v270 w25 ho26 hb hg_ hnew_; clear hg_ hnew_; (first | rw [← Ny269.out] at ho26 | (simp only [Int.reduceToNat] at ho26; rw [← Ny269.out] at ho26)); have n0_ := Aside0.mk (Kd.R_below (by (with_reducible repeat (first | apply Kd.R_alloc | apply Kd.R_drewN | apply Kd.R_drew)); exact (Kd.R_mono (Kd.R_far (p := ⟨gb268, 1, none⟩) (Kd.R_far (p := ⟨gb268, 0, none⟩) (Kd.R_types HO257.out BK268.out (by decide)) (fun _ hk => (by first | exact hk.2 | exact True.intro)) (.int .i64 t265)) (fun _ hk => (by first | exact hk.2 | exact True.intro)) (.int .i64 t266)) (fun _ h_ => h_.1))) hb); have n1_ := Aside0.mk (Kd.R_below (by (with_reducible repeat (first | apply Kd.R_alloc | apply Kd.R_drewN | apply Kd.R_drew)); exact (Kd.R_mono (Kd.R_far (p := ⟨gb268, 1, none⟩) (Kd.R_far (p := ⟨gb268, 0, none⟩) (Kd.R_types HO264.out BK268.out (by decide)) (fun _ hk => (by first | exact hk.2 | exact True.intro)) (.int .i64 t265)) (fun _ hk => (by first | exact hk.2 | exact True.intro)) (.int .i64 t266)) (fun _ h_ => h_.1))) hb); have n2_ := Aside0.mk (Kd.R_lower ho26 (below_size (by repeat (first | (with_reducible first | exact HB.out | apply below_alloc | apply pw_below_drewN | apply below_drew1 | refine below_set ?_ GE254.out | refine below_set ?_ GE261.out | refine below_set ?_ GE268.out) | exact HB.out)))); have n3_ := Aside0.mk (blk_below (g := gb254) (o := .cells #[.int .i64 t244, .int .i64 t245, .int .i64 t246, .int .i64 t247, .int .i64 t248, .int .i64 t249, .int .i64 t250, .int .i64 t251, .bool t252, .bool t253] 30 (0, 0)) (by (with_reducible repeat (first | refine blk_drewN ?_ _ | refine blk_drew ?_ | refine blk_alloc ?_ _)); refine blk_far ?_ NB254_268.out _; (with_reducible repeat (first | refine blk_drewN ?_ _ | refine blk_drew ?_ | refine blk_alloc ?_ _)); refine blk_far ?_ NB254_268.out _; (with_reducible repeat (first | refine blk_drewN ?_ _ | refine blk_drew ?_ | refine blk_alloc ?_ _)); exact BK254.out) hb); have n4_ := Aside0.mk (blk_below (g := gb261) (o := .cells #[.int .i64 t258, .int .i64 t259] 40 (0, 0)) (by (with_reducible repeat (first | refine blk_drewN ?_ _ | refine blk_drew ?_ | refine blk_alloc ?_ _)); refine blk_far ?_ NB261_268.out _; (with_reducible repeat (first | refine blk_drewN ?_ _ | refine blk_drew ?_ | refine blk_alloc ?_ _)); refine blk_far ?_ NB261_268.out _; (with_reducible repeat (first | refine blk_drewN ?_ _ | refine blk_drew ?_ | refine blk_alloc ?_ _)); exact BK261.out) hb); have n5_ := Aside0.mk (blk_below (g := gb268) (o := .cells #[.int .i64 t265, .int .i64 t266] 40 (0, 0)) (by (with_reducible repeat (first | refine blk_drewN ?_ _ | refine blk_drew ?_ | refine blk_alloc ?_ _)); refine blk_put (cs := #[.int .i64 t265, .int .i64 0]) ?_ 1 _ rfl; (with_reducible repeat (first | refine blk_drewN ?_ _ | refine blk_drew ?_ | refine blk_alloc ?_ _)); refine blk_put (cs := #[.int .i64 0, .int .i64 0]) ?_ 0 _ rfl; (with_reducible repeat (first | refine blk_drewN ?_ _ | refine blk_drew ?_ | refine blk_alloc ?_ _)); exact BK268.out) hb); have n6_ := Aside0.mk (below_step (by repeat (first | (with_reducible first | exact HB.out | apply below_alloc | apply pw_below_drewN | apply below_drew1 | refine below_set ?_ GE254.out | refine below_set ?_ GE261.out | refine below_set ?_ GE268.out) | exact HB.out)) hb); clear HO257; clear HO264; clear BK254; clear BK261; clear BK268; clear HB; have HO257 := n0_; have HO264 := n1_; have HO271 := n2_; have BK254 := n3_; have BK261 := n4_; have BK268 := n5_; have HB := n6_; clear n0_ n1_ n2_ n3_ n4_ n5_ n6_; clear hb ho26; obtain ⟨Ao27, co27, eo27⟩ := Kd.R_slice HO271.out; subst eo27) | ((with_reducible refine gate_callee (f := 22) rfl ?_); refine goesL_ (some 27) rfl rfl Tryd.func22 (by kernel_rfl) rfl #[.int .u32 0, .int .i64 9, .slice Ao27 y269.length co27] rfl (by (try simp only [List.map_toArray, List.map_cons, List.map_nil]); first | done | rfl | (simp only [List.length_drop, List.length_take]; rfl)) ?_; (with_reducible refine (framing_Length.calls k 0 9 (fun k_ => some k_ = (.slice Ao27 y269.length co27 : Value).ownBlock) (.slice Ao27 y269.length co27) y269 t272 t273 w _ ?side1 ?side2 A4.out).mono ?_); (case side1 => repeat (first | (with_reducible first | exact HB.out | apply below_alloc | apply pw_below_drewN | apply below_drew1 | refine below_set ?_ GE254.out | refine below_set ?_ GE261.out | refine below_set ?_ GE268.out) | exact HB.out)); (case side2 => exact Kd.R_tight rfl HO271.out); rintro e w28 ⟨rfl, hb, hkp⟩; refine ⟨_, rfl, ?_⟩; have n0_ := Aside0.mk (blk_kept (by (with_reducible repeat (first | refine blk_drewN ?_ _ | refine blk_drew ?_ | refine blk_alloc ?_ _)); exact BK254.out) hkp (fun hs_ => (fun e_ => (Kd.R_ne HO271.out BK254.out (by decide)) e_) hs_)); have n1_ := Aside0.mk (Kd.R_mono (ok' := fun k_ => some k_ ≠ (.slice Ao19 y262.length co19 : Value).ownBlock) (Kd.R_keptB ((Kd.R_apart' HO257.out (Kd.R_typed HO271.out) (by decide))) hkp (fun k_ hk_ hs_ => (hk_.2) hs_)) (fun k_ hk_ => hk_.1.1.2)); have n2_ := Aside0.mk (blk_kept (by (with_reducible repeat (first | refine blk_drewN ?_ _ | refine blk_drew ?_ | refine blk_alloc ?_ _)); exact BK261.out) hkp (fun hs_ => (fun e_ => (Kd.R_ne HO271.out BK261.out (by decide)) e_) hs_)); have n3_ := Aside0.mk (Kd.R_mono (ok' := fun k_ => some k_ ≠ (.slice Ao11 y255.length co11 : Value).ownBlock) (Kd.R_keptB ((Kd.R_apart' HO264.out (Kd.R_typed HO271.out) (by decide))) hkp (fun k_ hk_ hs_ => (hk_.2) hs_)) (fun k_ hk_ => hk_.1.1.2)); have n4_ := Aside0.mk (blk_kept (by (with_reducible repeat (first | refine blk_drewN ?_ _ | refine blk_drew ?_ | refine blk_alloc ?_ _)); exact BK268.out) hkp (fun hs_ => (fun e_ => (Kd.R_ne HO271.out BK268.out (by decide)) e_) hs_)); have n5_ := Aside0.mk (hb); clear BK254; clear HO257; clear BK261; clear HO264; clear BK268; clear HB; clear HO271; have BK254 := n0_; have HO257 := n1_; have BK261 := n2_; have HO264 := n3_; have BK268 := n4_; have HB := n5_; clear n0_ n1_ n2_ n3_ n4_ n5_; (try clear hb); (try clear hkp)))
  (try simp only [Act.put, List.setIfInBounds_toArray, List.set_cons_zero, List.set_cons_succ])
  go_cut [0] (fun v0 wc => ∃ (kq : Nat) (x0_4 : Bool), v0 = .bool x0_4 ∧ Aside0 (parallaxlaw10_known.j0 kq x0_4 = some r) ∧ Aside0 (kq ≤ k) ∧ Aside0 (wc.heap[gb254]? = some (.cells #[.int .i64 t244, .int .i64 t245, .int .i64 t246, .int .i64 t247, .int .i64 t248, .int .i64 t249, .int .i64 t250, .int .i64 t251, .bool t252, .bool t253] 30 (0, 0))) ∧ Aside0 (wc.heap[gb261]? = some (.cells #[.int .i64 t258, .int .i64 t259] 40 (0, 0))) ∧ Aside0 (wc.heap[gb268]? = some (.cells #[.int .i64 t265, .int .i64 t266] 40 (0, 0))) ∧ Aside0 (Below w.heap.size w wc))
  case first =>
    have H := HC5.out
    clear HC5
    by_cases c29 : t260 = 0
    · rw [if_pos c29] at H
      have c29b0 : (t260 == 0) = true := beq_iff_eq.mpr c29
      have c29b1 : (t260 != 0) = false := bne_eq_false_iff_eq.mpr c29
      clear c29
      (first | rw [c29b0] | (simp only [i64_w, i32_w]; rw [c29b0]) | skip)
      by_cases c30 : t258 = 1
      · rw [if_pos c30] at H
        have c30b0 : (t258 == 1) = true := beq_iff_eq.mpr c30
        have c30b1 : (t258 != 1) = false := bne_eq_false_iff_eq.mpr c30
        clear c30
        by_cases c31 : t259 = 5
        · rw [if_pos c31] at H
          have c31b0 : (t259 == 5) = true := beq_iff_eq.mpr c31
          have c31b1 : (t259 != 5) = false := bne_eq_false_iff_eq.mpr c31
          clear c31
          by_cases c32 : t267 = 0
          · rw [if_pos c32] at H
            have c32b0 : (t267 == 0) = true := beq_iff_eq.mpr c32
            have c32b1 : (t267 != 0) = false := bne_eq_false_iff_eq.mpr c32
            clear c32
            by_cases c33 : t265 = 2
            · rw [if_pos c33] at H
              have c33b0 : (t265 == 2) = true := beq_iff_eq.mpr c33
              have c33b1 : (t265 != 2) = false := bne_eq_false_iff_eq.mpr c33
              clear c33
              by_cases c34 : t272 = 0
              · rw [if_pos c34] at H
                have c34b0 : (t272 == 0) = true := beq_iff_eq.mpr c34
                have c34b1 : (t272 != 0) = false := bne_eq_false_iff_eq.mpr c34
                clear c34
                by_cases c35 : t273 = 413
                · rw [if_pos c35] at H
                  have c35b0 : (t273 == 413) = true := beq_iff_eq.mpr c35
                  have c35b1 : (t273 != 413) = false := bne_eq_false_iff_eq.mpr c35
                  clear c35
                  obtain ⟨y274, hy274⟩ : ∃ y_ : List ByteArray, y_ = (([(⟨#[99, 104, 117, 110, 107, 101, 100]⟩ : ByteArray)] : List ByteArray)) := ⟨_, rfl⟩
                  replace H : ((framing_Coding.f k 0 y274).bind fun t277 => (if t277 = true then ((framing_Coding.f k 0 (([(⟨#[103, 122, 105, 112, 44, 32, 99, 104, 117, 110, 107, 101, 100]⟩ : ByteArray)] : List ByteArray))).bind fun t281 => (if t281 = true then (parallaxlaw10_known.j0 k false) else ((framing_Hosts.f k 0 1 ([] : List (S34))).bind fun t282 => (parallaxlaw10_known.j0 k (t282 == 400))))) else (parallaxlaw10_known.j0 k false))) = some r := by first | (rw [hy274]; with_reducible exact H) | (have H2_ := (Option.bind_some _ _).symm.trans H; rw [hy274]; with_reducible exact H2_) | (have H2_ := (Option.bind_some _ _).symm.trans H; with_reducible exact H2_) | with_reducible exact H | (rw [hy274]; exact H) | exact H
                  have Ny274 := Aside0.mk hy274
                  clear hy274
                  replace H := Option.bind_eq_some_iff.mp H
                  obtain ⟨t277, A360, H⟩ := H
                  (try dsimp only at H)
                  have A36 := Aside0.mk A360
                  clear A360
                  by_cases c37 : t277 = true
                  · subst c37
                    rw [if_pos rfl] at H
                    obtain ⟨y278, hy278⟩ : ∃ y_ : List ByteArray, y_ = (([(⟨#[103, 122, 105, 112, 44, 32, 99, 104, 117, 110, 107, 101, 100]⟩ : ByteArray)] : List ByteArray)) := ⟨_, rfl⟩
                    replace H : ((framing_Coding.f k 0 y278).bind fun t281 => (if t281 = true then (parallaxlaw10_known.j0 k false) else ((framing_Hosts.f k 0 1 ([] : List (S34))).bind fun t282 => (parallaxlaw10_known.j0 k (t282 == 400))))) = some r := by first | (rw [hy278]; with_reducible exact H) | (have H2_ := (Option.bind_some _ _).symm.trans H; rw [hy278]; with_reducible exact H2_) | (have H2_ := (Option.bind_some _ _).symm.trans H; with_reducible exact H2_) | with_reducible exact H | (rw [hy278]; exact H) | exact H
                    have Ny278 := Aside0.mk hy278
                    clear hy278
                    replace H := Option.bind_eq_some_iff.mp H
                    obtain ⟨t281, A380, H⟩ := H
                    (try dsimp only at H)
                    have A38 := Aside0.mk A380
                    clear A380
                    by_cases c39 : t281 = true
                    · subst c39
                      rw [if_pos rfl] at H
                      have H' := Aside0.mk H
                      clear H
                      have hnb40 := NB261_254.out
                      have hnc40 := NB254_261.out
                      have hnb41 := NB261_268.out
                      have hnc41 := NB268_261.out
                      have hcz42_0 : w28.cell? ⟨gb261, 0, none⟩ = some (.int .i64 t258) := (blk_cell BK261.out 0).trans rfl
                      have hcz42_1 : w28.cell? ⟨gb261, 1, none⟩ = some (.int .i64 t259) := (blk_cell BK261.out 1).trans rfl
                      have hfz42_0 := blk_frozen BK261.out 0
                      have hfz42_1 := blk_frozen BK261.out 1
                      have hnb43 := NB268_254.out
                      have hnc43 := NB254_268.out
                      have hcz44_0 : w28.cell? ⟨gb268, 0, none⟩ = some (.int .i64 t265) := (blk_cell BK268.out 0).trans rfl
                      have hcz44_1 : w28.cell? ⟨gb268, 1, none⟩ = some (.int .i64 t266) := (blk_cell BK268.out 1).trans rfl
                      have hfz44_0 := blk_frozen BK268.out 0
                      have hfz44_1 := blk_frozen BK268.out 1
                      go_wp2_with (first | ((with_reducible refine gate_dst (N := 60) rfl ?_); (try (refine gate_guard (by rfl) ?_; dsimp only)); refine Kd.R_lit Kd.string _ 9 ?hg (N := 60) ?hd (xs := ([(⟨#[99, 104, 117, 110, 107, 101, 100]⟩ : ByteArray)] : List ByteArray)) (inner := [.string (⟨#[99, 104, 117, 110, 107, 101, 100]⟩ : ByteArray)]) (ok := fun _ => True) (okp := fun _ => True) ?hr ?hp (fun _ hk => hk) trivial (Below.refl _ _) (Nat.le_refl _) (by simp) ?_; (case hd => rfl); (case hg => rfl); (case hr => first | (go_simp; done) | (go_simp; rfl)); (case hp => exact (Reps.one (show Kd.M Kd.string _ _ _ (⟨#[99, 104, 117, 110, 107, 101, 100]⟩ : ByteArray) [.string (⟨#[99, 104, 117, 110, 107, 101, 100]⟩ : ByteArray)] from rfl) (Reps.none _ _))); intro v275 w45 ho46 hb hg_ hnew_; clear hg_ hnew_; (first | rw [← Ny274.out] at ho46 | (simp only [Int.reduceToNat] at ho46; rw [← Ny274.out] at ho46)); have n0_ := Aside0.mk (Kd.R_below (by (with_reducible repeat (first | apply Kd.R_alloc | apply Kd.R_drewN | apply Kd.R_drew)); exact HO257.out) hb); have n1_ := Aside0.mk (Kd.R_below (by (with_reducible repeat (first | apply Kd.R_alloc | apply Kd.R_drewN | apply Kd.R_drew)); exact HO264.out) hb); have n2_ := Aside0.mk (Kd.R_lower ho46 (below_size (by repeat (first | (with_reducible first | exact HB.out | apply below_alloc | apply pw_below_drewN | apply below_drew1 | refine below_set ?_ GE254.out | refine below_set ?_ GE261.out | refine below_set ?_ GE268.out) | exact HB.out)))); have n3_ := Aside0.mk (blk_below (g := gb254) (o := .cells #[.int .i64 t244, .int .i64 t245, .int .i64 t246, .int .i64 t247, .int .i64 t248, .int .i64 t249, .int .i64 t250, .int .i64 t251, .bool t252, .bool t253] 30 (0, 0)) (by (with_reducible repeat (first | refine blk_drewN ?_ _ | refine blk_drew ?_ | refine blk_alloc ?_ _)); exact BK254.out) hb); have n4_ := Aside0.mk (blk_below (g := gb261) (o := .cells #[.int .i64 t258, .int .i64 t259] 40 (0, 0)) (by (with_reducible repeat (first | refine blk_drewN ?_ _ | refine blk_drew ?_ | refine blk_alloc ?_ _)); exact BK261.out) hb); have n5_ := Aside0.mk (blk_below (g := gb268) (o := .cells #[.int .i64 t265, .int .i64 t266] 40 (0, 0)) (by (with_reducible repeat (first | refine blk_drewN ?_ _ | refine blk_drew ?_ | refine blk_alloc ?_ _)); exact BK268.out) hb); have n6_ := Aside0.mk (below_step (by repeat (first | (with_reducible first | exact HB.out | apply below_alloc | apply pw_below_drewN | apply below_drew1 | refine below_set ?_ GE254.out | refine below_set ?_ GE261.out | refine below_set ?_ GE268.out) | exact HB.out)) hb); clear HO257; clear HO264; clear BK254; clear BK261; clear BK268; clear HB; have HO257 := n0_; have HO264 := n1_; have HO276 := n2_; have BK254 := n3_; have BK261 := n4_; have BK268 := n5_; have HB := n6_; clear n0_ n1_ n2_ n3_ n4_ n5_ n6_; clear hb ho46; obtain ⟨Ao47, co47, eo47⟩ := Kd.R_slice HO276.out; subst eo47) | (go_at_call 20; (with_reducible refine (framing_Coding.calls k 0 _ _ y274 true _ ?side1 ?side2 A36.out).mono ?_); (case side1 => repeat (first | exact (Kd.R_reads' HO276.out).2.2 | (with_reducible refine Kd.C_alloc ?_ _) | (with_reducible refine Kd.C_drewN ?_ _) | (with_reducible refine Kd.C_drew ?_))); (case side2 => exact (Kd.R_reads' HO276.out).2.1); rintro e w48 ⟨rfl, hb⟩; have n0_ := Aside0.mk (Kd.R_below (by (with_reducible repeat (first | apply Kd.R_alloc | apply Kd.R_drewN | apply Kd.R_drew)); exact HO257.out) hb); have n1_ := Aside0.mk (Kd.R_below (by (with_reducible repeat (first | apply Kd.R_alloc | apply Kd.R_drewN | apply Kd.R_drew)); exact HO264.out) hb); have n2_ := Aside0.mk (Kd.R_below (by (with_reducible repeat (first | apply Kd.R_alloc | apply Kd.R_drewN | apply Kd.R_drew)); exact HO276.out) hb); have n3_ := Aside0.mk (blk_below (g := gb254) (o := .cells #[.int .i64 t244, .int .i64 t245, .int .i64 t246, .int .i64 t247, .int .i64 t248, .int .i64 t249, .int .i64 t250, .int .i64 t251, .bool t252, .bool t253] 30 (0, 0)) (by (with_reducible repeat (first | refine blk_drewN ?_ _ | refine blk_drew ?_ | refine blk_alloc ?_ _)); exact BK254.out) hb); have n4_ := Aside0.mk (blk_below (g := gb261) (o := .cells #[.int .i64 t258, .int .i64 t259] 40 (0, 0)) (by (with_reducible repeat (first | refine blk_drewN ?_ _ | refine blk_drew ?_ | refine blk_alloc ?_ _)); exact BK261.out) hb); have n5_ := Aside0.mk (blk_below (g := gb268) (o := .cells #[.int .i64 t265, .int .i64 t266] 40 (0, 0)) (by (with_reducible repeat (first | refine blk_drewN ?_ _ | refine blk_drew ?_ | refine blk_alloc ?_ _)); exact BK268.out) hb); have n6_ := Aside0.mk (below_step (by repeat (first | (with_reducible first | exact HB.out | apply below_alloc | apply pw_below_drewN | apply below_drew1 | refine below_set ?_ GE254.out | refine below_set ?_ GE261.out | refine below_set ?_ GE268.out) | exact HB.out)) hb); clear HO257; clear HO264; clear HO276; clear BK254; clear BK261; clear BK268; clear HB; have HO257 := n0_; have HO264 := n1_; have HO276 := n2_; have BK254 := n3_; have BK261 := n4_; have BK268 := n5_; have HB := n6_; clear n0_ n1_ n2_ n3_ n4_ n5_ n6_; (try clear hb); (try clear hb2); (try clear hk); (try clear hi)) | ((with_reducible refine gate_dst (N := 64) rfl ?_); (try (refine gate_guard (by rfl) ?_; dsimp only)); refine Kd.R_lit Kd.string _ 9 ?hg (N := 64) ?hd (xs := ([(⟨#[103, 122, 105, 112, 44, 32, 99, 104, 117, 110, 107, 101, 100]⟩ : ByteArray)] : List ByteArray)) (inner := [.string (⟨#[103, 122, 105, 112, 44, 32, 99, 104, 117, 110, 107, 101, 100]⟩ : ByteArray)]) (ok := fun _ => True) (okp := fun _ => True) ?hr ?hp (fun _ hk => hk) trivial (Below.refl _ _) (Nat.le_refl _) (by simp) ?_; (case hd => rfl); (case hg => rfl); (case hr => first | (go_simp; done) | (go_simp; rfl)); (case hp => exact (Reps.one (show Kd.M Kd.string _ _ _ (⟨#[103, 122, 105, 112, 44, 32, 99, 104, 117, 110, 107, 101, 100]⟩ : ByteArray) [.string (⟨#[103, 122, 105, 112, 44, 32, 99, 104, 117, 110, 107, 101, 100]⟩ : ByteArray)] from rfl) (Reps.none _ _))); intro v279 w49 ho50 hb hg_ hnew_; clear hg_ hnew_; (first | rw [← Ny278.out] at ho50 | (simp only [Int.reduceToNat] at ho50; rw [← Ny278.out] at ho50)); have n0_ := Aside0.mk (Kd.R_below (by (with_reducible repeat (first | apply Kd.R_alloc | apply Kd.R_drewN | apply Kd.R_drew)); exact HO257.out) hb); have n1_ := Aside0.mk (Kd.R_below (by (with_reducible repeat (first | apply Kd.R_alloc | apply Kd.R_drewN | apply Kd.R_drew)); exact HO264.out) hb); have n2_ := Aside0.mk (Kd.R_elder' (by (with_reducible repeat (first | apply Kd.R_alloc | apply Kd.R_drewN | apply Kd.R_drew)); exact HO276.out) (Kd.R_base ho50) hb); have n3_ := Aside0.mk (Kd.R_lower (Kd.R_new' ho50 (Kd.R_lt (by (with_reducible repeat (first | apply Kd.R_alloc | apply Kd.R_drewN | apply Kd.R_drew)); exact HO276.out))) (below_size (by repeat (first | (with_reducible first | exact HB.out | apply below_alloc | apply pw_below_drewN | apply below_drew1 | refine below_set ?_ GE254.out | refine below_set ?_ GE261.out | refine below_set ?_ GE268.out) | exact HB.out)))); have n4_ := Aside0.mk (blk_below (g := gb254) (o := .cells #[.int .i64 t244, .int .i64 t245, .int .i64 t246, .int .i64 t247, .int .i64 t248, .int .i64 t249, .int .i64 t250, .int .i64 t251, .bool t252, .bool t253] 30 (0, 0)) (by (with_reducible repeat (first | refine blk_drewN ?_ _ | refine blk_drew ?_ | refine blk_alloc ?_ _)); exact BK254.out) hb); have n5_ := Aside0.mk (blk_below (g := gb261) (o := .cells #[.int .i64 t258, .int .i64 t259] 40 (0, 0)) (by (with_reducible repeat (first | refine blk_drewN ?_ _ | refine blk_drew ?_ | refine blk_alloc ?_ _)); exact BK261.out) hb); have n6_ := Aside0.mk (blk_below (g := gb268) (o := .cells #[.int .i64 t265, .int .i64 t266] 40 (0, 0)) (by (with_reducible repeat (first | refine blk_drewN ?_ _ | refine blk_drew ?_ | refine blk_alloc ?_ _)); exact BK268.out) hb); have n7_ := Aside0.mk (below_step (by repeat (first | (with_reducible first | exact HB.out | apply below_alloc | apply pw_below_drewN | apply below_drew1 | refine below_set ?_ GE254.out | refine below_set ?_ GE261.out | refine below_set ?_ GE268.out) | exact HB.out)) hb); clear HO257; clear HO264; clear HO276; clear BK254; clear BK261; clear BK268; clear HB; have HO257 := n0_; have HO264 := n1_; have HO276 := n2_; have HO280 := n3_; have BK254 := n4_; have BK261 := n5_; have BK268 := n6_; have HB := n7_; clear n0_ n1_ n2_ n3_ n4_ n5_ n6_ n7_; clear hb ho50; obtain ⟨Ao51, co51, eo51⟩ := Kd.R_slice HO280.out; subst eo51) | (go_at_call 20; (with_reducible refine (framing_Coding.calls k 0 _ _ y278 true _ ?side1 ?side2 A38.out).mono ?_); (case side1 => repeat (first | exact (Kd.R_reads' HO280.out).2.2 | (with_reducible refine Kd.C_alloc ?_ _) | (with_reducible refine Kd.C_drewN ?_ _) | (with_reducible refine Kd.C_drew ?_))); (case side2 => exact (Kd.R_reads' HO280.out).2.1); rintro e w52 ⟨rfl, hb⟩; have n0_ := Aside0.mk (Kd.R_below (by (with_reducible repeat (first | apply Kd.R_alloc | apply Kd.R_drewN | apply Kd.R_drew)); exact HO257.out) hb); have n1_ := Aside0.mk (Kd.R_below (by (with_reducible repeat (first | apply Kd.R_alloc | apply Kd.R_drewN | apply Kd.R_drew)); exact HO264.out) hb); have n2_ := Aside0.mk (Kd.R_below (by (with_reducible repeat (first | apply Kd.R_alloc | apply Kd.R_drewN | apply Kd.R_drew)); exact HO276.out) hb); have n3_ := Aside0.mk (Kd.R_below (by (with_reducible repeat (first | apply Kd.R_alloc | apply Kd.R_drewN | apply Kd.R_drew)); exact HO280.out) hb); have n4_ := Aside0.mk (blk_below (g := gb254) (o := .cells #[.int .i64 t244, .int .i64 t245, .int .i64 t246, .int .i64 t247, .int .i64 t248, .int .i64 t249, .int .i64 t250, .int .i64 t251, .bool t252, .bool t253] 30 (0, 0)) (by (with_reducible repeat (first | refine blk_drewN ?_ _ | refine blk_drew ?_ | refine blk_alloc ?_ _)); exact BK254.out) hb); have n5_ := Aside0.mk (blk_below (g := gb261) (o := .cells #[.int .i64 t258, .int .i64 t259] 40 (0, 0)) (by (with_reducible repeat (first | refine blk_drewN ?_ _ | refine blk_drew ?_ | refine blk_alloc ?_ _)); exact BK261.out) hb); have n6_ := Aside0.mk (blk_below (g := gb268) (o := .cells #[.int .i64 t265, .int .i64 t266] 40 (0, 0)) (by (with_reducible repeat (first | refine blk_drewN ?_ _ | refine blk_drew ?_ | refine blk_alloc ?_ _)); exact BK268.out) hb); have n7_ := Aside0.mk (below_step (by repeat (first | (with_reducible first | exact HB.out | apply below_alloc | apply pw_below_drewN | apply below_drew1 | refine below_set ?_ GE254.out | refine below_set ?_ GE261.out | refine below_set ?_ GE268.out) | exact HB.out)) hb); clear HO257; clear HO264; clear HO276; clear HO280; clear BK254; clear BK261; clear BK268; clear HB; have HO257 := n0_; have HO264 := n1_; have HO276 := n2_; have HO280 := n3_; have BK254 := n4_; have BK261 := n5_; have BK268 := n6_; have HB := n7_; clear n0_ n1_ n2_ n3_ n4_ n5_ n6_ n7_; (try clear hb); (try clear hb2); (try clear hk); (try clear hi)))
                      (try any_goals (exfalso; have h_ := ‹some undef = some (Value.bool _)›; revert h_; simp [undef]; done))
                      go_meet
                      case rel => exact ⟨_, (false), (by first | rfl | (simp; done) | (simp [*]; done)), H', ⟨by first | omega | exact Nat.le_refl _⟩, ⟨by (with_reducible repeat (first | refine blk_drewN ?_ _ | refine blk_drew ?_ | refine blk_alloc ?_ _)); exact BK254.out⟩, ⟨by (with_reducible repeat (first | refine blk_drewN ?_ _ | refine blk_drew ?_ | refine blk_alloc ?_ _)); exact BK261.out⟩, ⟨by (with_reducible repeat (first | refine blk_drewN ?_ _ | refine blk_drew ?_ | refine blk_alloc ?_ _)); exact BK268.out⟩, ⟨by repeat (first | (with_reducible first | exact HB.out | apply below_alloc | apply pw_below_drewN | apply below_drew1 | refine below_set ?_ GE254.out | refine below_set ?_ GE261.out | refine below_set ?_ GE268.out) | exact HB.out)⟩⟩
                    · replace c39 := Bool.eq_false_iff.mpr c39
                      subst c39
                      rw [if_neg (show ¬ (false = true) by decide)] at H
                      replace H := Option.bind_eq_some_iff.mp H
                      obtain ⟨t282, A530, H⟩ := H
                      (try dsimp only at H)
                      have A53 := Aside0.mk A530
                      clear A530
                      have H' := Aside0.mk H
                      clear H
                      have hnb54 := NB261_254.out
                      have hnc54 := NB254_261.out
                      have hnb55 := NB261_268.out
                      have hnc55 := NB268_261.out
                      have hcz56_0 : w28.cell? ⟨gb261, 0, none⟩ = some (.int .i64 t258) := (blk_cell BK261.out 0).trans rfl
                      have hcz56_1 : w28.cell? ⟨gb261, 1, none⟩ = some (.int .i64 t259) := (blk_cell BK261.out 1).trans rfl
                      have hfz56_0 := blk_frozen BK261.out 0
                      have hfz56_1 := blk_frozen BK261.out 1
                      have hnb57 := NB268_254.out
                      have hnc57 := NB254_268.out
                      have hcz58_0 : w28.cell? ⟨gb268, 0, none⟩ = some (.int .i64 t265) := (blk_cell BK268.out 0).trans rfl
                      have hcz58_1 : w28.cell? ⟨gb268, 1, none⟩ = some (.int .i64 t266) := (blk_cell BK268.out 1).trans rfl
                      have hfz58_0 := blk_frozen BK268.out 0
                      have hfz58_1 := blk_frozen BK268.out 1
                      go_wp2_with (first | ((with_reducible refine gate_dst (N := 60) rfl ?_); (try (refine gate_guard (by rfl) ?_; dsimp only)); refine Kd.R_lit Kd.string _ 9 ?hg (N := 60) ?hd (xs := ([(⟨#[99, 104, 117, 110, 107, 101, 100]⟩ : ByteArray)] : List ByteArray)) (inner := [.string (⟨#[99, 104, 117, 110, 107, 101, 100]⟩ : ByteArray)]) (ok := fun _ => True) (okp := fun _ => True) ?hr ?hp (fun _ hk => hk) trivial (Below.refl _ _) (Nat.le_refl _) (by simp) ?_; (case hd => rfl); (case hg => rfl); (case hr => first | (go_simp; done) | (go_simp; rfl)); (case hp => exact (Reps.one (show Kd.M Kd.string _ _ _ (⟨#[99, 104, 117, 110, 107, 101, 100]⟩ : ByteArray) [.string (⟨#[99, 104, 117, 110, 107, 101, 100]⟩ : ByteArray)] from rfl) (Reps.none _ _))); intro v275 w59 ho60 hb hg_ hnew_; clear hg_ hnew_; (first | rw [← Ny274.out] at ho60 | (simp only [Int.reduceToNat] at ho60; rw [← Ny274.out] at ho60)); have n0_ := Aside0.mk (Kd.R_below (by (with_reducible repeat (first | apply Kd.R_alloc | apply Kd.R_drewN | apply Kd.R_drew)); exact HO257.out) hb); have n1_ := Aside0.mk (Kd.R_below (by (with_reducible repeat (first | apply Kd.R_alloc | apply Kd.R_drewN | apply Kd.R_drew)); exact HO264.out) hb); have n2_ := Aside0.mk (Kd.R_lower ho60 (below_size (by repeat (first | (with_reducible first | exact HB.out | apply below_alloc | apply pw_below_drewN | apply below_drew1 | refine below_set ?_ GE254.out | refine below_set ?_ GE261.out | refine below_set ?_ GE268.out) | exact HB.out)))); have n3_ := Aside0.mk (blk_below (g := gb254) (o := .cells #[.int .i64 t244, .int .i64 t245, .int .i64 t246, .int .i64 t247, .int .i64 t248, .int .i64 t249, .int .i64 t250, .int .i64 t251, .bool t252, .bool t253] 30 (0, 0)) (by (with_reducible repeat (first | refine blk_drewN ?_ _ | refine blk_drew ?_ | refine blk_alloc ?_ _)); exact BK254.out) hb); have n4_ := Aside0.mk (blk_below (g := gb261) (o := .cells #[.int .i64 t258, .int .i64 t259] 40 (0, 0)) (by (with_reducible repeat (first | refine blk_drewN ?_ _ | refine blk_drew ?_ | refine blk_alloc ?_ _)); exact BK261.out) hb); have n5_ := Aside0.mk (blk_below (g := gb268) (o := .cells #[.int .i64 t265, .int .i64 t266] 40 (0, 0)) (by (with_reducible repeat (first | refine blk_drewN ?_ _ | refine blk_drew ?_ | refine blk_alloc ?_ _)); exact BK268.out) hb); have n6_ := Aside0.mk (below_step (by repeat (first | (with_reducible first | exact HB.out | apply below_alloc | apply pw_below_drewN | apply below_drew1 | refine below_set ?_ GE254.out | refine below_set ?_ GE261.out | refine below_set ?_ GE268.out) | exact HB.out)) hb); clear HO257; clear HO264; clear BK254; clear BK261; clear BK268; clear HB; have HO257 := n0_; have HO264 := n1_; have HO276 := n2_; have BK254 := n3_; have BK261 := n4_; have BK268 := n5_; have HB := n6_; clear n0_ n1_ n2_ n3_ n4_ n5_ n6_; clear hb ho60; obtain ⟨Ao61, co61, eo61⟩ := Kd.R_slice HO276.out; subst eo61) | (go_at_call 20; (with_reducible refine (framing_Coding.calls k 0 _ _ y274 true _ ?side1 ?side2 A36.out).mono ?_); (case side1 => repeat (first | exact (Kd.R_reads' HO276.out).2.2 | (with_reducible refine Kd.C_alloc ?_ _) | (with_reducible refine Kd.C_drewN ?_ _) | (with_reducible refine Kd.C_drew ?_))); (case side2 => exact (Kd.R_reads' HO276.out).2.1); rintro e w62 ⟨rfl, hb⟩; have n0_ := Aside0.mk (Kd.R_below (by (with_reducible repeat (first | apply Kd.R_alloc | apply Kd.R_drewN | apply Kd.R_drew)); exact HO257.out) hb); have n1_ := Aside0.mk (Kd.R_below (by (with_reducible repeat (first | apply Kd.R_alloc | apply Kd.R_drewN | apply Kd.R_drew)); exact HO264.out) hb); have n2_ := Aside0.mk (Kd.R_below (by (with_reducible repeat (first | apply Kd.R_alloc | apply Kd.R_drewN | apply Kd.R_drew)); exact HO276.out) hb); have n3_ := Aside0.mk (blk_below (g := gb254) (o := .cells #[.int .i64 t244, .int .i64 t245, .int .i64 t246, .int .i64 t247, .int .i64 t248, .int .i64 t249, .int .i64 t250, .int .i64 t251, .bool t252, .bool t253] 30 (0, 0)) (by (with_reducible repeat (first | refine blk_drewN ?_ _ | refine blk_drew ?_ | refine blk_alloc ?_ _)); exact BK254.out) hb); have n4_ := Aside0.mk (blk_below (g := gb261) (o := .cells #[.int .i64 t258, .int .i64 t259] 40 (0, 0)) (by (with_reducible repeat (first | refine blk_drewN ?_ _ | refine blk_drew ?_ | refine blk_alloc ?_ _)); exact BK261.out) hb); have n5_ := Aside0.mk (blk_below (g := gb268) (o := .cells #[.int .i64 t265, .int .i64 t266] 40 (0, 0)) (by (with_reducible repeat (first | refine blk_drewN ?_ _ | refine blk_drew ?_ | refine blk_alloc ?_ _)); exact BK268.out) hb); have n6_ := Aside0.mk (below_step (by repeat (first | (with_reducible first | exact HB.out | apply below_alloc | apply pw_below_drewN | apply below_drew1 | refine below_set ?_ GE254.out | refine below_set ?_ GE261.out | refine below_set ?_ GE268.out) | exact HB.out)) hb); clear HO257; clear HO264; clear HO276; clear BK254; clear BK261; clear BK268; clear HB; have HO257 := n0_; have HO264 := n1_; have HO276 := n2_; have BK254 := n3_; have BK261 := n4_; have BK268 := n5_; have HB := n6_; clear n0_ n1_ n2_ n3_ n4_ n5_ n6_; (try clear hb); (try clear hb2); (try clear hk); (try clear hi)) | ((with_reducible refine gate_dst (N := 64) rfl ?_); (try (refine gate_guard (by rfl) ?_; dsimp only)); refine Kd.R_lit Kd.string _ 9 ?hg (N := 64) ?hd (xs := ([(⟨#[103, 122, 105, 112, 44, 32, 99, 104, 117, 110, 107, 101, 100]⟩ : ByteArray)] : List ByteArray)) (inner := [.string (⟨#[103, 122, 105, 112, 44, 32, 99, 104, 117, 110, 107, 101, 100]⟩ : ByteArray)]) (ok := fun _ => True) (okp := fun _ => True) ?hr ?hp (fun _ hk => hk) trivial (Below.refl _ _) (Nat.le_refl _) (by simp) ?_; (case hd => rfl); (case hg => rfl); (case hr => first | (go_simp; done) | (go_simp; rfl)); (case hp => exact (Reps.one (show Kd.M Kd.string _ _ _ (⟨#[103, 122, 105, 112, 44, 32, 99, 104, 117, 110, 107, 101, 100]⟩ : ByteArray) [.string (⟨#[103, 122, 105, 112, 44, 32, 99, 104, 117, 110, 107, 101, 100]⟩ : ByteArray)] from rfl) (Reps.none _ _))); intro v279 w63 ho64 hb hg_ hnew_; clear hg_ hnew_; (first | rw [← Ny278.out] at ho64 | (simp only [Int.reduceToNat] at ho64; rw [← Ny278.out] at ho64)); have n0_ := Aside0.mk (Kd.R_below (by (with_reducible repeat (first | apply Kd.R_alloc | apply Kd.R_drewN | apply Kd.R_drew)); exact HO257.out) hb); have n1_ := Aside0.mk (Kd.R_below (by (with_reducible repeat (first | apply Kd.R_alloc | apply Kd.R_drewN | apply Kd.R_drew)); exact HO264.out) hb); have n2_ := Aside0.mk (Kd.R_elder' (by (with_reducible repeat (first | apply Kd.R_alloc | apply Kd.R_drewN | apply Kd.R_drew)); exact HO276.out) (Kd.R_base ho64) hb); have n3_ := Aside0.mk (Kd.R_lower (Kd.R_new' ho64 (Kd.R_lt (by (with_reducible repeat (first | apply Kd.R_alloc | apply Kd.R_drewN | apply Kd.R_drew)); exact HO276.out))) (below_size (by repeat (first | (with_reducible first | exact HB.out | apply below_alloc | apply pw_below_drewN | apply below_drew1 | refine below_set ?_ GE254.out | refine below_set ?_ GE261.out | refine below_set ?_ GE268.out) | exact HB.out)))); have n4_ := Aside0.mk (blk_below (g := gb254) (o := .cells #[.int .i64 t244, .int .i64 t245, .int .i64 t246, .int .i64 t247, .int .i64 t248, .int .i64 t249, .int .i64 t250, .int .i64 t251, .bool t252, .bool t253] 30 (0, 0)) (by (with_reducible repeat (first | refine blk_drewN ?_ _ | refine blk_drew ?_ | refine blk_alloc ?_ _)); exact BK254.out) hb); have n5_ := Aside0.mk (blk_below (g := gb261) (o := .cells #[.int .i64 t258, .int .i64 t259] 40 (0, 0)) (by (with_reducible repeat (first | refine blk_drewN ?_ _ | refine blk_drew ?_ | refine blk_alloc ?_ _)); exact BK261.out) hb); have n6_ := Aside0.mk (blk_below (g := gb268) (o := .cells #[.int .i64 t265, .int .i64 t266] 40 (0, 0)) (by (with_reducible repeat (first | refine blk_drewN ?_ _ | refine blk_drew ?_ | refine blk_alloc ?_ _)); exact BK268.out) hb); have n7_ := Aside0.mk (below_step (by repeat (first | (with_reducible first | exact HB.out | apply below_alloc | apply pw_below_drewN | apply below_drew1 | refine below_set ?_ GE254.out | refine below_set ?_ GE261.out | refine below_set ?_ GE268.out) | exact HB.out)) hb); clear HO257; clear HO264; clear HO276; clear BK254; clear BK261; clear BK268; clear HB; have HO257 := n0_; have HO264 := n1_; have HO276 := n2_; have HO280 := n3_; have BK254 := n4_; have BK261 := n5_; have BK268 := n6_; have HB := n7_; clear n0_ n1_ n2_ n3_ n4_ n5_ n6_ n7_; clear hb ho64; obtain ⟨Ao65, co65, eo65⟩ := Kd.R_slice HO280.out; subst eo65) | (go_at_call 20; (with_reducible refine (framing_Coding.calls k 0 _ _ y278 false _ ?side1 ?side2 A38.out).mono ?_); (case side1 => repeat (first | exact (Kd.R_reads' HO280.out).2.2 | (with_reducible refine Kd.C_alloc ?_ _) | (with_reducible refine Kd.C_drewN ?_ _) | (with_reducible refine Kd.C_drew ?_))); (case side2 => exact (Kd.R_reads' HO280.out).2.1); rintro e w66 ⟨rfl, hb⟩; have n0_ := Aside0.mk (Kd.R_below (by (with_reducible repeat (first | apply Kd.R_alloc | apply Kd.R_drewN | apply Kd.R_drew)); exact HO257.out) hb); have n1_ := Aside0.mk (Kd.R_below (by (with_reducible repeat (first | apply Kd.R_alloc | apply Kd.R_drewN | apply Kd.R_drew)); exact HO264.out) hb); have n2_ := Aside0.mk (Kd.R_below (by (with_reducible repeat (first | apply Kd.R_alloc | apply Kd.R_drewN | apply Kd.R_drew)); exact HO276.out) hb); have n3_ := Aside0.mk (Kd.R_below (by (with_reducible repeat (first | apply Kd.R_alloc | apply Kd.R_drewN | apply Kd.R_drew)); exact HO280.out) hb); have n4_ := Aside0.mk (blk_below (g := gb254) (o := .cells #[.int .i64 t244, .int .i64 t245, .int .i64 t246, .int .i64 t247, .int .i64 t248, .int .i64 t249, .int .i64 t250, .int .i64 t251, .bool t252, .bool t253] 30 (0, 0)) (by (with_reducible repeat (first | refine blk_drewN ?_ _ | refine blk_drew ?_ | refine blk_alloc ?_ _)); exact BK254.out) hb); have n5_ := Aside0.mk (blk_below (g := gb261) (o := .cells #[.int .i64 t258, .int .i64 t259] 40 (0, 0)) (by (with_reducible repeat (first | refine blk_drewN ?_ _ | refine blk_drew ?_ | refine blk_alloc ?_ _)); exact BK261.out) hb); have n6_ := Aside0.mk (blk_below (g := gb268) (o := .cells #[.int .i64 t265, .int .i64 t266] 40 (0, 0)) (by (with_reducible repeat (first | refine blk_drewN ?_ _ | refine blk_drew ?_ | refine blk_alloc ?_ _)); exact BK268.out) hb); have n7_ := Aside0.mk (below_step (by repeat (first | (with_reducible first | exact HB.out | apply below_alloc | apply pw_below_drewN | apply below_drew1 | refine below_set ?_ GE254.out | refine below_set ?_ GE261.out | refine below_set ?_ GE268.out) | exact HB.out)) hb); clear HO257; clear HO264; clear HO276; clear HO280; clear BK254; clear BK261; clear BK268; clear HB; have HO257 := n0_; have HO264 := n1_; have HO276 := n2_; have HO280 := n3_; have BK254 := n4_; have BK261 := n5_; have BK268 := n6_; have HB := n7_; clear n0_ n1_ n2_ n3_ n4_ n5_ n6_ n7_; (try clear hb); (try clear hb2); (try clear hk); (try clear hi)) | (go_at_call 16; (refine (framing_Hosts.calls k 0 1 _ _ ([] : List (S34)) t282 _ ?side1 ?side2 A53.out).mono ?_); (case side1 => exact Kd.C_nil _ _); (case side2 => exact Nat.le_refl _); rintro e w67 ⟨rfl, hb⟩; have n0_ := Aside0.mk (Kd.R_below (by (with_reducible repeat (first | apply Kd.R_alloc | apply Kd.R_drewN | apply Kd.R_drew)); exact HO257.out) hb); have n1_ := Aside0.mk (Kd.R_below (by (with_reducible repeat (first | apply Kd.R_alloc | apply Kd.R_drewN | apply Kd.R_drew)); exact HO264.out) hb); have n2_ := Aside0.mk (Kd.R_below (by (with_reducible repeat (first | apply Kd.R_alloc | apply Kd.R_drewN | apply Kd.R_drew)); exact HO276.out) hb); have n3_ := Aside0.mk (Kd.R_below (by (with_reducible repeat (first | apply Kd.R_alloc | apply Kd.R_drewN | apply Kd.R_drew)); exact HO280.out) hb); have n4_ := Aside0.mk (blk_below (g := gb254) (o := .cells #[.int .i64 t244, .int .i64 t245, .int .i64 t246, .int .i64 t247, .int .i64 t248, .int .i64 t249, .int .i64 t250, .int .i64 t251, .bool t252, .bool t253] 30 (0, 0)) (by (with_reducible repeat (first | refine blk_drewN ?_ _ | refine blk_drew ?_ | refine blk_alloc ?_ _)); exact BK254.out) hb); have n5_ := Aside0.mk (blk_below (g := gb261) (o := .cells #[.int .i64 t258, .int .i64 t259] 40 (0, 0)) (by (with_reducible repeat (first | refine blk_drewN ?_ _ | refine blk_drew ?_ | refine blk_alloc ?_ _)); exact BK261.out) hb); have n6_ := Aside0.mk (blk_below (g := gb268) (o := .cells #[.int .i64 t265, .int .i64 t266] 40 (0, 0)) (by (with_reducible repeat (first | refine blk_drewN ?_ _ | refine blk_drew ?_ | refine blk_alloc ?_ _)); exact BK268.out) hb); have n7_ := Aside0.mk (below_step (by repeat (first | (with_reducible first | exact HB.out | apply below_alloc | apply pw_below_drewN | apply below_drew1 | refine below_set ?_ GE254.out | refine below_set ?_ GE261.out | refine below_set ?_ GE268.out) | exact HB.out)) hb); clear HO257; clear HO264; clear HO276; clear HO280; clear BK254; clear BK261; clear BK268; clear HB; have HO257 := n0_; have HO264 := n1_; have HO276 := n2_; have HO280 := n3_; have BK254 := n4_; have BK261 := n5_; have BK268 := n6_; have HB := n7_; clear n0_ n1_ n2_ n3_ n4_ n5_ n6_ n7_; (try clear hb); (try clear hb2); (try clear hk); (try clear hi)))
                      (try any_goals (exfalso; have h_ := ‹some undef = some (Value.bool _)›; revert h_; simp [undef]; done))
                      go_meet
                      case rel => exact ⟨_, ((t282 == 400)), (by first | rfl | (simp; done) | (simp [*]; done)), H', ⟨by first | omega | exact Nat.le_refl _⟩, ⟨by (with_reducible repeat (first | refine blk_drewN ?_ _ | refine blk_drew ?_ | refine blk_alloc ?_ _)); exact BK254.out⟩, ⟨by (with_reducible repeat (first | refine blk_drewN ?_ _ | refine blk_drew ?_ | refine blk_alloc ?_ _)); exact BK261.out⟩, ⟨by (with_reducible repeat (first | refine blk_drewN ?_ _ | refine blk_drew ?_ | refine blk_alloc ?_ _)); exact BK268.out⟩, ⟨by repeat (first | (with_reducible first | exact HB.out | apply below_alloc | apply pw_below_drewN | apply below_drew1 | refine below_set ?_ GE254.out | refine below_set ?_ GE261.out | refine below_set ?_ GE268.out) | exact HB.out)⟩⟩
                  · replace c37 := Bool.eq_false_iff.mpr c37
                    subst c37
                    rw [if_neg (show ¬ (false = true) by decide)] at H
                    have H' := Aside0.mk H
                    clear H
                    have hnb68 := NB261_254.out
                    have hnc68 := NB254_261.out
                    have hnb69 := NB261_268.out
                    have hnc69 := NB268_261.out
                    have hcz70_0 : w28.cell? ⟨gb261, 0, none⟩ = some (.int .i64 t258) := (blk_cell BK261.out 0).trans rfl
                    have hcz70_1 : w28.cell? ⟨gb261, 1, none⟩ = some (.int .i64 t259) := (blk_cell BK261.out 1).trans rfl
                    have hfz70_0 := blk_frozen BK261.out 0
                    have hfz70_1 := blk_frozen BK261.out 1
                    have hnb71 := NB268_254.out
                    have hnc71 := NB254_268.out
                    have hcz72_0 : w28.cell? ⟨gb268, 0, none⟩ = some (.int .i64 t265) := (blk_cell BK268.out 0).trans rfl
                    have hcz72_1 : w28.cell? ⟨gb268, 1, none⟩ = some (.int .i64 t266) := (blk_cell BK268.out 1).trans rfl
                    have hfz72_0 := blk_frozen BK268.out 0
                    have hfz72_1 := blk_frozen BK268.out 1
                    go_wp2_with (first | ((with_reducible refine gate_dst (N := 60) rfl ?_); (try (refine gate_guard (by rfl) ?_; dsimp only)); refine Kd.R_lit Kd.string _ 9 ?hg (N := 60) ?hd (xs := ([(⟨#[99, 104, 117, 110, 107, 101, 100]⟩ : ByteArray)] : List ByteArray)) (inner := [.string (⟨#[99, 104, 117, 110, 107, 101, 100]⟩ : ByteArray)]) (ok := fun _ => True) (okp := fun _ => True) ?hr ?hp (fun _ hk => hk) trivial (Below.refl _ _) (Nat.le_refl _) (by simp) ?_; (case hd => rfl); (case hg => rfl); (case hr => first | (go_simp; done) | (go_simp; rfl)); (case hp => exact (Reps.one (show Kd.M Kd.string _ _ _ (⟨#[99, 104, 117, 110, 107, 101, 100]⟩ : ByteArray) [.string (⟨#[99, 104, 117, 110, 107, 101, 100]⟩ : ByteArray)] from rfl) (Reps.none _ _))); intro v275 w73 ho74 hb hg_ hnew_; clear hg_ hnew_; (first | rw [← Ny274.out] at ho74 | (simp only [Int.reduceToNat] at ho74; rw [← Ny274.out] at ho74)); have n0_ := Aside0.mk (Kd.R_below (by (with_reducible repeat (first | apply Kd.R_alloc | apply Kd.R_drewN | apply Kd.R_drew)); exact HO257.out) hb); have n1_ := Aside0.mk (Kd.R_below (by (with_reducible repeat (first | apply Kd.R_alloc | apply Kd.R_drewN | apply Kd.R_drew)); exact HO264.out) hb); have n2_ := Aside0.mk (Kd.R_lower ho74 (below_size (by repeat (first | (with_reducible first | exact HB.out | apply below_alloc | apply pw_below_drewN | apply below_drew1 | refine below_set ?_ GE254.out | refine below_set ?_ GE261.out | refine below_set ?_ GE268.out) | exact HB.out)))); have n3_ := Aside0.mk (blk_below (g := gb254) (o := .cells #[.int .i64 t244, .int .i64 t245, .int .i64 t246, .int .i64 t247, .int .i64 t248, .int .i64 t249, .int .i64 t250, .int .i64 t251, .bool t252, .bool t253] 30 (0, 0)) (by (with_reducible repeat (first | refine blk_drewN ?_ _ | refine blk_drew ?_ | refine blk_alloc ?_ _)); exact BK254.out) hb); have n4_ := Aside0.mk (blk_below (g := gb261) (o := .cells #[.int .i64 t258, .int .i64 t259] 40 (0, 0)) (by (with_reducible repeat (first | refine blk_drewN ?_ _ | refine blk_drew ?_ | refine blk_alloc ?_ _)); exact BK261.out) hb); have n5_ := Aside0.mk (blk_below (g := gb268) (o := .cells #[.int .i64 t265, .int .i64 t266] 40 (0, 0)) (by (with_reducible repeat (first | refine blk_drewN ?_ _ | refine blk_drew ?_ | refine blk_alloc ?_ _)); exact BK268.out) hb); have n6_ := Aside0.mk (below_step (by repeat (first | (with_reducible first | exact HB.out | apply below_alloc | apply pw_below_drewN | apply below_drew1 | refine below_set ?_ GE254.out | refine below_set ?_ GE261.out | refine below_set ?_ GE268.out) | exact HB.out)) hb); clear HO257; clear HO264; clear BK254; clear BK261; clear BK268; clear HB; have HO257 := n0_; have HO264 := n1_; have HO276 := n2_; have BK254 := n3_; have BK261 := n4_; have BK268 := n5_; have HB := n6_; clear n0_ n1_ n2_ n3_ n4_ n5_ n6_; clear hb ho74; obtain ⟨Ao75, co75, eo75⟩ := Kd.R_slice HO276.out; subst eo75) | (go_at_call 20; (with_reducible refine (framing_Coding.calls k 0 _ _ y274 false _ ?side1 ?side2 A36.out).mono ?_); (case side1 => repeat (first | exact (Kd.R_reads' HO276.out).2.2 | (with_reducible refine Kd.C_alloc ?_ _) | (with_reducible refine Kd.C_drewN ?_ _) | (with_reducible refine Kd.C_drew ?_))); (case side2 => exact (Kd.R_reads' HO276.out).2.1); rintro e w76 ⟨rfl, hb⟩; have n0_ := Aside0.mk (Kd.R_below (by (with_reducible repeat (first | apply Kd.R_alloc | apply Kd.R_drewN | apply Kd.R_drew)); exact HO257.out) hb); have n1_ := Aside0.mk (Kd.R_below (by (with_reducible repeat (first | apply Kd.R_alloc | apply Kd.R_drewN | apply Kd.R_drew)); exact HO264.out) hb); have n2_ := Aside0.mk (Kd.R_below (by (with_reducible repeat (first | apply Kd.R_alloc | apply Kd.R_drewN | apply Kd.R_drew)); exact HO276.out) hb); have n3_ := Aside0.mk (blk_below (g := gb254) (o := .cells #[.int .i64 t244, .int .i64 t245, .int .i64 t246, .int .i64 t247, .int .i64 t248, .int .i64 t249, .int .i64 t250, .int .i64 t251, .bool t252, .bool t253] 30 (0, 0)) (by (with_reducible repeat (first | refine blk_drewN ?_ _ | refine blk_drew ?_ | refine blk_alloc ?_ _)); exact BK254.out) hb); have n4_ := Aside0.mk (blk_below (g := gb261) (o := .cells #[.int .i64 t258, .int .i64 t259] 40 (0, 0)) (by (with_reducible repeat (first | refine blk_drewN ?_ _ | refine blk_drew ?_ | refine blk_alloc ?_ _)); exact BK261.out) hb); have n5_ := Aside0.mk (blk_below (g := gb268) (o := .cells #[.int .i64 t265, .int .i64 t266] 40 (0, 0)) (by (with_reducible repeat (first | refine blk_drewN ?_ _ | refine blk_drew ?_ | refine blk_alloc ?_ _)); exact BK268.out) hb); have n6_ := Aside0.mk (below_step (by repeat (first | (with_reducible first | exact HB.out | apply below_alloc | apply pw_below_drewN | apply below_drew1 | refine below_set ?_ GE254.out | refine below_set ?_ GE261.out | refine below_set ?_ GE268.out) | exact HB.out)) hb); clear HO257; clear HO264; clear HO276; clear BK254; clear BK261; clear BK268; clear HB; have HO257 := n0_; have HO264 := n1_; have HO276 := n2_; have BK254 := n3_; have BK261 := n4_; have BK268 := n5_; have HB := n6_; clear n0_ n1_ n2_ n3_ n4_ n5_ n6_; (try clear hb); (try clear hb2); (try clear hk); (try clear hi)))
                    (try any_goals (exfalso; have h_ := ‹some undef = some (Value.bool _)›; revert h_; simp [undef]; done))
                    go_meet
                    case rel => exact ⟨_, (false), (by first | rfl | (simp; done) | (simp [*]; done)), H', ⟨by first | omega | exact Nat.le_refl _⟩, ⟨by (with_reducible repeat (first | refine blk_drewN ?_ _ | refine blk_drew ?_ | refine blk_alloc ?_ _)); exact BK254.out⟩, ⟨by (with_reducible repeat (first | refine blk_drewN ?_ _ | refine blk_drew ?_ | refine blk_alloc ?_ _)); exact BK261.out⟩, ⟨by (with_reducible repeat (first | refine blk_drewN ?_ _ | refine blk_drew ?_ | refine blk_alloc ?_ _)); exact BK268.out⟩, ⟨by repeat (first | (with_reducible first | exact HB.out | apply below_alloc | apply pw_below_drewN | apply below_drew1 | refine below_set ?_ GE254.out | refine below_set ?_ GE261.out | refine below_set ?_ GE268.out) | exact HB.out)⟩⟩
                · rw [if_neg c35] at H
                  have c35b0 : (t273 == 413) = false := beq_eq_false_iff_ne.mpr c35
                  have c35b1 : (t273 != 413) = true := bne_iff_ne.mpr c35
                  have H' := Aside0.mk H
                  clear H
                  have hnb77 := NB261_254.out
                  have hnc77 := NB254_261.out
                  have hnb78 := NB261_268.out
                  have hnc78 := NB268_261.out
                  have hcz79_0 : w28.cell? ⟨gb261, 0, none⟩ = some (.int .i64 t258) := (blk_cell BK261.out 0).trans rfl
                  have hcz79_1 : w28.cell? ⟨gb261, 1, none⟩ = some (.int .i64 t259) := (blk_cell BK261.out 1).trans rfl
                  have hfz79_0 := blk_frozen BK261.out 0
                  have hfz79_1 := blk_frozen BK261.out 1
                  have hnb80 := NB268_254.out
                  have hnc80 := NB254_268.out
                  have hcz81_0 : w28.cell? ⟨gb268, 0, none⟩ = some (.int .i64 t265) := (blk_cell BK268.out 0).trans rfl
                  have hcz81_1 : w28.cell? ⟨gb268, 1, none⟩ = some (.int .i64 t266) := (blk_cell BK268.out 1).trans rfl
                  have hfz81_0 := blk_frozen BK268.out 0
                  have hfz81_1 := blk_frozen BK268.out 1
                  go_wp2
                  (try any_goals (exfalso; have h_ := ‹some undef = some (Value.bool _)›; revert h_; simp [undef]; done))
                  go_meet
                  case rel => exact ⟨_, (false), (by first | rfl | (simp; done) | (simp [*]; done)), H', ⟨by first | omega | exact Nat.le_refl _⟩, ⟨by (with_reducible repeat (first | refine blk_drewN ?_ _ | refine blk_drew ?_ | refine blk_alloc ?_ _)); exact BK254.out⟩, ⟨by (with_reducible repeat (first | refine blk_drewN ?_ _ | refine blk_drew ?_ | refine blk_alloc ?_ _)); exact BK261.out⟩, ⟨by (with_reducible repeat (first | refine blk_drewN ?_ _ | refine blk_drew ?_ | refine blk_alloc ?_ _)); exact BK268.out⟩, ⟨by repeat (first | (with_reducible first | exact HB.out | apply below_alloc | apply pw_below_drewN | apply below_drew1 | refine below_set ?_ GE254.out | refine below_set ?_ GE261.out | refine below_set ?_ GE268.out) | exact HB.out)⟩⟩
              · rw [if_neg c34] at H
                have c34b0 : (t272 == 0) = false := beq_eq_false_iff_ne.mpr c34
                have c34b1 : (t272 != 0) = true := bne_iff_ne.mpr c34
                have H' := Aside0.mk H
                clear H
                have hnb82 := NB261_254.out
                have hnc82 := NB254_261.out
                have hnb83 := NB261_268.out
                have hnc83 := NB268_261.out
                have hcz84_0 : w28.cell? ⟨gb261, 0, none⟩ = some (.int .i64 t258) := (blk_cell BK261.out 0).trans rfl
                have hcz84_1 : w28.cell? ⟨gb261, 1, none⟩ = some (.int .i64 t259) := (blk_cell BK261.out 1).trans rfl
                have hfz84_0 := blk_frozen BK261.out 0
                have hfz84_1 := blk_frozen BK261.out 1
                have hnb85 := NB268_254.out
                have hnc85 := NB254_268.out
                have hcz86_0 : w28.cell? ⟨gb268, 0, none⟩ = some (.int .i64 t265) := (blk_cell BK268.out 0).trans rfl
                have hcz86_1 : w28.cell? ⟨gb268, 1, none⟩ = some (.int .i64 t266) := (blk_cell BK268.out 1).trans rfl
                have hfz86_0 := blk_frozen BK268.out 0
                have hfz86_1 := blk_frozen BK268.out 1
                go_wp2
                (try any_goals (exfalso; have h_ := ‹some undef = some (Value.bool _)›; revert h_; simp [undef]; done))
                go_meet
                case rel => exact ⟨_, (false), (by first | rfl | (simp; done) | (simp [*]; done)), H', ⟨by first | omega | exact Nat.le_refl _⟩, ⟨by (with_reducible repeat (first | refine blk_drewN ?_ _ | refine blk_drew ?_ | refine blk_alloc ?_ _)); exact BK254.out⟩, ⟨by (with_reducible repeat (first | refine blk_drewN ?_ _ | refine blk_drew ?_ | refine blk_alloc ?_ _)); exact BK261.out⟩, ⟨by (with_reducible repeat (first | refine blk_drewN ?_ _ | refine blk_drew ?_ | refine blk_alloc ?_ _)); exact BK268.out⟩, ⟨by repeat (first | (with_reducible first | exact HB.out | apply below_alloc | apply pw_below_drewN | apply below_drew1 | refine below_set ?_ GE254.out | refine below_set ?_ GE261.out | refine below_set ?_ GE268.out) | exact HB.out)⟩⟩
            · rw [if_neg c33] at H
              have c33b0 : (t265 == 2) = false := beq_eq_false_iff_ne.mpr c33
              have c33b1 : (t265 != 2) = true := bne_iff_ne.mpr c33
              have H' := Aside0.mk H
              clear H
              have hnb87 := NB261_254.out
              have hnc87 := NB254_261.out
              have hnb88 := NB261_268.out
              have hnc88 := NB268_261.out
              have hcz89_0 : w28.cell? ⟨gb261, 0, none⟩ = some (.int .i64 t258) := (blk_cell BK261.out 0).trans rfl
              have hcz89_1 : w28.cell? ⟨gb261, 1, none⟩ = some (.int .i64 t259) := (blk_cell BK261.out 1).trans rfl
              have hfz89_0 := blk_frozen BK261.out 0
              have hfz89_1 := blk_frozen BK261.out 1
              have hnb90 := NB268_254.out
              have hnc90 := NB254_268.out
              have hcz91_0 : w28.cell? ⟨gb268, 0, none⟩ = some (.int .i64 t265) := (blk_cell BK268.out 0).trans rfl
              have hcz91_1 : w28.cell? ⟨gb268, 1, none⟩ = some (.int .i64 t266) := (blk_cell BK268.out 1).trans rfl
              have hfz91_0 := blk_frozen BK268.out 0
              have hfz91_1 := blk_frozen BK268.out 1
              go_wp2
              (try any_goals (exfalso; have h_ := ‹some undef = some (Value.bool _)›; revert h_; simp [undef]; done))
              go_meet
              case rel => exact ⟨_, (false), (by first | rfl | (simp; done) | (simp [*]; done)), H', ⟨by first | omega | exact Nat.le_refl _⟩, ⟨by (with_reducible repeat (first | refine blk_drewN ?_ _ | refine blk_drew ?_ | refine blk_alloc ?_ _)); exact BK254.out⟩, ⟨by (with_reducible repeat (first | refine blk_drewN ?_ _ | refine blk_drew ?_ | refine blk_alloc ?_ _)); exact BK261.out⟩, ⟨by (with_reducible repeat (first | refine blk_drewN ?_ _ | refine blk_drew ?_ | refine blk_alloc ?_ _)); exact BK268.out⟩, ⟨by repeat (first | (with_reducible first | exact HB.out | apply below_alloc | apply pw_below_drewN | apply below_drew1 | refine below_set ?_ GE254.out | refine below_set ?_ GE261.out | refine below_set ?_ GE268.out) | exact HB.out)⟩⟩
          · rw [if_neg c32] at H
            have c32b0 : (t267 == 0) = false := beq_eq_false_iff_ne.mpr c32
            have c32b1 : (t267 != 0) = true := bne_iff_ne.mpr c32
            have H' := Aside0.mk H
            clear H
            have hnb92 := NB261_254.out
            have hnc92 := NB254_261.out
            have hnb93 := NB261_268.out
            have hnc93 := NB268_261.out
            have hcz94_0 : w28.cell? ⟨gb261, 0, none⟩ = some (.int .i64 t258) := (blk_cell BK261.out 0).trans rfl
            have hcz94_1 : w28.cell? ⟨gb261, 1, none⟩ = some (.int .i64 t259) := (blk_cell BK261.out 1).trans rfl
            have hfz94_0 := blk_frozen BK261.out 0
            have hfz94_1 := blk_frozen BK261.out 1
            go_wp2
            (try any_goals (exfalso; have h_ := ‹some undef = some (Value.bool _)›; revert h_; simp [undef]; done))
            go_meet
            case rel => exact ⟨_, (false), (by first | rfl | (simp; done) | (simp [*]; done)), H', ⟨by first | omega | exact Nat.le_refl _⟩, ⟨by (with_reducible repeat (first | refine blk_drewN ?_ _ | refine blk_drew ?_ | refine blk_alloc ?_ _)); exact BK254.out⟩, ⟨by (with_reducible repeat (first | refine blk_drewN ?_ _ | refine blk_drew ?_ | refine blk_alloc ?_ _)); exact BK261.out⟩, ⟨by (with_reducible repeat (first | refine blk_drewN ?_ _ | refine blk_drew ?_ | refine blk_alloc ?_ _)); exact BK268.out⟩, ⟨by repeat (first | (with_reducible first | exact HB.out | apply below_alloc | apply pw_below_drewN | apply below_drew1 | refine below_set ?_ GE254.out | refine below_set ?_ GE261.out | refine below_set ?_ GE268.out) | exact HB.out)⟩⟩
        · rw [if_neg c31] at H
          have c31b0 : (t259 == 5) = false := beq_eq_false_iff_ne.mpr c31
          have c31b1 : (t259 != 5) = true := bne_iff_ne.mpr c31
          have H' := Aside0.mk H
          clear H
          have hnb95 := NB261_254.out
          have hnc95 := NB254_261.out
          have hnb96 := NB261_268.out
          have hnc96 := NB268_261.out
          have hcz97_0 : w28.cell? ⟨gb261, 0, none⟩ = some (.int .i64 t258) := (blk_cell BK261.out 0).trans rfl
          have hcz97_1 : w28.cell? ⟨gb261, 1, none⟩ = some (.int .i64 t259) := (blk_cell BK261.out 1).trans rfl
          have hfz97_0 := blk_frozen BK261.out 0
          have hfz97_1 := blk_frozen BK261.out 1
          go_wp2
          (try any_goals (exfalso; have h_ := ‹some undef = some (Value.bool _)›; revert h_; simp [undef]; done))
          go_meet
          case rel => exact ⟨_, (false), (by first | rfl | (simp; done) | (simp [*]; done)), H', ⟨by first | omega | exact Nat.le_refl _⟩, ⟨by (with_reducible repeat (first | refine blk_drewN ?_ _ | refine blk_drew ?_ | refine blk_alloc ?_ _)); exact BK254.out⟩, ⟨by (with_reducible repeat (first | refine blk_drewN ?_ _ | refine blk_drew ?_ | refine blk_alloc ?_ _)); exact BK261.out⟩, ⟨by (with_reducible repeat (first | refine blk_drewN ?_ _ | refine blk_drew ?_ | refine blk_alloc ?_ _)); exact BK268.out⟩, ⟨by repeat (first | (with_reducible first | exact HB.out | apply below_alloc | apply pw_below_drewN | apply below_drew1 | refine below_set ?_ GE254.out | refine below_set ?_ GE261.out | refine below_set ?_ GE268.out) | exact HB.out)⟩⟩
      · rw [if_neg c30] at H
        have c30b0 : (t258 == 1) = false := beq_eq_false_iff_ne.mpr c30
        have c30b1 : (t258 != 1) = true := bne_iff_ne.mpr c30
        have H' := Aside0.mk H
        clear H
        have hnb98 := NB261_254.out
        have hnc98 := NB254_261.out
        have hnb99 := NB261_268.out
        have hnc99 := NB268_261.out
        have hcz100_0 : w28.cell? ⟨gb261, 0, none⟩ = some (.int .i64 t258) := (blk_cell BK261.out 0).trans rfl
        have hcz100_1 : w28.cell? ⟨gb261, 1, none⟩ = some (.int .i64 t259) := (blk_cell BK261.out 1).trans rfl
        have hfz100_0 := blk_frozen BK261.out 0
        have hfz100_1 := blk_frozen BK261.out 1
        go_wp2
        (try any_goals (exfalso; have h_ := ‹some undef = some (Value.bool _)›; revert h_; simp [undef]; done))
        go_meet
        case rel => exact ⟨_, (false), (by first | rfl | (simp; done) | (simp [*]; done)), H', ⟨by first | omega | exact Nat.le_refl _⟩, ⟨by (with_reducible repeat (first | refine blk_drewN ?_ _ | refine blk_drew ?_ | refine blk_alloc ?_ _)); exact BK254.out⟩, ⟨by (with_reducible repeat (first | refine blk_drewN ?_ _ | refine blk_drew ?_ | refine blk_alloc ?_ _)); exact BK261.out⟩, ⟨by (with_reducible repeat (first | refine blk_drewN ?_ _ | refine blk_drew ?_ | refine blk_alloc ?_ _)); exact BK268.out⟩, ⟨by repeat (first | (with_reducible first | exact HB.out | apply below_alloc | apply pw_below_drewN | apply below_drew1 | refine below_set ?_ GE254.out | refine below_set ?_ GE261.out | refine below_set ?_ GE268.out) | exact HB.out)⟩⟩
    · rw [if_neg c29] at H
      have c29b0 : (t260 == 0) = false := beq_eq_false_iff_ne.mpr c29
      have c29b1 : (t260 != 0) = true := bne_iff_ne.mpr c29
      (first | rw [c29b0] | (simp only [i64_w, i32_w]; rw [c29b0]) | skip)
      have H' := Aside0.mk H
      clear H
      go_wp2
      (try any_goals (exfalso; have h_ := ‹some undef = some (Value.bool _)›; revert h_; simp [undef]; done))
      go_meet
      case rel => exact ⟨_, (false), (by first | rfl | (simp; done) | (simp [*]; done)), H', ⟨by first | omega | exact Nat.le_refl _⟩, ⟨by (with_reducible repeat (first | refine blk_drewN ?_ _ | refine blk_drew ?_ | refine blk_alloc ?_ _)); exact BK254.out⟩, ⟨by (with_reducible repeat (first | refine blk_drewN ?_ _ | refine blk_drew ?_ | refine blk_alloc ?_ _)); exact BK261.out⟩, ⟨by (with_reducible repeat (first | refine blk_drewN ?_ _ | refine blk_drew ?_ | refine blk_alloc ?_ _)); exact BK268.out⟩, ⟨by repeat (first | (with_reducible first | exact HB.out | apply below_alloc | apply pw_below_drewN | apply below_drew1 | refine below_set ?_ GE254.out | refine below_set ?_ GE261.out | refine below_set ?_ GE268.out) | exact HB.out)⟩⟩
  case rest =>
    clear HC5
    try clear c1
    try clear c2
    try clear p2
    try clear c3
    try clear c4
    try clear c5
    try clear c6
    try clear c7
    try clear c8
    try clear c9
    try clear c14
    try clear c22
    try clear c23
    try clear c24
    try clear c29
    try clear c29b0
    try clear c29b1
    try clear c30
    try clear c30b0
    try clear c30b1
    try clear c31
    try clear c31b0
    try clear c31b1
    try clear c32
    try clear c32b0
    try clear c32b1
    try clear c33
    try clear c33b0
    try clear c33b1
    try clear c34
    try clear c34b0
    try clear c34b1
    try clear c35
    try clear c35b0
    try clear c35b1
    try clear c37
    try clear c39
    try clear c40
    try clear c41
    try clear c43
    try clear c54
    try clear c55
    try clear c57
    try clear c68
    try clear c69
    try clear c71
    try clear c77
    try clear c78
    try clear c80
    try clear c82
    try clear c83
    try clear c85
    try clear c87
    try clear c88
    try clear c90
    try clear c92
    try clear c93
    try clear c95
    try clear c96
    try clear c98
    try clear c99
    try clear hcz100_0
    try clear hcz100_1
    try clear hcz15_0
    try clear hcz15_1
    try clear hcz16_0
    try clear hcz16_1
    try clear hcz16_2
    try clear hcz16_3
    try clear hcz16_4
    try clear hcz16_5
    try clear hcz16_6
    try clear hcz16_7
    try clear hcz16_8
    try clear hcz16_9
    try clear hcz24_0
    try clear hcz24_1
    try clear hcz42_0
    try clear hcz42_1
    try clear hcz44_0
    try clear hcz44_1
    try clear hcz56_0
    try clear hcz56_1
    try clear hcz58_0
    try clear hcz58_1
    try clear hcz70_0
    try clear hcz70_1
    try clear hcz72_0
    try clear hcz72_1
    try clear hcz79_0
    try clear hcz79_1
    try clear hcz81_0
    try clear hcz81_1
    try clear hcz84_0
    try clear hcz84_1
    try clear hcz86_0
    try clear hcz86_1
    try clear hcz89_0
    try clear hcz89_1
    try clear hcz8_0
    try clear hcz8_1
    try clear hcz8_2
    try clear hcz8_3
    try clear hcz8_4
    try clear hcz8_5
    try clear hcz8_6
    try clear hcz8_7
    try clear hcz8_8
    try clear hcz8_9
    try clear hcz91_0
    try clear hcz91_1
    try clear hcz94_0
    try clear hcz94_1
    try clear hcz97_0
    try clear hcz97_1
    try clear hfz100_0
    try clear hfz100_1
    try clear hfz15_0
    try clear hfz15_1
    try clear hfz16_0
    try clear hfz16_1
    try clear hfz16_2
    try clear hfz16_3
    try clear hfz16_4
    try clear hfz16_5
    try clear hfz16_6
    try clear hfz16_7
    try clear hfz16_8
    try clear hfz16_9
    try clear hfz24_0
    try clear hfz24_1
    try clear hfz42_0
    try clear hfz42_1
    try clear hfz44_0
    try clear hfz44_1
    try clear hfz56_0
    try clear hfz56_1
    try clear hfz58_0
    try clear hfz58_1
    try clear hfz70_0
    try clear hfz70_1
    try clear hfz72_0
    try clear hfz72_1
    try clear hfz79_0
    try clear hfz79_1
    try clear hfz81_0
    try clear hfz81_1
    try clear hfz84_0
    try clear hfz84_1
    try clear hfz86_0
    try clear hfz86_1
    try clear hfz89_0
    try clear hfz89_1
    try clear hfz8_0
    try clear hfz8_1
    try clear hfz8_2
    try clear hfz8_3
    try clear hfz8_4
    try clear hfz8_5
    try clear hfz8_6
    try clear hfz8_7
    try clear hfz8_8
    try clear hfz8_9
    try clear hfz91_0
    try clear hfz91_1
    try clear hfz94_0
    try clear hfz94_1
    try clear hfz97_0
    try clear hfz97_1
    obtain ⟨kq, x0_4, rfl, HA, HJ4, BK254, BK261, BK268, HB⟩ := hcut
    cases kq with
    | zero => exact absurd HA.out (by simp [parallaxlaw10_known.j0])
    | succ kj4 =>
      have H := HA.out
      clear HA
      simp only [parallaxlaw10_known.j0] at H
      obtain rfl := Option.some.inj H
      go_wp2
      (try any_goals (exfalso; have h_ := ‹some undef = some (Value.bool _)›; revert h_; simp [undef]; done))
      go_ret
      exact ⟨by first | rfl | (simp [errW_none, errW_some] <;> rfl) | (simp [*, errW_none, errW_some] <;> rfl), by repeat (first | (with_reducible first | exact HB.out | apply below_alloc | apply pw_below_drewN | apply below_drew1 | refine below_set ?_ GE254.out | refine below_set ?_ GE261.out | refine below_set ?_ GE268.out) | exact HB.out)⟩

end Go.Proofs.YtlheepfjdmhplaaDoor.PFramingClauses
