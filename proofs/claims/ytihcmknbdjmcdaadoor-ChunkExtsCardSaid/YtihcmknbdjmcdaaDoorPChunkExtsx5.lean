-- Written by a program of this session (wip/tools/myprint.sh)
import Derived.Test.YtihcmknbdjmcdaaDoorPChunkExtsx0
import Derived.Test.YtihcmknbdjmcdaaDoorPChunkExtsx3
import Derived.Test.YtihcmknbdjmcdaaDoorPChunkExtsx4
namespace Go.Proofs.YtihcmknbdjmcdaaDoor.PChunkExts
open Go.RowKit Go.Proofs.YtihcmknbdjmcdaaDoorW.PrintWords Go.Proofs.YtihcmknbdjmcdaaDoorW.PrintLast Go.Proofs.YtihcmknbdjmcdaaDoorW.PrintMore
attribute [local go_sem] max2_int min2_int max_two min_two max_three min_three max_four min_four   -- for this text's walks alone
set_option linter.unusedVariables false
set_option linter.unusedSimpArgs false

/-! ### parallaxlaw11_ChunkExts: function 6 -/
def parallaxlaw11_ChunkExts.l0 : Nat → Int → List Int → ByteArray → Int → Int → Int → Int → Int → Int → Int → Int → Int → Bool → Bool → Option (Bool)
  | 0, _, _, _, _, _, _, _, _, _, _, _, _, _, _ => none
  | k + 1, x0, x1, x8, x9, x203000, x203001, x203002, x203003, x203004, x203005, x203006, x203007, x203008, x203009 => if x9 < (x1.length : Int) then (if 0 ≤ x9 then (if 0 ≤ (Int.tmod (rd x1 x9) 8) then (if (Int.tmod (rd x1 x9) 8) < 8 then ((some (([bt (⟨#[97, 98, 61, 59, 44, 32, 9, 128]⟩ : ByteArray) (Int.tmod (rd x1 x9) 8)] : List Int) : List Int)).bind fun y204 => (if x8.size + (strOfNums y204).size ≤ 9223372036854775807 then (parallaxlaw11_ChunkExts.l0 k x0 x1 (x8 ++ (strOfNums y204)) (wrap64 (x9 + 1)) x203000 x203001 x203002 x203003 x203004 x203005 x203006 x203007 x203008 x203009) else (none))) else (none)) else (none)) else (none)) else ((parallaxref1_PutHex.f k (wrap64 (x0))).bind fun t207 => (if t207.size + 1 ≤ 9223372036854775807 then (if (t207 ++ (⟨#[59]⟩ : ByteArray)).size + x8.size ≤ 9223372036854775807 then ((chunk_Size.f k ((t207 ++ (⟨#[59]⟩ : ByteArray)) ++ x8) 0 x203000 x203001 x203002 x203003 x203004 x203005 x203006 x203007 x203008 x203009).bind fun bt208 => ((parallaxref1_PutHex.f k (wrap64 (x0))).bind fun t210 => (if t210.size + 2 ≤ 9223372036854775807 then ((parallaxref4_Usual.f).bind fun bt211 => ((chunk_Size.f k (t210 ++ (⟨#[59, 1]⟩ : ByteArray)) 0 bt211.1 bt211.2.1 bt211.2.2.1 bt211.2.2.2.1 bt211.2.2.2.2.1 bt211.2.2.2.2.2.1 bt211.2.2.2.2.2.2.1 bt211.2.2.2.2.2.2.2.1 bt211.2.2.2.2.2.2.2.2.1 bt211.2.2.2.2.2.2.2.2.2).bind fun bt221 => (if (wrap64 ((x8.size : Int) + 1)) > x203004 then (if bt208.2 = 400 then (some (bt221.2 == 400)) else (some false)) else (if bt208.2 = 0 then (if bt208.1 = (wrap64 (x0)) then (some (bt221.2 == 400)) else (some false)) else (some false))))) else (none)))) else (none)) else (none)))
def parallaxlaw11_ChunkExts.f (k : Nat) (a0 : Int) (l1 : List Int) (a2 : Int) : Option (Bool) := (parallaxlaw11_known.f k).bind fun t191 => (if t191 = true then (if (l1.length : Int) > 60 then (some true) else ((parallaxref4_Usual.f).bind fun bt192 => (parallaxlaw11_ChunkExts.l0 k a0 l1 (⟨#[]⟩ : ByteArray) 0 bt192.1 bt192.2.1 bt192.2.2.1 bt192.2.2.2.1 (wrap64 (Int.tmod a2 60)) bt192.2.2.2.2.2.1 bt192.2.2.2.2.2.2.1 bt192.2.2.2.2.2.2.2.1 bt192.2.2.2.2.2.2.2.2.1 bt192.2.2.2.2.2.2.2.2.2))) else (some false))
theorem parallaxlaw11_ChunkExts.mono_l : ∀ k, (∀ y0 y1 y2 y3 y4 y5 y6 y7 y8 y9 y10 y11 y12 y13, LeO (parallaxlaw11_ChunkExts.l0 k y0 y1 y2 y3 y4 y5 y6 y7 y8 y9 y10 y11 y12 y13) (parallaxlaw11_ChunkExts.l0 (k + 1) y0 y1 y2 y3 y4 y5 y6 y7 y8 y9 y10 y11 y12 y13))
  | 0 => fun _ _ _ _ _ _ _ _ _ _ _ _ _ _ r h => by simp [parallaxlaw11_ChunkExts.l0] at h
  | k + 1 => by
    have ih0 := parallaxlaw11_ChunkExts.mono_l k
    · intro y0 y1 y2 y3 y4 y5 y6 y7 y8 y9 y10 y11 y12 y13
      unfold parallaxlaw11_ChunkExts.l0
      repeat' first
      | (with_reducible exact ih0 _ _ _ _ _ _ _ _ _ _ _ _ _ _)
      | (with_reducible exact chunk_Size.mono _ _ _ _ _ _ _ _ _ _ _ _ _)
      | (with_reducible exact parallaxlaw11_known.mono _)
      | (with_reducible exact parallaxref1_PutHex.mono _ _)
      | (with_reducible exact LeO.refl _)
      | (with_reducible exact LeO.none _)
      | (with_reducible refine LeO.ite ?_ ?_)
      | (with_reducible refine LeO.bind ?_ (fun _ => ?_))
      | exact ih0 _ _ _ _ _ _ _ _ _ _ _ _ _ _
      | exact chunk_Size.mono _ _ _ _ _ _ _ _ _ _ _ _ _
      | exact parallaxlaw11_known.mono _
      | exact parallaxref1_PutHex.mono _ _
      | exact LeO.none _
      | refine LeO.ite ?_ ?_
      | refine LeO.bind ?_ (fun _ => ?_)
theorem parallaxlaw11_ChunkExts.mono : ∀ a0 a1 a2 k, LeO (parallaxlaw11_ChunkExts.f k a0 a1 a2) (parallaxlaw11_ChunkExts.f (k + 1) a0 a1 a2) := by
  intro a0 a1 a2 k
  have ih0 := parallaxlaw11_ChunkExts.mono_l k
  unfold parallaxlaw11_ChunkExts.f
  repeat' first
      | (with_reducible exact ih0 _ _ _ _ _ _ _ _ _ _ _ _ _ _)
      | (with_reducible exact chunk_Size.mono _ _ _ _ _ _ _ _ _ _ _ _ _)
      | (with_reducible exact parallaxlaw11_known.mono _)
      | (with_reducible exact parallaxref1_PutHex.mono _ _)
      | (with_reducible exact LeO.refl _)
      | (with_reducible exact LeO.none _)
      | (with_reducible refine LeO.ite ?_ ?_)
      | (with_reducible refine LeO.bind ?_ (fun _ => ?_))
      | exact ih0 _ _ _ _ _ _ _ _ _ _ _ _ _ _
      | exact chunk_Size.mono _ _ _ _ _ _ _ _ _ _ _ _ _
      | exact parallaxlaw11_known.mono _
      | exact parallaxref1_PutHex.mono _ _
      | exact LeO.none _
      | refine LeO.ite ?_ ?_
      | refine LeO.bind ?_ (fun _ => ?_)
def parallaxlaw11_ChunkExts.T12 : Bool × List (List Nat × List Nat) := (true, [([], []), ([0], [0]), ([1], [1]), ([2], [2]), ([], []), ([3, 4], [3, 4]), ([], []), ([5, 6, 2], [5, 6]), ([7], [7]), ([8], [8]), ([8], [8]), ([9, 7, 0, 1, 2, 3, 4, 5, 6, 7, 8, 9], [9]), ([10, 11, 0, 1, 2, 3, 4, 5, 6, 7, 8, 9, 10, 11], [10])])
def parallaxlaw11_ChunkExts.B12 : List Nat := [0, 1, 3, 7, 0, 31, 0, 127, 255, 511, 511, 1023, 4095]
theorem parallaxlaw11_ChunkExts.tab12 : rtab .any (opsOf Tryd.f6 12) = parallaxlaw11_ChunkExts.T12 := by kernel_rfl
theorem parallaxlaw11_ChunkExts.bits12 : waitsOk parallaxlaw11_ChunkExts.T12.2 parallaxlaw11_ChunkExts.B12 = true := by kernel_rfl
set_option maxHeartbeats 8000000 in
set_option maxRecDepth 100000 in
theorem parallaxlaw11_ChunkExts.calls (k : Nat) (a0 : Int) (A1 : Option Addr) (c1 : Nat) (l1 : List Int) (a2 : Int) (r : Bool) (w : World) (hr1 : Kd.C (Kd.int .u8) w A1 l1.length l1) (hc1 : l1.length ≤ c1) (hq0 : (Lit.int .u16 a0).wf = true) (hq2 : (Lit.int .u8 a2).wf = true) (hT : r = true) (hL : Laid.LaidX w) (h : parallaxlaw11_ChunkExts.f k a0 l1 a2 = some r) :
    Calls Tryd.prog 6 #[.int .u16 a0, .slice A1 l1.length c1, .int .u8 a2] w fun e w' => e = .returned (.bool r) ∧ Below w.heap.size w w' := by
  have hu29 := Tryd.underlying29
  have HQ0 := Aside0.mk hq0
  clear hq0
  have HQ2 := Aside0.mk hq2
  clear hq2
  have HT := Aside0.mk hT
  clear hT
  have HR1 := Aside0.mk hr1
  have HC1 := Aside0.mk hc1
  clear hr1 hc1
  have HB := Aside0.mk (Below.refl w.heap.size w)
  have HLX := Aside0.mk hL
  clear hL
  have H : ((parallaxlaw11_known.f k).bind fun t191 => (if t191 = true then (if (l1.length : Int) > 60 then (some true) else ((parallaxref4_Usual.f).bind fun bt192 => (parallaxlaw11_ChunkExts.l0 k a0 l1 (⟨#[]⟩ : ByteArray) 0 bt192.1 bt192.2.1 bt192.2.2.1 bt192.2.2.2.1 (wrap64 (Int.tmod a2 60)) bt192.2.2.2.2.2.1 bt192.2.2.2.2.2.2.1 bt192.2.2.2.2.2.2.2.1 bt192.2.2.2.2.2.2.2.2.1 bt192.2.2.2.2.2.2.2.2.2))) else (some false))) = some r := h
  clear h
  replace H := Option.bind_eq_some_iff.mp H
  obtain ⟨t191, A40, H⟩ := H
  (try dsimp only at H)
  have A4 := Aside0.mk A40
  clear A40
  by_cases c5 : t191 = true
  · subst c5
    rw [if_pos rfl] at H
    by_cases c6 : (l1.length : Int) > 60
    · rw [if_pos c6] at H
      have c6b0 : decide (60 < (l1.length : Int)) = true := decide_eq_true c6
      have c6b1 : decide (60 < l1.length) = true := decide_eq_true (by omega)
      clear c6
      obtain rfl := Option.some.inj H
      go_enter Tryd.func6, Tryd.ntmps6
      go_wp2_with (first | ((with_reducible refine gate_callee (f := 7) rfl ?_); refine goesL_ (some 14) rfl rfl Tryd.func7 (by kernel_rfl) rfl #[] rfl (by (try simp only [List.map_toArray, List.map_cons, List.map_nil]); first | done | rfl | (simp only [List.length_drop, List.length_take]; rfl)) ?_; (with_reducible refine (parallaxlaw11_known.calls k  true _ ?side1 A4.out).mono ?_); (case side1 => exact Laid.below HLX.out (by repeat (first | (with_reducible first | exact HB.out | apply below_alloc | apply pw_below_drewN | apply below_drew1) | exact HB.out))); rintro e w7 ⟨rfl, hb⟩; refine ⟨_, rfl, ?_⟩; have n0_ := Aside0.mk (below_step (by repeat (first | (with_reducible first | exact HB.out | apply below_alloc | apply pw_below_drewN | apply below_drew1) | exact HB.out)) hb); clear HB; have HB := n0_; clear n0_; (try clear hb); (try clear hb2); (try clear hk); (try clear hi)) | (go_at_call 7; (with_reducible refine (parallaxlaw11_known.calls k  true _ ?side1 A4.out).mono ?_); (case side1 => exact Laid.below HLX.out (by repeat (first | (with_reducible first | exact HB.out | apply below_alloc | apply pw_below_drewN | apply below_drew1) | exact HB.out))); rintro e w7 ⟨rfl, hb⟩; have n0_ := Aside0.mk (below_step (by repeat (first | (with_reducible first | exact HB.out | apply below_alloc | apply pw_below_drewN | apply below_drew1) | exact HB.out)) hb); clear HB; have HB := n0_; clear n0_; (try clear hb); (try clear hb2); (try clear hk); (try clear hi)))
      go_ret
      exact ⟨by first | rfl | (simp [errW_none, errW_some] <;> rfl) | (simp [*, errW_none, errW_some] <;> rfl), by repeat (first | (with_reducible first | exact HB.out | apply below_alloc | apply pw_below_drewN | apply below_drew1) | exact HB.out)⟩
    · rw [if_neg c6] at H
      have c6b0 : decide (60 < (l1.length : Int)) = false := decide_eq_false c6
      have c6b1 : decide (60 < l1.length) = false := decide_eq_false (by omega)
      clear c6
      replace H := Option.bind_eq_some_iff.mp H
      obtain ⟨⟨t192, t193, t194, t195, t196, t197, t198, t199, t200, t201⟩, A80, H⟩ := H
      (try dsimp only at H)
      have A8 := Aside0.mk A80
      clear A80
      have H' := Aside0.mk H
      clear H
      go_enter Tryd.func6, Tryd.ntmps6
      go_wp2_with (first | ((with_reducible refine gate_callee (f := 7) rfl ?_); refine goesL_ (some 14) rfl rfl Tryd.func7 (by kernel_rfl) rfl #[] rfl (by (try simp only [List.map_toArray, List.map_cons, List.map_nil]); first | done | rfl | (simp only [List.length_drop, List.length_take]; rfl)) ?_; (with_reducible refine (parallaxlaw11_known.calls k  true _ ?side1 A4.out).mono ?_); (case side1 => exact Laid.below HLX.out (by repeat (first | (with_reducible first | exact HB.out | apply below_alloc | apply pw_below_drewN | apply below_drew1) | exact HB.out))); rintro e w9 ⟨rfl, hb⟩; refine ⟨_, rfl, ?_⟩; have n0_ := Aside0.mk (below_step (by repeat (first | (with_reducible first | exact HB.out | apply below_alloc | apply pw_below_drewN | apply below_drew1) | exact HB.out)) hb); clear HB; have HB := n0_; clear n0_; (try clear hb); (try clear hb2); (try clear hk); (try clear hi)) | ((with_reducible refine gate_callee (f := 17) rfl ?_); refine goesL_ (some 19) rfl rfl Tryd.func17 (by kernel_rfl) rfl #[] rfl (by (try simp only [List.map_toArray, List.map_cons, List.map_nil]); first | done | rfl | (simp only [List.length_drop, List.length_take]; rfl)) ?_; (with_reducible refine (parallaxref4_Usual.calls  t192 t193 t194 t195 t196 t197 t198 t199 t200 t201 _ A8.out).mono ?_); rintro e w10 ⟨rfl, hb⟩; refine ⟨_, rfl, ?_⟩; have n0_ := Aside0.mk (below_step (by repeat (first | (with_reducible first | exact HB.out | apply below_alloc | apply pw_below_drewN | apply below_drew1) | exact HB.out)) hb); clear HB; have HB := n0_; clear n0_; (try clear hb); (try clear hb2); (try clear hk); (try clear hi)) | ((with_reducible refine gate_dst (N := 7) rfl ?_); refine box_event ?hg (N := 7) ?hd (cs := #[.int .i64 0, .int .i64 0, .int .i64 0, .int .i64 0, .int .i64 0, .int .i64 0, .int .i64 0, .int .i64 0, .bool false, .bool false]) (t := 29) ?hr ?_; (case hd => rfl); (case hg => rfl); (case hr => first | (go_simp; done) | (go_simp; rfl)); intro gb202 hg w11 hbox hb; have n0_ := Aside0.mk (below_step (by repeat (first | (with_reducible first | exact HB.out | apply below_alloc | apply pw_below_drewN | apply below_drew1) | exact HB.out)) hb); have n1_ := Aside0.mk (hbox); have n2_ := Aside0.mk ((by rw [hg]; exact (below_size (by repeat (first | (with_reducible first | exact HB.out | apply below_alloc | apply pw_below_drewN | apply below_drew1) | exact HB.out))) : w.heap.size ≤ gb202)); have n3_ := Aside0.mk ((by rw [hg]; exact (below_size (by repeat (first | (with_reducible first | exact HB.out | apply below_alloc | apply pw_below_drewN | apply below_drew1) | exact HB.out))) : w.heap.size ≤ gb202)); clear HB; have HB := n0_; have BK202 := n1_; have GW202 := n2_; have GE202 := n3_; clear n0_ n1_ n2_ n3_; clear hb hbox hg; have hcz12_0 : w11.cell? ⟨gb202, 0, none⟩ = some (.int .i64 0) := (blk_cell BK202.out 0).trans rfl; have hcz12_1 : w11.cell? ⟨gb202, 1, none⟩ = some (.int .i64 0) := (blk_cell BK202.out 1).trans rfl; have hcz12_2 : w11.cell? ⟨gb202, 2, none⟩ = some (.int .i64 0) := (blk_cell BK202.out 2).trans rfl; have hcz12_3 : w11.cell? ⟨gb202, 3, none⟩ = some (.int .i64 0) := (blk_cell BK202.out 3).trans rfl; have hcz12_4 : w11.cell? ⟨gb202, 4, none⟩ = some (.int .i64 0) := (blk_cell BK202.out 4).trans rfl; have hcz12_5 : w11.cell? ⟨gb202, 5, none⟩ = some (.int .i64 0) := (blk_cell BK202.out 5).trans rfl; have hcz12_6 : w11.cell? ⟨gb202, 6, none⟩ = some (.int .i64 0) := (blk_cell BK202.out 6).trans rfl; have hcz12_7 : w11.cell? ⟨gb202, 7, none⟩ = some (.int .i64 0) := (blk_cell BK202.out 7).trans rfl; have hcz12_8 : w11.cell? ⟨gb202, 8, none⟩ = some (.bool false) := (blk_cell BK202.out 8).trans rfl; have hcz12_9 : w11.cell? ⟨gb202, 9, none⟩ = some (.bool false) := (blk_cell BK202.out 9).trans rfl; have hfz12_0 := blk_frozen BK202.out 0; have hfz12_1 := blk_frozen BK202.out 1; have hfz12_2 := blk_frozen BK202.out 2; have hfz12_3 := blk_frozen BK202.out 3; have hfz12_4 := blk_frozen BK202.out 4; have hfz12_5 := blk_frozen BK202.out 5; have hfz12_6 := blk_frozen BK202.out 6; have hfz12_7 := blk_frozen BK202.out 7; have hfz12_8 := blk_frozen BK202.out 8; have hfz12_9 := blk_frozen BK202.out 9) | (go_at_call 7; (with_reducible refine (parallaxlaw11_known.calls k  true _ ?side1 A4.out).mono ?_); (case side1 => exact Laid.below HLX.out (by repeat (first | (with_reducible first | exact HB.out | apply below_alloc | apply pw_below_drewN | apply below_drew1) | exact HB.out))); rintro e w9 ⟨rfl, hb⟩; have n0_ := Aside0.mk (below_step (by repeat (first | (with_reducible first | exact HB.out | apply below_alloc | apply pw_below_drewN | apply below_drew1) | exact HB.out)) hb); clear HB; have HB := n0_; clear n0_; (try clear hb); (try clear hb2); (try clear hk); (try clear hi)) | (go_at_call 17; (with_reducible refine (parallaxref4_Usual.calls  t192 t193 t194 t195 t196 t197 t198 t199 t200 t201 _ A8.out).mono ?_); rintro e w10 ⟨rfl, hb⟩; have n0_ := Aside0.mk (below_step (by repeat (first | (with_reducible first | exact HB.out | apply below_alloc | apply pw_below_drewN | apply below_drew1) | exact HB.out)) hb); clear HB; have HB := n0_; clear n0_; (try clear hb); (try clear hb2); (try clear hk); (try clear hi)))
      go_loopg [8, 9] k (fun kq v8 v9 w' => ∃ (x8_1 : ByteArray) (x9_1 : Int), v8 = .string x8_1 ∧ v9 = .int .i64 x9_1 ∧ Aside0 (parallaxlaw11_ChunkExts.l0 kq a0 l1 x8_1 x9_1 t192 t193 t194 t195 (wrap64 (Int.tmod a2 60)) t197 t198 t199 t200 t201 = some r) ∧ Aside0 (kq ≤ k) ∧ Aside0 (w'.heap[gb202]? = some (.cells #[.int .i64 t192, .int .i64 t193, .int .i64 t194, .int .i64 t195, .int .i64 (wrap64 (Int.tmod a2 60)), .int .i64 t197, .int .i64 t198, .int .i64 t199, .bool t200, .bool t201] 29 (0, 0))) ∧ Aside0 (Below w.heap.size w w'))
      case atStart => exact ⟨((⟨#[]⟩ : ByteArray)), (0), (by first | rfl | (simp; done) | (simp [*]; done)), (by first | rfl | (simp; done) | (simp [*]; done)), H', ⟨Nat.le_refl _⟩, ⟨by (with_reducible repeat (first | refine blk_drewN ?_ _ | refine blk_drew ?_ | refine blk_alloc ?_ _)); refine blk_put (cs := #[.int .i64 t192, .int .i64 t193, .int .i64 t194, .int .i64 t195, .int .i64 t196, .int .i64 t197, .int .i64 t198, .int .i64 t199, .bool t200, .bool t201]) ?_ 4 _ rfl; (with_reducible repeat (first | refine blk_drewN ?_ _ | refine blk_drew ?_ | refine blk_alloc ?_ _)); refine blk_put (cs := #[.int .i64 t192, .int .i64 t193, .int .i64 t194, .int .i64 t195, .int .i64 t196, .int .i64 t197, .int .i64 t198, .int .i64 t199, .bool t200, .bool false]) ?_ 9 _ rfl; (with_reducible repeat (first | refine blk_drewN ?_ _ | refine blk_drew ?_ | refine blk_alloc ?_ _)); refine blk_put (cs := #[.int .i64 t192, .int .i64 t193, .int .i64 t194, .int .i64 t195, .int .i64 t196, .int .i64 t197, .int .i64 t198, .int .i64 t199, .bool false, .bool false]) ?_ 8 _ rfl; (with_reducible repeat (first | refine blk_drewN ?_ _ | refine blk_drew ?_ | refine blk_alloc ?_ _)); refine blk_put (cs := #[.int .i64 t192, .int .i64 t193, .int .i64 t194, .int .i64 t195, .int .i64 t196, .int .i64 t197, .int .i64 t198, .int .i64 0, .bool false, .bool false]) ?_ 7 _ rfl; (with_reducible repeat (first | refine blk_drewN ?_ _ | refine blk_drew ?_ | refine blk_alloc ?_ _)); refine blk_put (cs := #[.int .i64 t192, .int .i64 t193, .int .i64 t194, .int .i64 t195, .int .i64 t196, .int .i64 t197, .int .i64 0, .int .i64 0, .bool false, .bool false]) ?_ 6 _ rfl; (with_reducible repeat (first | refine blk_drewN ?_ _ | refine blk_drew ?_ | refine blk_alloc ?_ _)); refine blk_put (cs := #[.int .i64 t192, .int .i64 t193, .int .i64 t194, .int .i64 t195, .int .i64 t196, .int .i64 0, .int .i64 0, .int .i64 0, .bool false, .bool false]) ?_ 5 _ rfl; (with_reducible repeat (first | refine blk_drewN ?_ _ | refine blk_drew ?_ | refine blk_alloc ?_ _)); refine blk_put (cs := #[.int .i64 t192, .int .i64 t193, .int .i64 t194, .int .i64 t195, .int .i64 0, .int .i64 0, .int .i64 0, .int .i64 0, .bool false, .bool false]) ?_ 4 _ rfl; (with_reducible repeat (first | refine blk_drewN ?_ _ | refine blk_drew ?_ | refine blk_alloc ?_ _)); refine blk_put (cs := #[.int .i64 t192, .int .i64 t193, .int .i64 t194, .int .i64 0, .int .i64 0, .int .i64 0, .int .i64 0, .int .i64 0, .bool false, .bool false]) ?_ 3 _ rfl; (with_reducible repeat (first | refine blk_drewN ?_ _ | refine blk_drew ?_ | refine blk_alloc ?_ _)); refine blk_put (cs := #[.int .i64 t192, .int .i64 t193, .int .i64 0, .int .i64 0, .int .i64 0, .int .i64 0, .int .i64 0, .int .i64 0, .bool false, .bool false]) ?_ 2 _ rfl; (with_reducible repeat (first | refine blk_drewN ?_ _ | refine blk_drew ?_ | refine blk_alloc ?_ _)); refine blk_put (cs := #[.int .i64 t192, .int .i64 0, .int .i64 0, .int .i64 0, .int .i64 0, .int .i64 0, .int .i64 0, .int .i64 0, .bool false, .bool false]) ?_ 1 _ rfl; (with_reducible repeat (first | refine blk_drewN ?_ _ | refine blk_drew ?_ | refine blk_alloc ?_ _)); refine blk_put (cs := #[.int .i64 0, .int .i64 0, .int .i64 0, .int .i64 0, .int .i64 0, .int .i64 0, .int .i64 0, .int .i64 0, .bool false, .bool false]) ?_ 0 _ rfl; (with_reducible repeat (first | refine blk_drewN ?_ _ | refine blk_drew ?_ | refine blk_alloc ?_ _)); exact BK202.out⟩, ⟨by repeat (first | (with_reducible first | exact HB.out | apply below_alloc | apply pw_below_drewN | apply below_drew1 | refine below_set ?_ GE202.out) | exact HB.out)⟩⟩
      case round =>
        clear H'
        try clear c1
        try clear p2
        try clear q2
        try clear c5
        try clear c6
        try clear c6b0
        try clear c6b1
        try clear p6
        try clear c7
        try clear hcz12_0
        try clear hcz12_1
        try clear hcz12_2
        try clear hcz12_3
        try clear hcz12_4
        try clear hcz12_5
        try clear hcz12_6
        try clear hcz12_7
        try clear hcz12_8
        try clear hcz12_9
        try clear hfz12_0
        try clear hfz12_1
        try clear hfz12_2
        try clear hfz12_3
        try clear hfz12_4
        try clear hfz12_5
        try clear hfz12_6
        try clear hfz12_7
        try clear hfz12_8
        try clear hfz12_9
        obtain ⟨x8_1, x9_1, rfl, rfl, HA, HK1, BK202, HB⟩ := hrel
        cases gk with
        | zero => exact absurd HA.out (by simp [parallaxlaw11_ChunkExts.l0])
        | succ k1 =>
          have H := HA.out
          clear HA
          simp only [parallaxlaw11_ChunkExts.l0] at H
          by_cases c13 : x9_1 < (l1.length : Int)
          · rw [if_pos c13] at H
            have c13b0 : decide (x9_1 < (l1.length : Int)) = true := decide_eq_true c13
            clear c13
            by_cases c14 : 0 ≤ x9_1
            · rw [if_pos c14] at H
              have c14b0 : decide (0 ≤ x9_1) = true := decide_eq_true c14
              clear c14
              obtain ⟨ji15, hji15⟩ : ∃ j_ : Int, (Int.tmod (rd l1 x9_1) 8) = j_ := ⟨_, rfl⟩
              replace H : (if 0 ≤ (ji15) then (if (ji15) < 8 then ((some (([bt (⟨#[97, 98, 61, 59, 44, 32, 9, 128]⟩ : ByteArray) (ji15)] : List Int) : List Int)).bind fun y204 => (if x8_1.size + (strOfNums y204).size ≤ 9223372036854775807 then (parallaxlaw11_ChunkExts.l0 k1 a0 l1 (x8_1 ++ (strOfNums y204)) (wrap64 (x9_1 + 1)) t192 t193 t194 t195 (wrap64 (Int.tmod a2 60)) t197 t198 t199 t200 t201) else (none))) else (none)) else (none)) = some r := by first | (rw [hji15] at H; exact H) | (simp only [hji15] at H ⊢; exact H)
              by_cases c16 : 0 ≤ (ji15)
              · rw [if_pos c16] at H
                have c16b0 : decide (0 ≤ (ji15)) = true := decide_eq_true c16
                clear c16
                by_cases c17 : (ji15) < 8
                · rw [if_pos c17] at H
                  have c17b0 : decide ((ji15) < 8) = true := decide_eq_true c17
                  clear c17
                  obtain ⟨y204, hy204⟩ : ∃ y_ : List Int, y_ = (([bt (⟨#[97, 98, 61, 59, 44, 32, 9, 128]⟩ : ByteArray) (ji15)] : List Int)) := ⟨_, rfl⟩
                  replace H : (if x8_1.size + (strOfNums y204).size ≤ 9223372036854775807 then (parallaxlaw11_ChunkExts.l0 k1 a0 l1 (x8_1 ++ (strOfNums y204)) (wrap64 (x9_1 + 1)) t192 t193 t194 t195 (wrap64 (Int.tmod a2 60)) t197 t198 t199 t200 t201) else (none)) = some r := by first | (rw [hy204]; with_reducible exact H) | (have H2_ := (Option.bind_some _ _).symm.trans H; rw [hy204]; with_reducible exact H2_) | (have H2_ := (Option.bind_some _ _).symm.trans H; with_reducible exact H2_) | with_reducible exact H | (rw [hy204]; exact H) | exact H
                  have Ny204 := Aside0.mk hy204
                  clear hy204
                  by_cases c19 : x8_1.size + (strOfNums y204).size ≤ 9223372036854775807
                  · rw [if_pos c19] at H
                    have c19b0 := eq_true c19
                    have c19b1 : decide (x8_1.size + (strOfNums y204).size ≤ 9223372036854775807) = true := decide_eq_true c19
                    try have c19b2 : (9223372036854775807 < x8_1.size + (strOfNums y204).size) = False := eq_false (Nat.not_lt.2 c19)
                    have H' := Aside0.mk H
                    clear H
                    have p203 : 0 ≤ (x9_1 : Int) := of_decide_eq_true (by first | (with_reducible assumption) | assumption)
                    have q203 : x9_1 < (l1.length : Int) := of_decide_eq_true (by first | (with_reducible assumption) | assumption)
                    obtain ⟨ad203, e203, hx203_0⟩ := Kd.at_int HR1.out x9_1 p203 q203
                    cases e203
                    replace hx203_0 := (HB.out.cell (World.block_lt_of_cell? w _ hx203_0)).trans hx203_0
                    replace p203 := eq_true p203
                    replace q203 := eq_true q203
                    have p18 : 0 ≤ ((ji15) : Int) := of_decide_eq_true (by first | (with_reducible assumption) | assumption)
                    have q18 : (ji15) < (8 : Int) := of_decide_eq_true (by first | (with_reducible assumption) | assumption)
                    have hx18 := bt_at (⟨#[97, 98, 61, 59, 44, 32, 9, 128]⟩ : ByteArray) (ji15)
                    replace p18 := eq_true p18
                    replace q18 := eq_true q18
                    go_wp2_with (first | ((with_reducible refine gate_dst (N := 37) rfl ?_); refine Kd.R_lit (Kd.int .u8) _ 5 ?hg (N := 37) ?hd (xs := ([bt (⟨#[97, 98, 61, 59, 44, 32, 9, 128]⟩ : ByteArray) (ji15)] : List Int)) (inner := [.int .u8 (bt (⟨#[97, 98, 61, 59, 44, 32, 9, 128]⟩ : ByteArray) (ji15))]) (ok := fun _ => True) (okp := fun _ => True) ?hr ?hp (fun _ hk => hk) trivial (Below.refl _ _) (Nat.le_refl _) (by simp) ?_; (case hd => rfl); (case hg => rfl); (case hr => first | (go_simp; done) | (go_simp; rfl)); (case hp => exact (Reps.one (show Kd.M (Kd.int .u8) _ _ _ (bt (⟨#[97, 98, 61, 59, 44, 32, 9, 128]⟩ : ByteArray) (ji15)) [.int .u8 (bt (⟨#[97, 98, 61, 59, 44, 32, 9, 128]⟩ : ByteArray) (ji15))] from rfl) (Reps.none _ _))); intro v205 w20 ho21 hb hg_ hnew_; clear hg_ hnew_; (first | rw [← Ny204.out] at ho21 | (simp only [Int.reduceToNat] at ho21; rw [← Ny204.out] at ho21)); have n0_ := Aside0.mk (Kd.R_lower ho21 (below_size (by repeat (first | (with_reducible first | exact HB.out | apply below_alloc | apply pw_below_drewN | apply below_drew1 | refine below_set ?_ GE202.out) | exact HB.out)))); have n1_ := Aside0.mk (blk_below (g := gb202) (o := .cells #[.int .i64 t192, .int .i64 t193, .int .i64 t194, .int .i64 t195, .int .i64 (wrap64 (Int.tmod a2 60)), .int .i64 t197, .int .i64 t198, .int .i64 t199, .bool t200, .bool t201] 29 (0, 0)) (by (with_reducible repeat (first | refine blk_drewN ?_ _ | refine blk_drew ?_ | refine blk_alloc ?_ _)); exact BK202.out) hb); have n2_ := Aside0.mk (below_step (by repeat (first | (with_reducible first | exact HB.out | apply below_alloc | apply pw_below_drewN | apply below_drew1 | refine below_set ?_ GE202.out) | exact HB.out)) hb); clear BK202; clear HB; have HO206 := n0_; have BK202 := n1_; have HB := n2_; clear n0_ n1_ n2_; clear hb ho21; have hcv22 := own_string (P := Tryd.prog) Tryd.underlying22 Tryd.underlying5 Tryd.underlying9 (Kd.own_of_R HO206.out)))
                    go_roundg k1
                    case measure => have := HK1.out; omega
                    case rel => exact ⟨(x8_1 ++ (strOfNums y204)), (wrap64 (x9_1 + 1)), (by first | rfl | (simp; done) | (simp [*]; done)), (by first | rfl | (simp; done) | (simp [*]; done)), H', ⟨by have := HK1.out; omega⟩, ⟨by (with_reducible repeat (first | refine blk_drewN ?_ _ | refine blk_drew ?_ | refine blk_alloc ?_ _)); exact BK202.out⟩, ⟨by repeat (first | (with_reducible first | exact HB.out | apply below_alloc | apply pw_below_drewN | apply below_drew1 | refine below_set ?_ GE202.out) | exact HB.out)⟩⟩
                  · rw [if_neg c19] at H
                    exact absurd H (by simp)
                · rw [if_neg c17] at H
                  exact absurd H (by simp)
              · rw [if_neg c16] at H
                exact absurd H (by simp)
            · rw [if_neg c14] at H
              exact absurd H (by simp)
          · rw [if_neg c13] at H
            have c13b0 : decide (x9_1 < (l1.length : Int)) = false := decide_eq_false c13
            clear c13
            replace H := Option.bind_eq_some_iff.mp H
            obtain ⟨t207, A230, H⟩ := H
            (try dsimp only at H)
            have A23 := Aside0.mk A230
            clear A230
            by_cases c24 : t207.size + 1 ≤ 9223372036854775807
            · rw [if_pos c24] at H
              have c24b0 := eq_true c24
              have c24b1 : decide (t207.size + 1 ≤ 9223372036854775807) = true := decide_eq_true c24
              try have c24b2 : (9223372036854775807 < t207.size + 1) = False := eq_false (Nat.not_lt.2 c24)
              by_cases c25 : (t207 ++ (⟨#[59]⟩ : ByteArray)).size + x8_1.size ≤ 9223372036854775807
              · rw [if_pos c25] at H
                have c25b0 := eq_true c25
                have c25b1 : decide ((t207 ++ (⟨#[59]⟩ : ByteArray)).size + x8_1.size ≤ 9223372036854775807) = true := decide_eq_true c25
                try have c25b2 : (9223372036854775807 < (t207 ++ (⟨#[59]⟩ : ByteArray)).size + x8_1.size) = False := eq_false (Nat.not_lt.2 c25)
                (try (have c25b3 : (9223372036854775807 < t207.size + 1 + x8_1.size) = False := eq_false (by have h_ := c25; simp only [ByteArray.size_append] at h_; exact Nat.not_lt.mpr h_)))
                (try (have c25b4 : decide (t207.size + 1 + x8_1.size ≤ 9223372036854775807) = true := decide_eq_true (by have h_ := c25; simp only [ByteArray.size_append] at h_; exact h_)))
                replace H := Option.bind_eq_some_iff.mp H
                obtain ⟨⟨t208, t209⟩, A260, H⟩ := H
                (try dsimp only at H)
                have A26 := Aside0.mk A260
                clear A260
                replace H := Option.bind_eq_some_iff.mp H
                obtain ⟨t210, A270, H⟩ := H
                have E_ : t207 = t210 := Option.some.inj (A23.out.symm.trans A270)
                subst E_
                (try dsimp only at H)
                have A27 := Aside0.mk A270
                clear A270
                by_cases c28 : t207.size + 2 ≤ 9223372036854775807
                · rw [if_pos c28] at H
                  have c28b0 := eq_true c28
                  have c28b1 : decide (t207.size + 2 ≤ 9223372036854775807) = true := decide_eq_true c28
                  try have c28b2 : (9223372036854775807 < t207.size + 2) = False := eq_false (Nat.not_lt.2 c28)
                  replace H := Option.bind_eq_some_iff.mp H
                  obtain ⟨⟨t211, t212, t213, t214, t215, t216, t217, t218, t219, t220⟩, A290, H⟩ := H
                  (try dsimp only at H)
                  have A29 := Aside0.mk A290
                  clear A290
                  replace H := Option.bind_eq_some_iff.mp H
                  obtain ⟨⟨t221, t222⟩, A300, H⟩ := H
                  (try dsimp only at H)
                  have A30 := Aside0.mk A300
                  clear A300
                  by_cases c31 : (wrap64 ((x8_1.size : Int) + 1)) > (wrap64 (Int.tmod a2 60))
                  · rw [if_pos c31] at H
                    have c31b0 : decide ((wrap64 (Int.tmod a2 60)) < (wrap64 ((x8_1.size : Int) + 1))) = true := decide_eq_true c31
                    clear c31
                    by_cases c32 : t209 = 400
                    · rw [if_pos c32] at H
                      have c32b0 : (t209 == 400) = true := beq_iff_eq.mpr c32
                      have c32b1 : (t209 != 400) = false := bne_eq_false_iff_eq.mpr c32
                      clear c32
                      obtain rfl := Option.some.inj H
                      try go_wp2
                      have n0_ := Aside0.mk (blk_drew BK202.out)
                      have n1_ := Aside0.mk (below_drew1 HB.out)
                      clear BK202
                      clear HB
                      have BK202 := n0_
                      have HB := n1_
                      clear n0_ n1_
                      refine start_ (n := 13) (S := fun w' => w'.cell? ⟨gb202, 0, none⟩ = some (.int .i64 t192) ∧ w'.cell? ⟨gb202, 1, none⟩ = some (.int .i64 t193) ∧ w'.cell? ⟨gb202, 2, none⟩ = some (.int .i64 t194) ∧ w'.cell? ⟨gb202, 3, none⟩ = some (.int .i64 t195) ∧ w'.cell? ⟨gb202, 4, none⟩ = some (.int .i64 (wrap64 (Int.tmod a2 60))) ∧ w'.cell? ⟨gb202, 5, none⟩ = some (.int .i64 t197) ∧ w'.cell? ⟨gb202, 6, none⟩ = some (.int .i64 t198) ∧ w'.cell? ⟨gb202, 7, none⟩ = some (.int .i64 t199) ∧ w'.cell? ⟨gb202, 8, none⟩ = some (.bool t200) ∧ w'.cell? ⟨gb202, 9, none⟩ = some (.bool t201)) (ds := []) #[false, false, false, false, false, false, false, false, false, false, false, false, false] (by kernel_rfl) rfl rfl ⟨(blk_cell BK202.out 0).trans rfl, (blk_cell BK202.out 1).trans rfl, (blk_cell BK202.out 2).trans rfl, (blk_cell BK202.out 3).trans rfl, (blk_cell BK202.out 4).trans rfl, (blk_cell BK202.out 5).trans rfl, (blk_cell BK202.out 6).trans rfl, (blk_cell BK202.out 7).trans rfl, (blk_cell BK202.out 8).trans rfl, (blk_cell BK202.out 9).trans rfl⟩ (fun hHeld => ?_); refine with_tabW parallaxlaw11_ChunkExts.tab12 parallaxlaw11_ChunkExts.bits12 (fun HT_ HW_ => ?_)
                      generalize wr.drew = w33 at BK202 HB hHeld ⊢
                      refine pure_ (i := 0) (N := some 41) (v := ?_) (a' := ?_) #[true, false, false, false, false, false, false, false, false, false, false, false, false] rfl rfl (any_of HT_.out (by kernel_rfl)) (fun _ _ _ h => h) (Or.inl ⟨by rfl, ?_⟩) ?_ ?_
                      rotate_left
                      · intro w'
                        go_simp
                        with_reducible rfl
                      rotate_left
                      · simp only [Act.put, List.setIfInBounds_toArray, List.set_cons_zero, List.set_cons_succ, i64_w, i32_w]
                        rfl
                      refine pure_ (i := 1) (N := some 42) (v := ?_) (a' := ?_) #[true, true, false, false, false, false, false, false, false, false, false, false, false] rfl rfl (any_of HT_.out (by kernel_rfl)) (fun _ _ _ h => h) (Or.inl ⟨by rfl, ?_⟩) ?_ ?_
                      rotate_left
                      · intro w'
                        go_simp
                        with_reducible rfl
                      rotate_left
                      · simp only [Act.put, List.setIfInBounds_toArray, List.set_cons_zero, List.set_cons_succ, i64_w, i32_w]
                        rfl
                      refine pure_ (i := 4) (N := some 45) (v := ?_) (a' := ?_) #[true, true, false, false, true, false, false, false, false, false, false, false, false] rfl rfl (any_of HT_.out (by kernel_rfl)) (fun _ _ _ h => h) (Or.inl ⟨by rfl, ?_⟩) ?_ ?_
                      rotate_left
                      · intro w'
                        go_simp
                        with_reducible rfl
                      rotate_left
                      · simp only [Act.put, List.setIfInBounds_toArray, List.set_cons_zero, List.set_cons_succ, i64_w, i32_w]
                        rfl
                      refine take_ (i := 6) (N := some 47) (v := ?_) (a' := ?_) #[true, true, false, false, true, false, true, false, false, false, false, false, false] rfl rfl (take_ofW HT_.out HW_.out (by kernel_rfl)) (fun _ _ _ h => h) (Or.inl ⟨by rfl, ?_⟩) hHeld ?_ ?_
                      rotate_left
                      · rintro w' ⟨s0, s1, s2, s3, s4, s5, s6, s7, s8, s9⟩
                        go_simp
                        with_reducible rfl
                      rotate_left
                      · simp only [Act.put, List.setIfInBounds_toArray, List.set_cons_zero, List.set_cons_succ, i64_w, i32_w]
                        rfl
                      refine one_ (i := 2) (N := some 43) #[true, true, true, false, true, false, true, false, false, false, false, false, false] rfl rfl (one_of HT_.out (by kernel_rfl)) (by decide) (fun K hK => ?_)
                      refine goes_ Tryd.func11 (by kernel_rfl) rfl #[.int .i64 (wrap64 (a0))] (by rfl) rfl rfl (by (try simp only [List.map_toArray, List.map_cons, List.map_nil]); first | done | rfl | (simp only [List.length_drop, List.length_take]; rfl)) ?_
                      with_reducible refine (parallaxref1_PutHex.calls k1 (wrap64 (a0)) t207 _ A23.out).mono ?_
                      rintro e w34 ⟨rfl, hb⟩
                      refine ⟨_, rfl, ?_⟩
                      have n0_ := Aside0.mk (blk_below (g := gb202) (o := .cells #[.int .i64 t192, .int .i64 t193, .int .i64 t194, .int .i64 t195, .int .i64 (wrap64 (Int.tmod a2 60)), .int .i64 t197, .int .i64 t198, .int .i64 t199, .bool t200, .bool t201] 29 (0, 0)) (by (with_reducible repeat (first | refine blk_drewN ?_ _ | refine blk_drew ?_ | refine blk_alloc ?_ _)); exact BK202.out) hb)
                      have n1_ := Aside0.mk (below_step (by repeat (first | (with_reducible first | exact HB.out | apply below_alloc | apply pw_below_drewN | apply below_drew1 | refine below_set ?_ GE202.out) | exact HB.out)) hb)
                      clear BK202
                      clear HB
                      have BK202 := n0_
                      have HB := n1_
                      clear n0_ n1_
                      (try clear hb)
                      (try clear hb2)
                      (try clear hk)
                      (try clear hi)
                      refine hK.out _ _ ⟨(blk_cell BK202.out 0).trans rfl, (blk_cell BK202.out 1).trans rfl, (blk_cell BK202.out 2).trans rfl, (blk_cell BK202.out 3).trans rfl, (blk_cell BK202.out 4).trans rfl, (blk_cell BK202.out 5).trans rfl, (blk_cell BK202.out 6).trans rfl, (blk_cell BK202.out 7).trans rfl, (blk_cell BK202.out 8).trans rfl, (blk_cell BK202.out 9).trans rfl⟩ (fun hHeld => ?_)
                      clear hK K
                      refine norm_ (a' := ?_) ?_ ?_
                      rotate_left
                      · show Act.put _ (some 43) _ = _
                        simp only [Act.put, List.setIfInBounds_toArray, List.set_cons_zero, List.set_cons_succ, i64_w, i32_w]
                        rfl
                      refine pure_ (i := 3) (N := some 44) (v := ?_) (a' := ?_) #[true, true, true, true, true, false, true, false, false, false, false, false, false] rfl rfl (any_of HT_.out (by kernel_rfl)) (fun _ _ _ h => h) (Or.inl ⟨by rfl, ?_⟩) ?_ ?_
                      rotate_left
                      · intro w'
                        go_simp
                        with_reducible rfl
                      rotate_left
                      · simp only [Act.put, List.setIfInBounds_toArray, List.set_cons_zero, List.set_cons_succ, i64_w, i32_w]
                        rfl
                      refine pure_ (i := 5) (N := some 46) (v := ?_) (a' := ?_) #[true, true, true, true, true, true, true, false, false, false, false, false, false] rfl rfl (any_of HT_.out (by kernel_rfl)) (fun _ _ _ h => h) (Or.inl ⟨by rfl, ?_⟩) ?_ ?_
                      rotate_left
                      · intro w'
                        go_simp
                        with_reducible rfl
                      rotate_left
                      · simp only [Act.put, List.setIfInBounds_toArray, List.set_cons_zero, List.set_cons_succ, i64_w, i32_w]
                        rfl
                      refine one_ (i := 7) (N := some 48) #[true, true, true, true, true, true, true, true, false, false, false, false, false] rfl rfl (one_of HT_.out (by kernel_rfl)) (by decide) (fun K hK => ?_)
                      refine goes_ Tryd.func13 (by kernel_rfl) rfl #[.string ((t207 ++ (⟨#[59]⟩ : ByteArray)) ++ x8_1), .int .u32 0, .agg #[.int .i64 t192, .int .i64 t193, .int .i64 t194, .int .i64 t195, .int .i64 (wrap64 (Int.tmod a2 60)), .int .i64 t197, .int .i64 t198, .int .i64 t199, .bool t200, .bool t201]] (by rfl) rfl rfl (by (try simp only [List.map_toArray, List.map_cons, List.map_nil]); first | done | rfl | (simp only [List.length_drop, List.length_take]; rfl)) ?_
                      with_reducible refine (chunk_Size.calls k1 ((t207 ++ (⟨#[59]⟩ : ByteArray)) ++ x8_1) 0 t192 t193 t194 t195 (wrap64 (Int.tmod a2 60)) t197 t198 t199 t200 t201 t208 t209 _ A26.out).mono ?_
                      rintro e w35 ⟨rfl, hb⟩
                      refine ⟨_, rfl, ?_⟩
                      have n0_ := Aside0.mk (blk_below (g := gb202) (o := .cells #[.int .i64 t192, .int .i64 t193, .int .i64 t194, .int .i64 t195, .int .i64 (wrap64 (Int.tmod a2 60)), .int .i64 t197, .int .i64 t198, .int .i64 t199, .bool t200, .bool t201] 29 (0, 0)) (by (with_reducible repeat (first | refine blk_drewN ?_ _ | refine blk_drew ?_ | refine blk_alloc ?_ _)); exact BK202.out) hb)
                      have n1_ := Aside0.mk (below_step (by repeat (first | (with_reducible first | exact HB.out | apply below_alloc | apply pw_below_drewN | apply below_drew1 | refine below_set ?_ GE202.out) | exact HB.out)) hb)
                      clear BK202
                      clear HB
                      have BK202 := n0_
                      have HB := n1_
                      clear n0_ n1_
                      (try clear hb)
                      (try clear hb2)
                      (try clear hk)
                      (try clear hi)
                      refine hK.out _ _ ⟨(blk_cell BK202.out 0).trans rfl, (blk_cell BK202.out 1).trans rfl, (blk_cell BK202.out 2).trans rfl, (blk_cell BK202.out 3).trans rfl, (blk_cell BK202.out 4).trans rfl, (blk_cell BK202.out 5).trans rfl, (blk_cell BK202.out 6).trans rfl, (blk_cell BK202.out 7).trans rfl, (blk_cell BK202.out 8).trans rfl, (blk_cell BK202.out 9).trans rfl⟩ (fun hHeld => ?_)
                      clear hK K
                      refine norm_ (a' := ?_) ?_ ?_
                      rotate_left
                      · show Act.put _ (some 48) _ = _
                        simp only [Act.put, List.setIfInBounds_toArray, List.set_cons_zero, List.set_cons_succ, i64_w, i32_w]
                        rfl
                      refine pure_ (i := 8) (N := some 40) (v := ?_) (a' := ?_) #[true, true, true, true, true, true, true, true, true, false, false, false, false] rfl rfl (any_of HT_.out (by kernel_rfl)) (fun _ _ _ h => h) (Or.inl ⟨by rfl, ?_⟩) ?_ ?_
                      rotate_left
                      · intro w'
                        go_simp
                        with_reducible rfl
                      rotate_left
                      · simp only [Act.put, List.setIfInBounds_toArray, List.set_cons_zero, List.set_cons_succ, i64_w, i32_w]
                        rfl
                      refine pure_ (i := 9) (N := some 49) (v := ?_) (a' := ?_) #[true, true, true, true, true, true, true, true, true, true, false, false, false] rfl rfl (any_of HT_.out (by kernel_rfl)) (fun _ _ _ h => h) (Or.inl ⟨by rfl, ?_⟩) ?_ ?_
                      rotate_left
                      · intro w'
                        go_simp
                        with_reducible rfl
                      rotate_left
                      · simp only [Act.put, List.setIfInBounds_toArray, List.set_cons_zero, List.set_cons_succ, i64_w, i32_w]
                        rfl
                      refine pure_ (i := 10) (N := some 50) (v := ?_) (a' := ?_) #[true, true, true, true, true, true, true, true, true, true, true, false, false] rfl rfl (any_of HT_.out (by kernel_rfl)) (fun _ _ _ h => h) (Or.inl ⟨by rfl, ?_⟩) ?_ ?_
                      rotate_left
                      · intro w'
                        go_simp
                        with_reducible rfl
                      rotate_left
                      · simp only [Act.put, List.setIfInBounds_toArray, List.set_cons_zero, List.set_cons_succ, i64_w, i32_w]
                        rfl
                      refine pure_ (i := 11) (N := some 10) (v := ?_) (a' := ?_) #[true, true, true, true, true, true, true, true, true, true, true, true, false] rfl rfl (any_of HT_.out (by kernel_rfl)) (fun _ _ _ h => h) (Or.inl ⟨by rfl, ?_⟩) ?_ ?_
                      rotate_left
                      · intro w'
                        go_simp
                        with_reducible rfl
                      rotate_left
                      · simp only [Act.put, List.setIfInBounds_toArray, List.set_cons_zero, List.set_cons_succ, i64_w, i32_w]
                        rfl
                      refine pure_ (i := 12) (N := some 11) (v := ?_) (a' := ?_) #[true, true, true, true, true, true, true, true, true, true, true, true, true] rfl rfl (any_of HT_.out (by kernel_rfl)) (fun _ _ _ h => h) (Or.inl ⟨by rfl, ?_⟩) ?_ ?_
                      rotate_left
                      · intro w'
                        go_simp
                        with_reducible rfl
                      rotate_left
                      · simp only [Act.put, List.setIfInBounds_toArray, List.set_cons_zero, List.set_cons_succ, i64_w, i32_w]
                        rfl
                      refine done_ (done_of HT_.out (by kernel_rfl)) ?_
                      try go_wp2_with (first | ((with_reducible refine gate_callee (f := 11) rfl ?_); refine goesL_ (some 54) rfl rfl Tryd.func11 (by kernel_rfl) rfl #[.int .i64 (wrap64 (a0))] rfl (by (try simp only [List.map_toArray, List.map_cons, List.map_nil]); first | done | rfl | (simp only [List.length_drop, List.length_take]; rfl)) ?_; (with_reducible refine (parallaxref1_PutHex.calls k1 (wrap64 (a0)) t207 _ A27.out).mono ?_); rintro e w36 ⟨rfl, hb⟩; refine ⟨_, rfl, ?_⟩; have n0_ := Aside0.mk (blk_below (g := gb202) (o := .cells #[.int .i64 t192, .int .i64 t193, .int .i64 t194, .int .i64 t195, .int .i64 (wrap64 (Int.tmod a2 60)), .int .i64 t197, .int .i64 t198, .int .i64 t199, .bool t200, .bool t201] 29 (0, 0)) (by (with_reducible repeat (first | refine blk_drewN ?_ _ | refine blk_drew ?_ | refine blk_alloc ?_ _)); exact BK202.out) hb); have n1_ := Aside0.mk (below_step (by repeat (first | (with_reducible first | exact HB.out | apply below_alloc | apply pw_below_drewN | apply below_drew1 | refine below_set ?_ GE202.out) | exact HB.out)) hb); clear BK202; clear HB; have BK202 := n0_; have HB := n1_; clear n0_ n1_; (try clear hb); (try clear hb2); (try clear hk); (try clear hi)) | ((with_reducible refine gate_callee (f := 17) rfl ?_); refine goesL_ (some 56) rfl rfl Tryd.func17 (by kernel_rfl) rfl #[] rfl (by (try simp only [List.map_toArray, List.map_cons, List.map_nil]); first | done | rfl | (simp only [List.length_drop, List.length_take]; rfl)) ?_; (with_reducible refine (parallaxref4_Usual.calls  t211 t212 t213 t214 t215 t216 t217 t218 t219 t220 _ A29.out).mono ?_); rintro e w37 ⟨rfl, hb⟩; refine ⟨_, rfl, ?_⟩; have n0_ := Aside0.mk (blk_below (g := gb202) (o := .cells #[.int .i64 t192, .int .i64 t193, .int .i64 t194, .int .i64 t195, .int .i64 (wrap64 (Int.tmod a2 60)), .int .i64 t197, .int .i64 t198, .int .i64 t199, .bool t200, .bool t201] 29 (0, 0)) (by (with_reducible repeat (first | refine blk_drewN ?_ _ | refine blk_drew ?_ | refine blk_alloc ?_ _)); exact BK202.out) hb); have n1_ := Aside0.mk (below_step (by repeat (first | (with_reducible first | exact HB.out | apply below_alloc | apply pw_below_drewN | apply below_drew1 | refine below_set ?_ GE202.out) | exact HB.out)) hb); clear BK202; clear HB; have BK202 := n0_; have HB := n1_; clear n0_ n1_; (try clear hb); (try clear hb2); (try clear hk); (try clear hi)) | ((with_reducible refine gate_callee (f := 13) rfl ?_); refine goesL_ (some 57) rfl rfl Tryd.func13 (by kernel_rfl) rfl #[.string (t207 ++ (⟨#[59, 1]⟩ : ByteArray)), .int .u32 0, .agg #[.int .i64 t211, .int .i64 t212, .int .i64 t213, .int .i64 t214, .int .i64 t215, .int .i64 t216, .int .i64 t217, .int .i64 t218, .bool t219, .bool t220]] rfl (by (try simp only [List.map_toArray, List.map_cons, List.map_nil]); first | done | rfl | (simp only [List.length_drop, List.length_take]; rfl)) ?_; (with_reducible refine (chunk_Size.calls k1 (t207 ++ (⟨#[59, 1]⟩ : ByteArray)) 0 t211 t212 t213 t214 t215 t216 t217 t218 t219 t220 t221 t222 _ A30.out).mono ?_); rintro e w38 ⟨rfl, hb⟩; refine ⟨_, rfl, ?_⟩; have n0_ := Aside0.mk (blk_below (g := gb202) (o := .cells #[.int .i64 t192, .int .i64 t193, .int .i64 t194, .int .i64 t195, .int .i64 (wrap64 (Int.tmod a2 60)), .int .i64 t197, .int .i64 t198, .int .i64 t199, .bool t200, .bool t201] 29 (0, 0)) (by (with_reducible repeat (first | refine blk_drewN ?_ _ | refine blk_drew ?_ | refine blk_alloc ?_ _)); exact BK202.out) hb); have n1_ := Aside0.mk (below_step (by repeat (first | (with_reducible first | exact HB.out | apply below_alloc | apply pw_below_drewN | apply below_drew1 | refine below_set ?_ GE202.out) | exact HB.out)) hb); clear BK202; clear HB; have BK202 := n0_; have HB := n1_; clear n0_ n1_; (try clear hb); (try clear hb2); (try clear hk); (try clear hi); have hcz39_0 : w38.cell? ⟨gb202, 0, none⟩ = some (.int .i64 t192) := (blk_cell BK202.out 0).trans rfl; have hcz39_1 : w38.cell? ⟨gb202, 1, none⟩ = some (.int .i64 t193) := (blk_cell BK202.out 1).trans rfl; have hcz39_2 : w38.cell? ⟨gb202, 2, none⟩ = some (.int .i64 t194) := (blk_cell BK202.out 2).trans rfl; have hcz39_3 : w38.cell? ⟨gb202, 3, none⟩ = some (.int .i64 t195) := (blk_cell BK202.out 3).trans rfl; have hcz39_4 : w38.cell? ⟨gb202, 4, none⟩ = some (.int .i64 (wrap64 (Int.tmod a2 60))) := (blk_cell BK202.out 4).trans rfl; have hcz39_5 : w38.cell? ⟨gb202, 5, none⟩ = some (.int .i64 t197) := (blk_cell BK202.out 5).trans rfl; have hcz39_6 : w38.cell? ⟨gb202, 6, none⟩ = some (.int .i64 t198) := (blk_cell BK202.out 6).trans rfl; have hcz39_7 : w38.cell? ⟨gb202, 7, none⟩ = some (.int .i64 t199) := (blk_cell BK202.out 7).trans rfl; have hcz39_8 : w38.cell? ⟨gb202, 8, none⟩ = some (.bool t200) := (blk_cell BK202.out 8).trans rfl; have hcz39_9 : w38.cell? ⟨gb202, 9, none⟩ = some (.bool t201) := (blk_cell BK202.out 9).trans rfl; have hfz39_0 := blk_frozen BK202.out 0; have hfz39_1 := blk_frozen BK202.out 1; have hfz39_2 := blk_frozen BK202.out 2; have hfz39_3 := blk_frozen BK202.out 3; have hfz39_4 := blk_frozen BK202.out 4; have hfz39_5 := blk_frozen BK202.out 5; have hfz39_6 := blk_frozen BK202.out 6; have hfz39_7 := blk_frozen BK202.out 7; have hfz39_8 := blk_frozen BK202.out 8; have hfz39_9 := blk_frozen BK202.out 9) | (go_at_call 11; (with_reducible refine (parallaxref1_PutHex.calls k1 (wrap64 (a0)) t207 _ A27.out).mono ?_); rintro e w36 ⟨rfl, hb⟩; have n0_ := Aside0.mk (blk_below (g := gb202) (o := .cells #[.int .i64 t192, .int .i64 t193, .int .i64 t194, .int .i64 t195, .int .i64 (wrap64 (Int.tmod a2 60)), .int .i64 t197, .int .i64 t198, .int .i64 t199, .bool t200, .bool t201] 29 (0, 0)) (by (with_reducible repeat (first | refine blk_drewN ?_ _ | refine blk_drew ?_ | refine blk_alloc ?_ _)); exact BK202.out) hb); have n1_ := Aside0.mk (below_step (by repeat (first | (with_reducible first | exact HB.out | apply below_alloc | apply pw_below_drewN | apply below_drew1 | refine below_set ?_ GE202.out) | exact HB.out)) hb); clear BK202; clear HB; have BK202 := n0_; have HB := n1_; clear n0_ n1_; (try clear hb); (try clear hb2); (try clear hk); (try clear hi)) | (go_at_call 17; (with_reducible refine (parallaxref4_Usual.calls  t211 t212 t213 t214 t215 t216 t217 t218 t219 t220 _ A29.out).mono ?_); rintro e w37 ⟨rfl, hb⟩; have n0_ := Aside0.mk (blk_below (g := gb202) (o := .cells #[.int .i64 t192, .int .i64 t193, .int .i64 t194, .int .i64 t195, .int .i64 (wrap64 (Int.tmod a2 60)), .int .i64 t197, .int .i64 t198, .int .i64 t199, .bool t200, .bool t201] 29 (0, 0)) (by (with_reducible repeat (first | refine blk_drewN ?_ _ | refine blk_drew ?_ | refine blk_alloc ?_ _)); exact BK202.out) hb); have n1_ := Aside0.mk (below_step (by repeat (first | (with_reducible first | exact HB.out | apply below_alloc | apply pw_below_drewN | apply below_drew1 | refine below_set ?_ GE202.out) | exact HB.out)) hb); clear BK202; clear HB; have BK202 := n0_; have HB := n1_; clear n0_ n1_; (try clear hb); (try clear hb2); (try clear hk); (try clear hi)) | (go_at_call 13; (with_reducible refine (chunk_Size.calls k1 (t207 ++ (⟨#[59, 1]⟩ : ByteArray)) 0 t211 t212 t213 t214 t215 t216 t217 t218 t219 t220 t221 t222 _ A30.out).mono ?_); rintro e w38 ⟨rfl, hb⟩; have n0_ := Aside0.mk (blk_below (g := gb202) (o := .cells #[.int .i64 t192, .int .i64 t193, .int .i64 t194, .int .i64 t195, .int .i64 (wrap64 (Int.tmod a2 60)), .int .i64 t197, .int .i64 t198, .int .i64 t199, .bool t200, .bool t201] 29 (0, 0)) (by (with_reducible repeat (first | refine blk_drewN ?_ _ | refine blk_drew ?_ | refine blk_alloc ?_ _)); exact BK202.out) hb); have n1_ := Aside0.mk (below_step (by repeat (first | (with_reducible first | exact HB.out | apply below_alloc | apply pw_below_drewN | apply below_drew1 | refine below_set ?_ GE202.out) | exact HB.out)) hb); clear BK202; clear HB; have BK202 := n0_; have HB := n1_; clear n0_ n1_; (try clear hb); (try clear hb2); (try clear hk); (try clear hi); have hcz39_0 : w38.cell? ⟨gb202, 0, none⟩ = some (.int .i64 t192) := (blk_cell BK202.out 0).trans rfl; have hcz39_1 : w38.cell? ⟨gb202, 1, none⟩ = some (.int .i64 t193) := (blk_cell BK202.out 1).trans rfl; have hcz39_2 : w38.cell? ⟨gb202, 2, none⟩ = some (.int .i64 t194) := (blk_cell BK202.out 2).trans rfl; have hcz39_3 : w38.cell? ⟨gb202, 3, none⟩ = some (.int .i64 t195) := (blk_cell BK202.out 3).trans rfl; have hcz39_4 : w38.cell? ⟨gb202, 4, none⟩ = some (.int .i64 (wrap64 (Int.tmod a2 60))) := (blk_cell BK202.out 4).trans rfl; have hcz39_5 : w38.cell? ⟨gb202, 5, none⟩ = some (.int .i64 t197) := (blk_cell BK202.out 5).trans rfl; have hcz39_6 : w38.cell? ⟨gb202, 6, none⟩ = some (.int .i64 t198) := (blk_cell BK202.out 6).trans rfl; have hcz39_7 : w38.cell? ⟨gb202, 7, none⟩ = some (.int .i64 t199) := (blk_cell BK202.out 7).trans rfl; have hcz39_8 : w38.cell? ⟨gb202, 8, none⟩ = some (.bool t200) := (blk_cell BK202.out 8).trans rfl; have hcz39_9 : w38.cell? ⟨gb202, 9, none⟩ = some (.bool t201) := (blk_cell BK202.out 9).trans rfl; have hfz39_0 := blk_frozen BK202.out 0; have hfz39_1 := blk_frozen BK202.out 1; have hfz39_2 := blk_frozen BK202.out 2; have hfz39_3 := blk_frozen BK202.out 3; have hfz39_4 := blk_frozen BK202.out 4; have hfz39_5 := blk_frozen BK202.out 5; have hfz39_6 := blk_frozen BK202.out 6; have hfz39_7 := blk_frozen BK202.out 7; have hfz39_8 := blk_frozen BK202.out 8; have hfz39_9 := blk_frozen BK202.out 9))
                      go_ret
                      exact ⟨by first | rfl | (simp [errW_none, errW_some] <;> rfl) | (simp [*, errW_none, errW_some] <;> rfl), by repeat (first | (with_reducible first | exact HB.out | apply below_alloc | apply pw_below_drewN | apply below_drew1 | refine below_set ?_ GE202.out) | exact HB.out)⟩
                    · rw [if_neg c32] at H
                      have c32b0 : (t209 == 400) = false := beq_eq_false_iff_ne.mpr c32
                      have c32b1 : (t209 != 400) = true := bne_iff_ne.mpr c32
                      exact absurd ((Option.some.inj H).trans HT.out) (by decide)
                  · rw [if_neg c31] at H
                    have c31b0 : decide ((wrap64 (Int.tmod a2 60)) < (wrap64 ((x8_1.size : Int) + 1))) = false := decide_eq_false c31
                    clear c31
                    by_cases c40 : t209 = 0
                    · rw [if_pos c40] at H
                      have c40b0 : (t209 == 0) = true := beq_iff_eq.mpr c40
                      have c40b1 : (t209 != 0) = false := bne_eq_false_iff_eq.mpr c40
                      clear c40
                      by_cases c41 : t208 = (wrap64 (a0))
                      · rw [if_pos c41] at H
                        have c41b0 : (t208 == (wrap64 (a0))) = true := beq_iff_eq.mpr c41
                        have c41b1 : (t208 != (wrap64 (a0))) = false := bne_eq_false_iff_eq.mpr c41
                        clear c41
                        obtain rfl := Option.some.inj H
                        try go_wp2
                        have n0_ := Aside0.mk (blk_drew BK202.out)
                        have n1_ := Aside0.mk (below_drew1 HB.out)
                        clear BK202
                        clear HB
                        have BK202 := n0_
                        have HB := n1_
                        clear n0_ n1_
                        refine start_ (n := 13) (S := fun w' => w'.cell? ⟨gb202, 0, none⟩ = some (.int .i64 t192) ∧ w'.cell? ⟨gb202, 1, none⟩ = some (.int .i64 t193) ∧ w'.cell? ⟨gb202, 2, none⟩ = some (.int .i64 t194) ∧ w'.cell? ⟨gb202, 3, none⟩ = some (.int .i64 t195) ∧ w'.cell? ⟨gb202, 4, none⟩ = some (.int .i64 (wrap64 (Int.tmod a2 60))) ∧ w'.cell? ⟨gb202, 5, none⟩ = some (.int .i64 t197) ∧ w'.cell? ⟨gb202, 6, none⟩ = some (.int .i64 t198) ∧ w'.cell? ⟨gb202, 7, none⟩ = some (.int .i64 t199) ∧ w'.cell? ⟨gb202, 8, none⟩ = some (.bool t200) ∧ w'.cell? ⟨gb202, 9, none⟩ = some (.bool t201)) (ds := []) #[false, false, false, false, false, false, false, false, false, false, false, false, false] (by kernel_rfl) rfl rfl ⟨(blk_cell BK202.out 0).trans rfl, (blk_cell BK202.out 1).trans rfl, (blk_cell BK202.out 2).trans rfl, (blk_cell BK202.out 3).trans rfl, (blk_cell BK202.out 4).trans rfl, (blk_cell BK202.out 5).trans rfl, (blk_cell BK202.out 6).trans rfl, (blk_cell BK202.out 7).trans rfl, (blk_cell BK202.out 8).trans rfl, (blk_cell BK202.out 9).trans rfl⟩ (fun hHeld => ?_); refine with_tabW parallaxlaw11_ChunkExts.tab12 parallaxlaw11_ChunkExts.bits12 (fun HT_ HW_ => ?_)
                        generalize wr.drew = w42 at BK202 HB hHeld ⊢
                        refine pure_ (i := 0) (N := some 41) (v := ?_) (a' := ?_) #[true, false, false, false, false, false, false, false, false, false, false, false, false] rfl rfl (any_of HT_.out (by kernel_rfl)) (fun _ _ _ h => h) (Or.inl ⟨by rfl, ?_⟩) ?_ ?_
                        rotate_left
                        · intro w'
                          go_simp
                          with_reducible rfl
                        rotate_left
                        · simp only [Act.put, List.setIfInBounds_toArray, List.set_cons_zero, List.set_cons_succ, i64_w, i32_w]
                          rfl
                        refine pure_ (i := 1) (N := some 42) (v := ?_) (a' := ?_) #[true, true, false, false, false, false, false, false, false, false, false, false, false] rfl rfl (any_of HT_.out (by kernel_rfl)) (fun _ _ _ h => h) (Or.inl ⟨by rfl, ?_⟩) ?_ ?_
                        rotate_left
                        · intro w'
                          go_simp
                          with_reducible rfl
                        rotate_left
                        · simp only [Act.put, List.setIfInBounds_toArray, List.set_cons_zero, List.set_cons_succ, i64_w, i32_w]
                          rfl
                        refine pure_ (i := 4) (N := some 45) (v := ?_) (a' := ?_) #[true, true, false, false, true, false, false, false, false, false, false, false, false] rfl rfl (any_of HT_.out (by kernel_rfl)) (fun _ _ _ h => h) (Or.inl ⟨by rfl, ?_⟩) ?_ ?_
                        rotate_left
                        · intro w'
                          go_simp
                          with_reducible rfl
                        rotate_left
                        · simp only [Act.put, List.setIfInBounds_toArray, List.set_cons_zero, List.set_cons_succ, i64_w, i32_w]
                          rfl
                        refine take_ (i := 6) (N := some 47) (v := ?_) (a' := ?_) #[true, true, false, false, true, false, true, false, false, false, false, false, false] rfl rfl (take_ofW HT_.out HW_.out (by kernel_rfl)) (fun _ _ _ h => h) (Or.inl ⟨by rfl, ?_⟩) hHeld ?_ ?_
                        rotate_left
                        · rintro w' ⟨s0, s1, s2, s3, s4, s5, s6, s7, s8, s9⟩
                          go_simp
                          with_reducible rfl
                        rotate_left
                        · simp only [Act.put, List.setIfInBounds_toArray, List.set_cons_zero, List.set_cons_succ, i64_w, i32_w]
                          rfl
                        refine one_ (i := 2) (N := some 43) #[true, true, true, false, true, false, true, false, false, false, false, false, false] rfl rfl (one_of HT_.out (by kernel_rfl)) (by decide) (fun K hK => ?_)
                        refine goes_ Tryd.func11 (by kernel_rfl) rfl #[.int .i64 (wrap64 (a0))] (by rfl) rfl rfl (by (try simp only [List.map_toArray, List.map_cons, List.map_nil]); first | done | rfl | (simp only [List.length_drop, List.length_take]; rfl)) ?_
                        with_reducible refine (parallaxref1_PutHex.calls k1 (wrap64 (a0)) t207 _ A23.out).mono ?_
                        rintro e w43 ⟨rfl, hb⟩
                        refine ⟨_, rfl, ?_⟩
                        have n0_ := Aside0.mk (blk_below (g := gb202) (o := .cells #[.int .i64 t192, .int .i64 t193, .int .i64 t194, .int .i64 t195, .int .i64 (wrap64 (Int.tmod a2 60)), .int .i64 t197, .int .i64 t198, .int .i64 t199, .bool t200, .bool t201] 29 (0, 0)) (by (with_reducible repeat (first | refine blk_drewN ?_ _ | refine blk_drew ?_ | refine blk_alloc ?_ _)); exact BK202.out) hb)
                        have n1_ := Aside0.mk (below_step (by repeat (first | (with_reducible first | exact HB.out | apply below_alloc | apply pw_below_drewN | apply below_drew1 | refine below_set ?_ GE202.out) | exact HB.out)) hb)
                        clear BK202
                        clear HB
                        have BK202 := n0_
                        have HB := n1_
                        clear n0_ n1_
                        (try clear hb)
                        (try clear hb2)
                        (try clear hk)
                        (try clear hi)
                        refine hK.out _ _ ⟨(blk_cell BK202.out 0).trans rfl, (blk_cell BK202.out 1).trans rfl, (blk_cell BK202.out 2).trans rfl, (blk_cell BK202.out 3).trans rfl, (blk_cell BK202.out 4).trans rfl, (blk_cell BK202.out 5).trans rfl, (blk_cell BK202.out 6).trans rfl, (blk_cell BK202.out 7).trans rfl, (blk_cell BK202.out 8).trans rfl, (blk_cell BK202.out 9).trans rfl⟩ (fun hHeld => ?_)
                        clear hK K
                        refine norm_ (a' := ?_) ?_ ?_
                        rotate_left
                        · show Act.put _ (some 43) _ = _
                          simp only [Act.put, List.setIfInBounds_toArray, List.set_cons_zero, List.set_cons_succ, i64_w, i32_w]
                          rfl
                        refine pure_ (i := 3) (N := some 44) (v := ?_) (a' := ?_) #[true, true, true, true, true, false, true, false, false, false, false, false, false] rfl rfl (any_of HT_.out (by kernel_rfl)) (fun _ _ _ h => h) (Or.inl ⟨by rfl, ?_⟩) ?_ ?_
                        rotate_left
                        · intro w'
                          go_simp
                          with_reducible rfl
                        rotate_left
                        · simp only [Act.put, List.setIfInBounds_toArray, List.set_cons_zero, List.set_cons_succ, i64_w, i32_w]
                          rfl
                        refine pure_ (i := 5) (N := some 46) (v := ?_) (a' := ?_) #[true, true, true, true, true, true, true, false, false, false, false, false, false] rfl rfl (any_of HT_.out (by kernel_rfl)) (fun _ _ _ h => h) (Or.inl ⟨by rfl, ?_⟩) ?_ ?_
                        rotate_left
                        · intro w'
                          go_simp
                          with_reducible rfl
                        rotate_left
                        · simp only [Act.put, List.setIfInBounds_toArray, List.set_cons_zero, List.set_cons_succ, i64_w, i32_w]
                          rfl
                        refine one_ (i := 7) (N := some 48) #[true, true, true, true, true, true, true, true, false, false, false, false, false] rfl rfl (one_of HT_.out (by kernel_rfl)) (by decide) (fun K hK => ?_)
                        refine goes_ Tryd.func13 (by kernel_rfl) rfl #[.string ((t207 ++ (⟨#[59]⟩ : ByteArray)) ++ x8_1), .int .u32 0, .agg #[.int .i64 t192, .int .i64 t193, .int .i64 t194, .int .i64 t195, .int .i64 (wrap64 (Int.tmod a2 60)), .int .i64 t197, .int .i64 t198, .int .i64 t199, .bool t200, .bool t201]] (by rfl) rfl rfl (by (try simp only [List.map_toArray, List.map_cons, List.map_nil]); first | done | rfl | (simp only [List.length_drop, List.length_take]; rfl)) ?_
                        with_reducible refine (chunk_Size.calls k1 ((t207 ++ (⟨#[59]⟩ : ByteArray)) ++ x8_1) 0 t192 t193 t194 t195 (wrap64 (Int.tmod a2 60)) t197 t198 t199 t200 t201 t208 t209 _ A26.out).mono ?_
                        rintro e w44 ⟨rfl, hb⟩
                        refine ⟨_, rfl, ?_⟩
                        have n0_ := Aside0.mk (blk_below (g := gb202) (o := .cells #[.int .i64 t192, .int .i64 t193, .int .i64 t194, .int .i64 t195, .int .i64 (wrap64 (Int.tmod a2 60)), .int .i64 t197, .int .i64 t198, .int .i64 t199, .bool t200, .bool t201] 29 (0, 0)) (by (with_reducible repeat (first | refine blk_drewN ?_ _ | refine blk_drew ?_ | refine blk_alloc ?_ _)); exact BK202.out) hb)
                        have n1_ := Aside0.mk (below_step (by repeat (first | (with_reducible first | exact HB.out | apply below_alloc | apply pw_below_drewN | apply below_drew1 | refine below_set ?_ GE202.out) | exact HB.out)) hb)
                        clear BK202
                        clear HB
                        have BK202 := n0_
                        have HB := n1_
                        clear n0_ n1_
                        (try clear hb)
                        (try clear hb2)
                        (try clear hk)
                        (try clear hi)
                        refine hK.out _ _ ⟨(blk_cell BK202.out 0).trans rfl, (blk_cell BK202.out 1).trans rfl, (blk_cell BK202.out 2).trans rfl, (blk_cell BK202.out 3).trans rfl, (blk_cell BK202.out 4).trans rfl, (blk_cell BK202.out 5).trans rfl, (blk_cell BK202.out 6).trans rfl, (blk_cell BK202.out 7).trans rfl, (blk_cell BK202.out 8).trans rfl, (blk_cell BK202.out 9).trans rfl⟩ (fun hHeld => ?_)
                        clear hK K
                        refine norm_ (a' := ?_) ?_ ?_
                        rotate_left
                        · show Act.put _ (some 48) _ = _
                          simp only [Act.put, List.setIfInBounds_toArray, List.set_cons_zero, List.set_cons_succ, i64_w, i32_w]
                          rfl
                        refine pure_ (i := 8) (N := some 40) (v := ?_) (a' := ?_) #[true, true, true, true, true, true, true, true, true, false, false, false, false] rfl rfl (any_of HT_.out (by kernel_rfl)) (fun _ _ _ h => h) (Or.inl ⟨by rfl, ?_⟩) ?_ ?_
                        rotate_left
                        · intro w'
                          go_simp
                          with_reducible rfl
                        rotate_left
                        · simp only [Act.put, List.setIfInBounds_toArray, List.set_cons_zero, List.set_cons_succ, i64_w, i32_w]
                          rfl
                        refine pure_ (i := 9) (N := some 49) (v := ?_) (a' := ?_) #[true, true, true, true, true, true, true, true, true, true, false, false, false] rfl rfl (any_of HT_.out (by kernel_rfl)) (fun _ _ _ h => h) (Or.inl ⟨by rfl, ?_⟩) ?_ ?_
                        rotate_left
                        · intro w'
                          go_simp
                          with_reducible rfl
                        rotate_left
                        · simp only [Act.put, List.setIfInBounds_toArray, List.set_cons_zero, List.set_cons_succ, i64_w, i32_w]
                          rfl
                        refine pure_ (i := 10) (N := some 50) (v := ?_) (a' := ?_) #[true, true, true, true, true, true, true, true, true, true, true, false, false] rfl rfl (any_of HT_.out (by kernel_rfl)) (fun _ _ _ h => h) (Or.inl ⟨by rfl, ?_⟩) ?_ ?_
                        rotate_left
                        · intro w'
                          go_simp
                          with_reducible rfl
                        rotate_left
                        · simp only [Act.put, List.setIfInBounds_toArray, List.set_cons_zero, List.set_cons_succ, i64_w, i32_w]
                          rfl
                        refine pure_ (i := 11) (N := some 10) (v := ?_) (a' := ?_) #[true, true, true, true, true, true, true, true, true, true, true, true, false] rfl rfl (any_of HT_.out (by kernel_rfl)) (fun _ _ _ h => h) (Or.inl ⟨by rfl, ?_⟩) ?_ ?_
                        rotate_left
                        · intro w'
                          go_simp
                          with_reducible rfl
                        rotate_left
                        · simp only [Act.put, List.setIfInBounds_toArray, List.set_cons_zero, List.set_cons_succ, i64_w, i32_w]
                          rfl
                        refine pure_ (i := 12) (N := some 11) (v := ?_) (a' := ?_) #[true, true, true, true, true, true, true, true, true, true, true, true, true] rfl rfl (any_of HT_.out (by kernel_rfl)) (fun _ _ _ h => h) (Or.inl ⟨by rfl, ?_⟩) ?_ ?_
                        rotate_left
                        · intro w'
                          go_simp
                          with_reducible rfl
                        rotate_left
                        · simp only [Act.put, List.setIfInBounds_toArray, List.set_cons_zero, List.set_cons_succ, i64_w, i32_w]
                          rfl
                        refine done_ (done_of HT_.out (by kernel_rfl)) ?_
                        try go_wp2_with (first | ((with_reducible refine gate_callee (f := 11) rfl ?_); refine goesL_ (some 54) rfl rfl Tryd.func11 (by kernel_rfl) rfl #[.int .i64 (wrap64 (a0))] rfl (by (try simp only [List.map_toArray, List.map_cons, List.map_nil]); first | done | rfl | (simp only [List.length_drop, List.length_take]; rfl)) ?_; (with_reducible refine (parallaxref1_PutHex.calls k1 (wrap64 (a0)) t207 _ A27.out).mono ?_); rintro e w45 ⟨rfl, hb⟩; refine ⟨_, rfl, ?_⟩; have n0_ := Aside0.mk (blk_below (g := gb202) (o := .cells #[.int .i64 t192, .int .i64 t193, .int .i64 t194, .int .i64 t195, .int .i64 (wrap64 (Int.tmod a2 60)), .int .i64 t197, .int .i64 t198, .int .i64 t199, .bool t200, .bool t201] 29 (0, 0)) (by (with_reducible repeat (first | refine blk_drewN ?_ _ | refine blk_drew ?_ | refine blk_alloc ?_ _)); exact BK202.out) hb); have n1_ := Aside0.mk (below_step (by repeat (first | (with_reducible first | exact HB.out | apply below_alloc | apply pw_below_drewN | apply below_drew1 | refine below_set ?_ GE202.out) | exact HB.out)) hb); clear BK202; clear HB; have BK202 := n0_; have HB := n1_; clear n0_ n1_; (try clear hb); (try clear hb2); (try clear hk); (try clear hi)) | ((with_reducible refine gate_callee (f := 17) rfl ?_); refine goesL_ (some 56) rfl rfl Tryd.func17 (by kernel_rfl) rfl #[] rfl (by (try simp only [List.map_toArray, List.map_cons, List.map_nil]); first | done | rfl | (simp only [List.length_drop, List.length_take]; rfl)) ?_; (with_reducible refine (parallaxref4_Usual.calls  t211 t212 t213 t214 t215 t216 t217 t218 t219 t220 _ A29.out).mono ?_); rintro e w46 ⟨rfl, hb⟩; refine ⟨_, rfl, ?_⟩; have n0_ := Aside0.mk (blk_below (g := gb202) (o := .cells #[.int .i64 t192, .int .i64 t193, .int .i64 t194, .int .i64 t195, .int .i64 (wrap64 (Int.tmod a2 60)), .int .i64 t197, .int .i64 t198, .int .i64 t199, .bool t200, .bool t201] 29 (0, 0)) (by (with_reducible repeat (first | refine blk_drewN ?_ _ | refine blk_drew ?_ | refine blk_alloc ?_ _)); exact BK202.out) hb); have n1_ := Aside0.mk (below_step (by repeat (first | (with_reducible first | exact HB.out | apply below_alloc | apply pw_below_drewN | apply below_drew1 | refine below_set ?_ GE202.out) | exact HB.out)) hb); clear BK202; clear HB; have BK202 := n0_; have HB := n1_; clear n0_ n1_; (try clear hb); (try clear hb2); (try clear hk); (try clear hi)) | ((with_reducible refine gate_callee (f := 13) rfl ?_); refine goesL_ (some 57) rfl rfl Tryd.func13 (by kernel_rfl) rfl #[.string (t207 ++ (⟨#[59, 1]⟩ : ByteArray)), .int .u32 0, .agg #[.int .i64 t211, .int .i64 t212, .int .i64 t213, .int .i64 t214, .int .i64 t215, .int .i64 t216, .int .i64 t217, .int .i64 t218, .bool t219, .bool t220]] rfl (by (try simp only [List.map_toArray, List.map_cons, List.map_nil]); first | done | rfl | (simp only [List.length_drop, List.length_take]; rfl)) ?_; (with_reducible refine (chunk_Size.calls k1 (t207 ++ (⟨#[59, 1]⟩ : ByteArray)) 0 t211 t212 t213 t214 t215 t216 t217 t218 t219 t220 t221 t222 _ A30.out).mono ?_); rintro e w47 ⟨rfl, hb⟩; refine ⟨_, rfl, ?_⟩; have n0_ := Aside0.mk (blk_below (g := gb202) (o := .cells #[.int .i64 t192, .int .i64 t193, .int .i64 t194, .int .i64 t195, .int .i64 (wrap64 (Int.tmod a2 60)), .int .i64 t197, .int .i64 t198, .int .i64 t199, .bool t200, .bool t201] 29 (0, 0)) (by (with_reducible repeat (first | refine blk_drewN ?_ _ | refine blk_drew ?_ | refine blk_alloc ?_ _)); exact BK202.out) hb); have n1_ := Aside0.mk (below_step (by repeat (first | (with_reducible first | exact HB.out | apply below_alloc | apply pw_below_drewN | apply below_drew1 | refine below_set ?_ GE202.out) | exact HB.out)) hb); clear BK202; clear HB; have BK202 := n0_; have HB := n1_; clear n0_ n1_; (try clear hb); (try clear hb2); (try clear hk); (try clear hi); have hcz48_0 : w47.cell? ⟨gb202, 0, none⟩ = some (.int .i64 t192) := (blk_cell BK202.out 0).trans rfl; have hcz48_1 : w47.cell? ⟨gb202, 1, none⟩ = some (.int .i64 t193) := (blk_cell BK202.out 1).trans rfl; have hcz48_2 : w47.cell? ⟨gb202, 2, none⟩ = some (.int .i64 t194) := (blk_cell BK202.out 2).trans rfl; have hcz48_3 : w47.cell? ⟨gb202, 3, none⟩ = some (.int .i64 t195) := (blk_cell BK202.out 3).trans rfl; have hcz48_4 : w47.cell? ⟨gb202, 4, none⟩ = some (.int .i64 (wrap64 (Int.tmod a2 60))) := (blk_cell BK202.out 4).trans rfl; have hcz48_5 : w47.cell? ⟨gb202, 5, none⟩ = some (.int .i64 t197) := (blk_cell BK202.out 5).trans rfl; have hcz48_6 : w47.cell? ⟨gb202, 6, none⟩ = some (.int .i64 t198) := (blk_cell BK202.out 6).trans rfl; have hcz48_7 : w47.cell? ⟨gb202, 7, none⟩ = some (.int .i64 t199) := (blk_cell BK202.out 7).trans rfl; have hcz48_8 : w47.cell? ⟨gb202, 8, none⟩ = some (.bool t200) := (blk_cell BK202.out 8).trans rfl; have hcz48_9 : w47.cell? ⟨gb202, 9, none⟩ = some (.bool t201) := (blk_cell BK202.out 9).trans rfl; have hfz48_0 := blk_frozen BK202.out 0; have hfz48_1 := blk_frozen BK202.out 1; have hfz48_2 := blk_frozen BK202.out 2; have hfz48_3 := blk_frozen BK202.out 3; have hfz48_4 := blk_frozen BK202.out 4; have hfz48_5 := blk_frozen BK202.out 5; have hfz48_6 := blk_frozen BK202.out 6; have hfz48_7 := blk_frozen BK202.out 7; have hfz48_8 := blk_frozen BK202.out 8; have hfz48_9 := blk_frozen BK202.out 9) | (go_at_call 11; (with_reducible refine (parallaxref1_PutHex.calls k1 (wrap64 (a0)) t207 _ A27.out).mono ?_); rintro e w45 ⟨rfl, hb⟩; have n0_ := Aside0.mk (blk_below (g := gb202) (o := .cells #[.int .i64 t192, .int .i64 t193, .int .i64 t194, .int .i64 t195, .int .i64 (wrap64 (Int.tmod a2 60)), .int .i64 t197, .int .i64 t198, .int .i64 t199, .bool t200, .bool t201] 29 (0, 0)) (by (with_reducible repeat (first | refine blk_drewN ?_ _ | refine blk_drew ?_ | refine blk_alloc ?_ _)); exact BK202.out) hb); have n1_ := Aside0.mk (below_step (by repeat (first | (with_reducible first | exact HB.out | apply below_alloc | apply pw_below_drewN | apply below_drew1 | refine below_set ?_ GE202.out) | exact HB.out)) hb); clear BK202; clear HB; have BK202 := n0_; have HB := n1_; clear n0_ n1_; (try clear hb); (try clear hb2); (try clear hk); (try clear hi)) | (go_at_call 17; (with_reducible refine (parallaxref4_Usual.calls  t211 t212 t213 t214 t215 t216 t217 t218 t219 t220 _ A29.out).mono ?_); rintro e w46 ⟨rfl, hb⟩; have n0_ := Aside0.mk (blk_below (g := gb202) (o := .cells #[.int .i64 t192, .int .i64 t193, .int .i64 t194, .int .i64 t195, .int .i64 (wrap64 (Int.tmod a2 60)), .int .i64 t197, .int .i64 t198, .int .i64 t199, .bool t200, .bool t201] 29 (0, 0)) (by (with_reducible repeat (first | refine blk_drewN ?_ _ | refine blk_drew ?_ | refine blk_alloc ?_ _)); exact BK202.out) hb); have n1_ := Aside0.mk (below_step (by repeat (first | (with_reducible first | exact HB.out | apply below_alloc | apply pw_below_drewN | apply below_drew1 | refine below_set ?_ GE202.out) | exact HB.out)) hb); clear BK202; clear HB; have BK202 := n0_; have HB := n1_; clear n0_ n1_; (try clear hb); (try clear hb2); (try clear hk); (try clear hi)) | (go_at_call 13; (with_reducible refine (chunk_Size.calls k1 (t207 ++ (⟨#[59, 1]⟩ : ByteArray)) 0 t211 t212 t213 t214 t215 t216 t217 t218 t219 t220 t221 t222 _ A30.out).mono ?_); rintro e w47 ⟨rfl, hb⟩; have n0_ := Aside0.mk (blk_below (g := gb202) (o := .cells #[.int .i64 t192, .int .i64 t193, .int .i64 t194, .int .i64 t195, .int .i64 (wrap64 (Int.tmod a2 60)), .int .i64 t197, .int .i64 t198, .int .i64 t199, .bool t200, .bool t201] 29 (0, 0)) (by (with_reducible repeat (first | refine blk_drewN ?_ _ | refine blk_drew ?_ | refine blk_alloc ?_ _)); exact BK202.out) hb); have n1_ := Aside0.mk (below_step (by repeat (first | (with_reducible first | exact HB.out | apply below_alloc | apply pw_below_drewN | apply below_drew1 | refine below_set ?_ GE202.out) | exact HB.out)) hb); clear BK202; clear HB; have BK202 := n0_; have HB := n1_; clear n0_ n1_; (try clear hb); (try clear hb2); (try clear hk); (try clear hi); have hcz48_0 : w47.cell? ⟨gb202, 0, none⟩ = some (.int .i64 t192) := (blk_cell BK202.out 0).trans rfl; have hcz48_1 : w47.cell? ⟨gb202, 1, none⟩ = some (.int .i64 t193) := (blk_cell BK202.out 1).trans rfl; have hcz48_2 : w47.cell? ⟨gb202, 2, none⟩ = some (.int .i64 t194) := (blk_cell BK202.out 2).trans rfl; have hcz48_3 : w47.cell? ⟨gb202, 3, none⟩ = some (.int .i64 t195) := (blk_cell BK202.out 3).trans rfl; have hcz48_4 : w47.cell? ⟨gb202, 4, none⟩ = some (.int .i64 (wrap64 (Int.tmod a2 60))) := (blk_cell BK202.out 4).trans rfl; have hcz48_5 : w47.cell? ⟨gb202, 5, none⟩ = some (.int .i64 t197) := (blk_cell BK202.out 5).trans rfl; have hcz48_6 : w47.cell? ⟨gb202, 6, none⟩ = some (.int .i64 t198) := (blk_cell BK202.out 6).trans rfl; have hcz48_7 : w47.cell? ⟨gb202, 7, none⟩ = some (.int .i64 t199) := (blk_cell BK202.out 7).trans rfl; have hcz48_8 : w47.cell? ⟨gb202, 8, none⟩ = some (.bool t200) := (blk_cell BK202.out 8).trans rfl; have hcz48_9 : w47.cell? ⟨gb202, 9, none⟩ = some (.bool t201) := (blk_cell BK202.out 9).trans rfl; have hfz48_0 := blk_frozen BK202.out 0; have hfz48_1 := blk_frozen BK202.out 1; have hfz48_2 := blk_frozen BK202.out 2; have hfz48_3 := blk_frozen BK202.out 3; have hfz48_4 := blk_frozen BK202.out 4; have hfz48_5 := blk_frozen BK202.out 5; have hfz48_6 := blk_frozen BK202.out 6; have hfz48_7 := blk_frozen BK202.out 7; have hfz48_8 := blk_frozen BK202.out 8; have hfz48_9 := blk_frozen BK202.out 9))
                        go_ret
                        exact ⟨by first | rfl | (simp [errW_none, errW_some] <;> rfl) | (simp [*, errW_none, errW_some] <;> rfl), by repeat (first | (with_reducible first | exact HB.out | apply below_alloc | apply pw_below_drewN | apply below_drew1 | refine below_set ?_ GE202.out) | exact HB.out)⟩
                      · rw [if_neg c41] at H
                        have c41b0 : (t208 == (wrap64 (a0))) = false := beq_eq_false_iff_ne.mpr c41
                        have c41b1 : (t208 != (wrap64 (a0))) = true := bne_iff_ne.mpr c41
                        exact absurd ((Option.some.inj H).trans HT.out) (by decide)
                    · rw [if_neg c40] at H
                      have c40b0 : (t209 == 0) = false := beq_eq_false_iff_ne.mpr c40
                      have c40b1 : (t209 != 0) = true := bne_iff_ne.mpr c40
                      exact absurd ((Option.some.inj H).trans HT.out) (by decide)
                · rw [if_neg c28] at H
                  exact absurd H (by simp)
              · rw [if_neg c25] at H
                exact absurd H (by simp)
            · rw [if_neg c24] at H
              exact absurd H (by simp)
  · replace c5 := Bool.eq_false_iff.mpr c5
    subst c5
    rw [if_neg (show ¬ (false = true) by decide)] at H
    exact absurd ((Option.some.inj H).trans HT.out) (by decide)

/-- THE ONE PURE STATEMENT of parallaxlaw11_ChunkExts: yours. -/
def parallaxlaw11_ChunkExts.Pure : Prop := ∀ (a0 : Int) (l1 : List Int) (a2 : Int), (Lit.int .u16 a0).wf = true → l1.length ≤ maxLen → l1.length * 1 ≤ 140737488351232 → (∀ x ∈ l1, (Lit.int .u8 x).wf = true) → (Lit.int .u8 a2).wf = true → ∃ k, parallaxlaw11_ChunkExts.f k a0 l1 a2 = some true

end Go.Proofs.YtihcmknbdjmcdaaDoor.PChunkExts
