-- Written by a program of this session (wip/tools/myprint.sh)
import Derived.Test.YtihcmknbdjmcdaaDoorPChunkExtsx0
import Derived.Test.YtihcmknbdjmcdaaDoorPChunkExtsx1
import Derived.Test.YtihcmknbdjmcdaaDoorPChunkExtsx2
namespace Go.Proofs.YtihcmknbdjmcdaaDoor.PChunkExts
open Go.RowKit Go.Proofs.YtihcmknbdjmcdaaDoorW.PrintWords Go.Proofs.YtihcmknbdjmcdaaDoorW.PrintLast Go.Proofs.YtihcmknbdjmcdaaDoorW.PrintMore
attribute [local go_sem] max2_int min2_int max_two min_two max_three min_three max_four min_four   -- for this text's walks alone
set_option linter.unusedVariables false
set_option linter.unusedSimpArgs false

/-! ### chunk_Size: function 13 -/
mutual
def chunk_Size.j0 : Nat → Int → ByteArray → Bool → Int → Int → Int → Int → Int → Int → Int → Int → Bool → Bool → Option (Int × Int)
  | 0, _, _, _, _, _, _, _, _, _, _, _, _, _ => none
  | k + 1, x1, x8, x34, x132000, x132001, x132002, x132003, x132004, x132005, x132006, x132007, x132008, x132009 => if x34 = true then (some (0, 400)) else ((quirks_Has.f x1 28).bind fun t139 => (if t139 = true then ((text_Trim.f x8).bind fun t140 => (chunk_Size.j1 k x1 t140 x132000 x132001 x132002 x132003 x132004 x132005 x132006 x132007 x132008 x132009)) else (chunk_Size.j1 k x1 x8 x132000 x132001 x132002 x132003 x132004 x132005 x132006 x132007 x132008 x132009)))
def chunk_Size.j1 : Nat → Int → ByteArray → Int → Int → Int → Int → Int → Int → Int → Int → Bool → Bool → Option (Int × Int)
  | 0, _, _, _, _, _, _, _, _, _, _, _, _ => none
  | k + 1, x1, x8, x132000, x132001, x132002, x132003, x132004, x132005, x132006, x132007, x132008, x132009 => (quirks_Has.f x1 27).bind fun t141 => (if t141 = true then ((strings_HasPrefix.f x8 (⟨#[48, 120]⟩ : ByteArray)).bind fun t142 => (if t142 = true then (chunk_Size.j2 k x8 true x132000 x132001 x132002 x132003 x132004 x132005 x132006 x132007 x132008 x132009) else ((strings_HasPrefix.f x8 (⟨#[48, 88]⟩ : ByteArray)).bind fun t143 => (chunk_Size.j2 k x8 t143 x132000 x132001 x132002 x132003 x132004 x132005 x132006 x132007 x132008 x132009)))) else (chunk_Size.j2 k x8 false x132000 x132001 x132002 x132003 x132004 x132005 x132006 x132007 x132008 x132009))
def chunk_Size.j2 : Nat → ByteArray → Bool → Int → Int → Int → Int → Int → Int → Int → Int → Bool → Bool → Option (Int × Int)
  | 0, _, _, _, _, _, _, _, _, _, _, _, _ => none
  | k + 1, x8, x48, x132000, x132001, x132002, x132003, x132004, x132005, x132006, x132007, x132008, x132009 => if x48 = true then (if 2 ≤ (x8.size : Int) then (chunk_Size.j3 k (x8.extract 2 x8.size) x132000 x132001 x132002 x132003 x132004 x132005 x132006 x132007 x132008 x132009) else (none)) else (chunk_Size.j3 k x8 x132000 x132001 x132002 x132003 x132004 x132005 x132006 x132007 x132008 x132009)
def chunk_Size.j3 : Nat → ByteArray → Int → Int → Int → Int → Int → Int → Int → Int → Bool → Bool → Option (Int × Int)
  | 0, _, _, _, _, _, _, _, _, _, _, _ => none
  | k + 1, x8, x132000, x132001, x132002, x132003, x132004, x132005, x132006, x132007, x132008, x132009 => (number_Hex.f k x8 x132003).bind fun bt144 => (if bt144.2 = 23 then (some (0, 413)) else (if bt144.2 = 22 then (some (0, 400)) else (some (bt144.1, 0))))
end
def chunk_Size.f (k : Nat) (a0 : ByteArray) (a1 : Int) (a2_0 : Int) (a2_1 : Int) (a2_2 : Int) (a2_3 : Int) (a2_4 : Int) (a2_5 : Int) (a2_6 : Int) (a2_7 : Int) (a2_8 : Bool) (a2_9 : Bool) : Option (Int × Int) := (strings_Cut.f a0 (⟨#[59]⟩ : ByteArray)).bind fun bt132 => (if 0 ≤ (bt132.1.size : Int) then (if (bt132.1.size : Int) ≤ (a0.size : Int) then (if ((a0.extract bt132.1.size a0.size).size : Int) > a2_4 then (chunk_Size.j0 k a1 bt132.1 true a2_0 a2_1 a2_2 a2_3 a2_4 a2_5 a2_6 a2_7 a2_8 a2_9) else ((octet_All.f k (a0.extract bt132.1.size a0.size) (([6] : List Int))).bind fun t138 => (chunk_Size.j0 k a1 bt132.1 (!t138) a2_0 a2_1 a2_2 a2_3 a2_4 a2_5 a2_6 a2_7 a2_8 a2_9))) else (none)) else (none))
theorem chunk_Size.mono_l : ∀ k, (∀ y0 y1 y2 y3 y4 y5 y6 y7 y8 y9 y10 y11 y12, LeO (chunk_Size.j0 k y0 y1 y2 y3 y4 y5 y6 y7 y8 y9 y10 y11 y12) (chunk_Size.j0 (k + 1) y0 y1 y2 y3 y4 y5 y6 y7 y8 y9 y10 y11 y12)) ∧ (∀ y0 y1 y2 y3 y4 y5 y6 y7 y8 y9 y10 y11, LeO (chunk_Size.j1 k y0 y1 y2 y3 y4 y5 y6 y7 y8 y9 y10 y11) (chunk_Size.j1 (k + 1) y0 y1 y2 y3 y4 y5 y6 y7 y8 y9 y10 y11)) ∧ (∀ y0 y1 y2 y3 y4 y5 y6 y7 y8 y9 y10 y11, LeO (chunk_Size.j2 k y0 y1 y2 y3 y4 y5 y6 y7 y8 y9 y10 y11) (chunk_Size.j2 (k + 1) y0 y1 y2 y3 y4 y5 y6 y7 y8 y9 y10 y11)) ∧ (∀ y0 y1 y2 y3 y4 y5 y6 y7 y8 y9 y10, LeO (chunk_Size.j3 k y0 y1 y2 y3 y4 y5 y6 y7 y8 y9 y10) (chunk_Size.j3 (k + 1) y0 y1 y2 y3 y4 y5 y6 y7 y8 y9 y10))
  | 0 => ⟨fun _ _ _ _ _ _ _ _ _ _ _ _ _ r h => by simp [chunk_Size.j0] at h, fun _ _ _ _ _ _ _ _ _ _ _ _ r h => by simp [chunk_Size.j1] at h, fun _ _ _ _ _ _ _ _ _ _ _ _ r h => by simp [chunk_Size.j2] at h, fun _ _ _ _ _ _ _ _ _ _ _ r h => by simp [chunk_Size.j3] at h⟩
  | k + 1 => by
    obtain ⟨ih0, ih1, ih2, ih3⟩ := chunk_Size.mono_l k
    refine ⟨?_, ?_, ?_, ?_⟩
    · intro y0 y1 y2 y3 y4 y5 y6 y7 y8 y9 y10 y11 y12
      unfold chunk_Size.j0
      repeat' first
      | (with_reducible exact ih0 _ _ _ _ _ _ _ _ _ _ _ _ _)
      | (with_reducible exact ih1 _ _ _ _ _ _ _ _ _ _ _ _)
      | (with_reducible exact ih2 _ _ _ _ _ _ _ _ _ _ _ _)
      | (with_reducible exact ih3 _ _ _ _ _ _ _ _ _ _ _)
      | (with_reducible exact number_Hex.mono _ _ _)
      | (with_reducible exact octet_All.mono _ _ _)
      | (with_reducible exact LeO.refl _)
      | (with_reducible exact LeO.none _)
      | (with_reducible refine LeO.ite ?_ ?_)
      | (with_reducible refine LeO.bind ?_ (fun _ => ?_))
      | exact ih0 _ _ _ _ _ _ _ _ _ _ _ _ _
      | exact ih1 _ _ _ _ _ _ _ _ _ _ _ _
      | exact ih2 _ _ _ _ _ _ _ _ _ _ _ _
      | exact ih3 _ _ _ _ _ _ _ _ _ _ _
      | exact number_Hex.mono _ _ _
      | exact octet_All.mono _ _ _
      | exact LeO.none _
      | refine LeO.ite ?_ ?_
      | refine LeO.bind ?_ (fun _ => ?_)
    · intro y0 y1 y2 y3 y4 y5 y6 y7 y8 y9 y10 y11
      unfold chunk_Size.j1
      repeat' first
      | (with_reducible exact ih0 _ _ _ _ _ _ _ _ _ _ _ _ _)
      | (with_reducible exact ih1 _ _ _ _ _ _ _ _ _ _ _ _)
      | (with_reducible exact ih2 _ _ _ _ _ _ _ _ _ _ _ _)
      | (with_reducible exact ih3 _ _ _ _ _ _ _ _ _ _ _)
      | (with_reducible exact number_Hex.mono _ _ _)
      | (with_reducible exact octet_All.mono _ _ _)
      | (with_reducible exact LeO.refl _)
      | (with_reducible exact LeO.none _)
      | (with_reducible refine LeO.ite ?_ ?_)
      | (with_reducible refine LeO.bind ?_ (fun _ => ?_))
      | exact ih0 _ _ _ _ _ _ _ _ _ _ _ _ _
      | exact ih1 _ _ _ _ _ _ _ _ _ _ _ _
      | exact ih2 _ _ _ _ _ _ _ _ _ _ _ _
      | exact ih3 _ _ _ _ _ _ _ _ _ _ _
      | exact number_Hex.mono _ _ _
      | exact octet_All.mono _ _ _
      | exact LeO.none _
      | refine LeO.ite ?_ ?_
      | refine LeO.bind ?_ (fun _ => ?_)
    · intro y0 y1 y2 y3 y4 y5 y6 y7 y8 y9 y10 y11
      unfold chunk_Size.j2
      repeat' first
      | (with_reducible exact ih0 _ _ _ _ _ _ _ _ _ _ _ _ _)
      | (with_reducible exact ih1 _ _ _ _ _ _ _ _ _ _ _ _)
      | (with_reducible exact ih2 _ _ _ _ _ _ _ _ _ _ _ _)
      | (with_reducible exact ih3 _ _ _ _ _ _ _ _ _ _ _)
      | (with_reducible exact number_Hex.mono _ _ _)
      | (with_reducible exact octet_All.mono _ _ _)
      | (with_reducible exact LeO.refl _)
      | (with_reducible exact LeO.none _)
      | (with_reducible refine LeO.ite ?_ ?_)
      | (with_reducible refine LeO.bind ?_ (fun _ => ?_))
      | exact ih0 _ _ _ _ _ _ _ _ _ _ _ _ _
      | exact ih1 _ _ _ _ _ _ _ _ _ _ _ _
      | exact ih2 _ _ _ _ _ _ _ _ _ _ _ _
      | exact ih3 _ _ _ _ _ _ _ _ _ _ _
      | exact number_Hex.mono _ _ _
      | exact octet_All.mono _ _ _
      | exact LeO.none _
      | refine LeO.ite ?_ ?_
      | refine LeO.bind ?_ (fun _ => ?_)
    · intro y0 y1 y2 y3 y4 y5 y6 y7 y8 y9 y10
      unfold chunk_Size.j3
      repeat' first
      | (with_reducible exact ih0 _ _ _ _ _ _ _ _ _ _ _ _ _)
      | (with_reducible exact ih1 _ _ _ _ _ _ _ _ _ _ _ _)
      | (with_reducible exact ih2 _ _ _ _ _ _ _ _ _ _ _ _)
      | (with_reducible exact ih3 _ _ _ _ _ _ _ _ _ _ _)
      | (with_reducible exact number_Hex.mono _ _ _)
      | (with_reducible exact octet_All.mono _ _ _)
      | (with_reducible exact LeO.refl _)
      | (with_reducible exact LeO.none _)
      | (with_reducible refine LeO.ite ?_ ?_)
      | (with_reducible refine LeO.bind ?_ (fun _ => ?_))
      | exact ih0 _ _ _ _ _ _ _ _ _ _ _ _ _
      | exact ih1 _ _ _ _ _ _ _ _ _ _ _ _
      | exact ih2 _ _ _ _ _ _ _ _ _ _ _ _
      | exact ih3 _ _ _ _ _ _ _ _ _ _ _
      | exact number_Hex.mono _ _ _
      | exact octet_All.mono _ _ _
      | exact LeO.none _
      | refine LeO.ite ?_ ?_
      | refine LeO.bind ?_ (fun _ => ?_)
theorem chunk_Size.mono : ∀ a0 a1 a2 a3 a4 a5 a6 a7 a8 a9 a10 a11 k, LeO (chunk_Size.f k a0 a1 a2 a3 a4 a5 a6 a7 a8 a9 a10 a11) (chunk_Size.f (k + 1) a0 a1 a2 a3 a4 a5 a6 a7 a8 a9 a10 a11) := by
  intro a0 a1 a2 a3 a4 a5 a6 a7 a8 a9 a10 a11 k
  obtain ⟨ih0, ih1, ih2, ih3⟩ := chunk_Size.mono_l k
  unfold chunk_Size.f
  repeat' first
      | (with_reducible exact ih0 _ _ _ _ _ _ _ _ _ _ _ _ _)
      | (with_reducible exact ih1 _ _ _ _ _ _ _ _ _ _ _ _)
      | (with_reducible exact ih2 _ _ _ _ _ _ _ _ _ _ _ _)
      | (with_reducible exact ih3 _ _ _ _ _ _ _ _ _ _ _)
      | (with_reducible exact number_Hex.mono _ _ _)
      | (with_reducible exact octet_All.mono _ _ _)
      | (with_reducible exact LeO.refl _)
      | (with_reducible exact LeO.none _)
      | (with_reducible refine LeO.ite ?_ ?_)
      | (with_reducible refine LeO.bind ?_ (fun _ => ?_))
      | exact ih0 _ _ _ _ _ _ _ _ _ _ _ _ _
      | exact ih1 _ _ _ _ _ _ _ _ _ _ _ _
      | exact ih2 _ _ _ _ _ _ _ _ _ _ _ _
      | exact ih3 _ _ _ _ _ _ _ _ _ _ _
      | exact number_Hex.mono _ _ _
      | exact octet_All.mono _ _ _
      | exact LeO.none _
      | refine LeO.ite ?_ ?_
      | refine LeO.bind ?_ (fun _ => ?_)
set_option maxHeartbeats 8000000 in
set_option maxRecDepth 100000 in
theorem chunk_Size.calls (k : Nat) (a0 : ByteArray) (a1 : Int) (a2_0 : Int) (a2_1 : Int) (a2_2 : Int) (a2_3 : Int) (a2_4 : Int) (a2_5 : Int) (a2_6 : Int) (a2_7 : Int) (a2_8 : Bool) (a2_9 : Bool) (r1 : Int) (r2 : Int) (w : World) (h : chunk_Size.f k a0 a1 a2_0 a2_1 a2_2 a2_3 a2_4 a2_5 a2_6 a2_7 a2_8 a2_9 = some (r1, r2)) :
    Calls Tryd.prog 13 #[.string a0, .int .u32 a1, .agg #[.int .i64 a2_0, .int .i64 a2_1, .int .i64 a2_2, .int .i64 a2_3, .int .i64 a2_4, .int .i64 a2_5, .int .i64 a2_6, .int .i64 a2_7, .bool a2_8, .bool a2_9]] w fun e w' => e = .returned (.tuple #[.int .i64 r1, .int .i64 r2]) ∧ Below w.heap.size w w' := by
  have hu29 := Tryd.underlying29
  have HB := Aside0.mk (Below.refl w.heap.size w)
  have H : ((strings_Cut.f a0 (⟨#[59]⟩ : ByteArray)).bind fun bt132 => (if 0 ≤ (bt132.1.size : Int) then (if (bt132.1.size : Int) ≤ (a0.size : Int) then (if ((a0.extract bt132.1.size a0.size).size : Int) > a2_4 then (chunk_Size.j0 k a1 bt132.1 true a2_0 a2_1 a2_2 a2_3 a2_4 a2_5 a2_6 a2_7 a2_8 a2_9) else ((octet_All.f k (a0.extract bt132.1.size a0.size) (([6] : List Int))).bind fun t138 => (chunk_Size.j0 k a1 bt132.1 (!t138) a2_0 a2_1 a2_2 a2_3 a2_4 a2_5 a2_6 a2_7 a2_8 a2_9))) else (none)) else (none))) = some (r1, r2) := h
  clear h
  replace H := Option.bind_eq_some_iff.mp H
  obtain ⟨⟨t132, t133, t134⟩, A40, H⟩ := H
  replace H : (if 0 ≤ (t132.size : Int) then (if (t132.size : Int) ≤ (a0.size : Int) then (if ((a0.extract t132.size a0.size).size : Int) > a2_4 then (chunk_Size.j0 k a1 t132 true a2_0 a2_1 a2_2 a2_3 a2_4 a2_5 a2_6 a2_7 a2_8 a2_9) else ((octet_All.f k (a0.extract t132.size a0.size) (([6] : List Int))).bind fun t138 => (chunk_Size.j0 k a1 t132 (!t138) a2_0 a2_1 a2_2 a2_3 a2_4 a2_5 a2_6 a2_7 a2_8 a2_9))) else (none)) else (none)) = some (r1, r2) := H
  have A4 := Aside0.mk A40
  clear A40
  by_cases c5 : 0 ≤ (t132.size : Int)
  · rw [if_pos c5] at H
    have c5b0 := eq_true c5
    have c5b1 : decide (0 ≤ (t132.size : Int)) = true := decide_eq_true c5
    clear c5
    by_cases c6 : (t132.size : Int) ≤ (a0.size : Int)
    · rw [if_pos c6] at H
      have c6b0 := eq_true c6
      have c6b1 : decide ((t132.size : Int) ≤ (a0.size : Int)) = true := decide_eq_true c6
      clear c6
      have HC7 := Aside0.mk H
      clear H
      go_enter Tryd.func13, Tryd.ntmps13
      go_upto_region 3 with (first | ((with_reducible refine gate_dst (N := 5) rfl ?_); (try (refine gate_guard (by rfl) ?_; dsimp only)); refine box_event ?hg (N := 5) ?hd (cs := #[.int .i64 a2_0, .int .i64 a2_1, .int .i64 a2_2, .int .i64 a2_3, .int .i64 a2_4, .int .i64 a2_5, .int .i64 a2_6, .int .i64 a2_7, .bool a2_8, .bool a2_9]) (t := 29) ?hr ?_; (case hd => rfl); (case hg => rfl); (case hr => first | (go_simp; done) | (go_simp; rfl)); intro gb131 hg w8 hbox hb; have n0_ := Aside0.mk (below_step (by repeat (first | (with_reducible first | exact HB.out | apply below_alloc | apply pw_below_drewN | apply below_drew1) | exact HB.out)) hb); have n1_ := Aside0.mk (hbox); have n2_ := Aside0.mk ((by rw [hg]; exact (below_size (by repeat (first | (with_reducible first | exact HB.out | apply below_alloc | apply pw_below_drewN | apply below_drew1) | exact HB.out))) : w.heap.size ≤ gb131)); have n3_ := Aside0.mk ((by rw [hg]; exact (below_size (by repeat (first | (with_reducible first | exact HB.out | apply below_alloc | apply pw_below_drewN | apply below_drew1) | exact HB.out))) : w.heap.size ≤ gb131)); clear HB; have HB := n0_; have BK131 := n1_; have GW131 := n2_; have GE131 := n3_; clear n0_ n1_ n2_ n3_; clear hb hbox hg) | ((with_reducible refine gate_callee (f := 19) rfl ?_); refine goesL_ (some 16) rfl rfl Tryd.func19 (by kernel_rfl) rfl #[.string a0, .string (⟨#[59]⟩ : ByteArray)] rfl (by (try simp only [List.map_toArray, List.map_cons, List.map_nil]); first | done | rfl | (simp only [List.length_drop, List.length_take]; rfl)) ?_; (with_reducible refine (strings_Cut.calls a0 (⟨#[59]⟩ : ByteArray) t132 t133 t134 _ A4.out).mono ?_); rintro e w' ⟨rfl, ⟨nd, rfl⟩⟩; refine ⟨_, rfl, ?_⟩))
      (try simp only [Act.put, List.setIfInBounds_toArray, List.set_cons_zero, List.set_cons_succ])
      go_cut [34] (fun v34 wc => ∃ (kq : Nat) (x34_6 : Bool), v34 = .bool x34_6 ∧ Aside0 (chunk_Size.j0 kq a1 t132 x34_6 a2_0 a2_1 a2_2 a2_3 a2_4 a2_5 a2_6 a2_7 a2_8 a2_9 = some (r1, r2)) ∧ Aside0 (kq ≤ k) ∧ Aside0 (wc.heap[gb131]? = some (.cells #[.int .i64 a2_0, .int .i64 a2_1, .int .i64 a2_2, .int .i64 a2_3, .int .i64 a2_4, .int .i64 a2_5, .int .i64 a2_6, .int .i64 a2_7, .bool a2_8, .bool a2_9] 29 (0, 0))) ∧ Aside0 (Below w.heap.size w wc))
      case first =>
        have H := HC7.out
        clear HC7
        by_cases c9 : ((a0.extract t132.size a0.size).size : Int) > a2_4
        · rw [if_pos c9] at H
          have c9b0 : decide (a2_4 < ((a0.extract t132.size a0.size).size : Int)) = true := decide_eq_true c9
          (try (have c9b0n := c9b0; simp only [ByteArray.size_extract, Nat.min_self, Int.toNat_natCast] at c9b0n))
          clear c9
          (first | rw [c9b0] | (simp only [i64_w, i32_w]; rw [c9b0]) | skip)
          have H' := Aside0.mk H
          clear H
          have hcz10_0 : w8.cell? ⟨gb131, 0, none⟩ = some (.int .i64 a2_0) := (blk_cell BK131.out 0).trans rfl
          have hcz10_1 : w8.cell? ⟨gb131, 1, none⟩ = some (.int .i64 a2_1) := (blk_cell BK131.out 1).trans rfl
          have hcz10_2 : w8.cell? ⟨gb131, 2, none⟩ = some (.int .i64 a2_2) := (blk_cell BK131.out 2).trans rfl
          have hcz10_3 : w8.cell? ⟨gb131, 3, none⟩ = some (.int .i64 a2_3) := (blk_cell BK131.out 3).trans rfl
          have hcz10_4 : w8.cell? ⟨gb131, 4, none⟩ = some (.int .i64 a2_4) := (blk_cell BK131.out 4).trans rfl
          have hcz10_5 : w8.cell? ⟨gb131, 5, none⟩ = some (.int .i64 a2_5) := (blk_cell BK131.out 5).trans rfl
          have hcz10_6 : w8.cell? ⟨gb131, 6, none⟩ = some (.int .i64 a2_6) := (blk_cell BK131.out 6).trans rfl
          have hcz10_7 : w8.cell? ⟨gb131, 7, none⟩ = some (.int .i64 a2_7) := (blk_cell BK131.out 7).trans rfl
          have hcz10_8 : w8.cell? ⟨gb131, 8, none⟩ = some (.bool a2_8) := (blk_cell BK131.out 8).trans rfl
          have hcz10_9 : w8.cell? ⟨gb131, 9, none⟩ = some (.bool a2_9) := (blk_cell BK131.out 9).trans rfl
          have hfz10_0 := blk_frozen BK131.out 0
          have hfz10_1 := blk_frozen BK131.out 1
          have hfz10_2 := blk_frozen BK131.out 2
          have hfz10_3 := blk_frozen BK131.out 3
          have hfz10_4 := blk_frozen BK131.out 4
          have hfz10_5 := blk_frozen BK131.out 5
          have hfz10_6 := blk_frozen BK131.out 6
          have hfz10_7 := blk_frozen BK131.out 7
          have hfz10_8 := blk_frozen BK131.out 8
          have hfz10_9 := blk_frozen BK131.out 9
          go_wp2
          go_meet
          case rel => exact ⟨_, (true), (by first | rfl | (simp; done) | (simp [*]; done)), H', ⟨by first | omega | exact Nat.le_refl _⟩, ⟨by (with_reducible repeat (first | refine blk_drewN ?_ _ | refine blk_drew ?_ | refine blk_alloc ?_ _)); exact BK131.out⟩, ⟨by repeat (first | (with_reducible first | exact HB.out | apply below_alloc | apply pw_below_drewN | apply below_drew1 | refine below_set ?_ GE131.out) | exact HB.out)⟩⟩
        · rw [if_neg c9] at H
          have c9b0 : decide (a2_4 < ((a0.extract t132.size a0.size).size : Int)) = false := decide_eq_false c9
          (try (have c9b0n := c9b0; simp only [ByteArray.size_extract, Nat.min_self, Int.toNat_natCast] at c9b0n))
          clear c9
          (first | rw [c9b0] | (simp only [i64_w, i32_w]; rw [c9b0]) | skip)
          obtain ⟨y135, hy135⟩ : ∃ y_ : List Int, y_ = (([6] : List Int)) := ⟨_, rfl⟩
          replace H : ((octet_All.f k (a0.extract t132.size a0.size) y135).bind fun t138 => (chunk_Size.j0 k a1 t132 (!t138) a2_0 a2_1 a2_2 a2_3 a2_4 a2_5 a2_6 a2_7 a2_8 a2_9)) = some (r1, r2) := by first | (rw [hy135]; with_reducible exact H) | (have H2_ := (Option.bind_some _ _).symm.trans H; rw [hy135]; with_reducible exact H2_) | (have H2_ := (Option.bind_some _ _).symm.trans H; with_reducible exact H2_) | with_reducible exact H | (rw [hy135]; exact H) | exact H
          have Ny135 := Aside0.mk hy135
          clear hy135
          replace H := Option.bind_eq_some_iff.mp H
          obtain ⟨t138, A110, H⟩ := H
          replace H : (chunk_Size.j0 k a1 t132 (!t138) a2_0 a2_1 a2_2 a2_3 a2_4 a2_5 a2_6 a2_7 a2_8 a2_9) = some (r1, r2) := H
          have A11 := Aside0.mk A110
          clear A110
          have H' := Aside0.mk H
          clear H
          have hcz12_0 : w8.cell? ⟨gb131, 0, none⟩ = some (.int .i64 a2_0) := (blk_cell BK131.out 0).trans rfl
          have hcz12_1 : w8.cell? ⟨gb131, 1, none⟩ = some (.int .i64 a2_1) := (blk_cell BK131.out 1).trans rfl
          have hcz12_2 : w8.cell? ⟨gb131, 2, none⟩ = some (.int .i64 a2_2) := (blk_cell BK131.out 2).trans rfl
          have hcz12_3 : w8.cell? ⟨gb131, 3, none⟩ = some (.int .i64 a2_3) := (blk_cell BK131.out 3).trans rfl
          have hcz12_4 : w8.cell? ⟨gb131, 4, none⟩ = some (.int .i64 a2_4) := (blk_cell BK131.out 4).trans rfl
          have hcz12_5 : w8.cell? ⟨gb131, 5, none⟩ = some (.int .i64 a2_5) := (blk_cell BK131.out 5).trans rfl
          have hcz12_6 : w8.cell? ⟨gb131, 6, none⟩ = some (.int .i64 a2_6) := (blk_cell BK131.out 6).trans rfl
          have hcz12_7 : w8.cell? ⟨gb131, 7, none⟩ = some (.int .i64 a2_7) := (blk_cell BK131.out 7).trans rfl
          have hcz12_8 : w8.cell? ⟨gb131, 8, none⟩ = some (.bool a2_8) := (blk_cell BK131.out 8).trans rfl
          have hcz12_9 : w8.cell? ⟨gb131, 9, none⟩ = some (.bool a2_9) := (blk_cell BK131.out 9).trans rfl
          have hfz12_0 := blk_frozen BK131.out 0
          have hfz12_1 := blk_frozen BK131.out 1
          have hfz12_2 := blk_frozen BK131.out 2
          have hfz12_3 := blk_frozen BK131.out 3
          have hfz12_4 := blk_frozen BK131.out 4
          have hfz12_5 := blk_frozen BK131.out 5
          have hfz12_6 := blk_frozen BK131.out 6
          have hfz12_7 := blk_frozen BK131.out 7
          have hfz12_8 := blk_frozen BK131.out 8
          have hfz12_9 := blk_frozen BK131.out 9
          go_wp2_with (first | ((with_reducible refine gate_dst (N := 31) rfl ?_); (try (refine gate_guard (by rfl) ?_; dsimp only)); refine Kd.R_lit (Kd.int .i64) _ 3 ?hg (N := 31) ?hd (xs := ([6] : List Int)) (inner := [.int .i64 6]) (ok := fun _ => True) (okp := fun _ => True) ?hr ?hp (fun _ hk => hk) trivial (Below.refl _ _) (Nat.le_refl _) (by simp) ?_; (case hd => rfl); (case hg => rfl); (case hr => first | (go_simp; done) | (go_simp; rfl)); (case hp => exact (Reps.one (show Kd.M (Kd.int .i64) _ _ _ 6 [.int .i64 6] from rfl) (Reps.none _ _))); intro v136 w13 ho14 hb hg_ hnew_; clear hg_ hnew_; (first | rw [← Ny135.out] at ho14 | (simp only [Int.reduceToNat] at ho14; rw [← Ny135.out] at ho14)); have n0_ := Aside0.mk (Kd.R_lower ho14 (below_size (by repeat (first | (with_reducible first | exact HB.out | apply below_alloc | apply pw_below_drewN | apply below_drew1 | refine below_set ?_ GE131.out) | exact HB.out)))); have n1_ := Aside0.mk (blk_below (g := gb131) (o := .cells #[.int .i64 a2_0, .int .i64 a2_1, .int .i64 a2_2, .int .i64 a2_3, .int .i64 a2_4, .int .i64 a2_5, .int .i64 a2_6, .int .i64 a2_7, .bool a2_8, .bool a2_9] 29 (0, 0)) (by (with_reducible repeat (first | refine blk_drewN ?_ _ | refine blk_drew ?_ | refine blk_alloc ?_ _)); exact BK131.out) hb); have n2_ := Aside0.mk (below_step (by repeat (first | (with_reducible first | exact HB.out | apply below_alloc | apply pw_below_drewN | apply below_drew1 | refine below_set ?_ GE131.out) | exact HB.out)) hb); clear BK131; clear HB; have HO137 := n0_; have BK131 := n1_; have HB := n2_; clear n0_ n1_ n2_; clear hb ho14; obtain ⟨Ao15, co15, eo15⟩ := Kd.R_slice HO137.out; subst eo15) | (go_at_call 20; (with_reducible refine (octet_All.calls k (a0.extract t132.size a0.size) _ _ y135 t138 _ ?side1 ?side2 A11.out).mono ?_); (case side1 => repeat (first | exact (Kd.R_reads' HO137.out).2.2 | (with_reducible refine Kd.C_alloc ?_ _) | (with_reducible refine Kd.C_drewN ?_ _) | (with_reducible refine Kd.C_drew ?_))); (case side2 => exact (Kd.R_reads' HO137.out).2.1); rintro e w' ⟨rfl, ⟨nd, rfl⟩⟩))
          go_meet
          case rel => exact ⟨_, (!t138), (by first | rfl | (simp; done) | (simp [*]; done)), H', ⟨by first | omega | exact Nat.le_refl _⟩, ⟨by (with_reducible repeat (first | refine blk_drewN ?_ _ | refine blk_drew ?_ | refine blk_alloc ?_ _)); exact BK131.out⟩, ⟨by repeat (first | (with_reducible first | exact HB.out | apply below_alloc | apply pw_below_drewN | apply below_drew1 | refine below_set ?_ GE131.out) | exact HB.out)⟩⟩
      case rest =>
        clear HC7
        try clear c1
        try clear p2
        try clear c5
        try clear c5b0
        try clear c5b1
        try clear c6
        try clear c6b0
        try clear c6b1
        try clear c9
        try clear c9b0
        try clear c13
        try clear hcz10_0
        try clear hcz10_1
        try clear hcz10_2
        try clear hcz10_3
        try clear hcz10_4
        try clear hcz10_5
        try clear hcz10_6
        try clear hcz10_7
        try clear hcz10_8
        try clear hcz10_9
        try clear hcz12_0
        try clear hcz12_1
        try clear hcz12_2
        try clear hcz12_3
        try clear hcz12_4
        try clear hcz12_5
        try clear hcz12_6
        try clear hcz12_7
        try clear hcz12_8
        try clear hcz12_9
        try clear hfz10_0
        try clear hfz10_1
        try clear hfz10_2
        try clear hfz10_3
        try clear hfz10_4
        try clear hfz10_5
        try clear hfz10_6
        try clear hfz10_7
        try clear hfz10_8
        try clear hfz10_9
        try clear hfz12_0
        try clear hfz12_1
        try clear hfz12_2
        try clear hfz12_3
        try clear hfz12_4
        try clear hfz12_5
        try clear hfz12_6
        try clear hfz12_7
        try clear hfz12_8
        try clear hfz12_9
        obtain ⟨kq, x34_6, rfl, HA, HJ6, BK131, HB⟩ := hcut
        cases kq with
        | zero => exact absurd HA.out (by simp [chunk_Size.j0])
        | succ kj6 =>
          have H := HA.out
          clear HA
          simp only [chunk_Size.j0] at H
          by_cases c16 : x34_6 = true
          · subst c16
            have H1 : (some (0, 400)) = some (r1, r2) := by rw [if_pos rfl] at H; exact H
            clear H
            have H := H1
            clear H1
            simp only [Option.some.injEq, Prod.mk.injEq] at H
            obtain ⟨rfl, rfl⟩ := H
            go_wp2
            go_ret2
            exact ⟨by first | rfl | (simp [errW_none, errW_some] <;> rfl) | (simp [*, errW_none, errW_some] <;> rfl), by repeat (first | (with_reducible first | exact HB.out | apply below_alloc | apply pw_below_drewN | apply below_drew1 | refine below_set ?_ GE131.out) | exact HB.out)⟩
          · replace c16 := Bool.eq_false_iff.mpr c16
            subst c16
            have H1 : ((quirks_Has.f a1 28).bind fun t139 => (if t139 = true then ((text_Trim.f t132).bind fun t140 => (chunk_Size.j1 kj6 a1 t140 a2_0 a2_1 a2_2 a2_3 a2_4 a2_5 a2_6 a2_7 a2_8 a2_9)) else (chunk_Size.j1 kj6 a1 t132 a2_0 a2_1 a2_2 a2_3 a2_4 a2_5 a2_6 a2_7 a2_8 a2_9))) = some (r1, r2) := by rw [if_neg (show ¬ (false = true) by decide)] at H; exact H
            clear H
            have H := H1
            clear H1
            replace H := Option.bind_eq_some_iff.mp H
            obtain ⟨t139, A170, H⟩ := H
            replace H : (if t139 = true then ((text_Trim.f t132).bind fun t140 => (chunk_Size.j1 kj6 a1 t140 a2_0 a2_1 a2_2 a2_3 a2_4 a2_5 a2_6 a2_7 a2_8 a2_9)) else (chunk_Size.j1 kj6 a1 t132 a2_0 a2_1 a2_2 a2_3 a2_4 a2_5 a2_6 a2_7 a2_8 a2_9)) = some (r1, r2) := H
            have A17 := Aside0.mk A170
            clear A170
            have HC18 := Aside0.mk H
            clear H
            go_upto_if 36 with (first | ((with_reducible refine gate_callee (f := 21) rfl ?_); refine goesL_ (some 36) rfl rfl Tryd.func21 (by kernel_rfl) rfl #[.int .u32 a1, .int .i64 28] rfl (by (try simp only [List.map_toArray, List.map_cons, List.map_nil]); first | done | rfl | (simp only [List.length_drop, List.length_take]; rfl)) ?_; (with_reducible refine (quirks_Has.calls a1 28 t139 _ A17.out).mono ?_); rintro e w' ⟨rfl, ⟨nd, rfl⟩⟩; refine ⟨_, rfl, ?_⟩))
            (try simp only [Act.put, List.setIfInBounds_toArray, List.set_cons_zero, List.set_cons_succ])
            go_cut [8] (fun v8 wc => ∃ (kq : Nat) (x8_17 : ByteArray), v8 = .string x8_17 ∧ Aside0 (chunk_Size.j1 kq a1 x8_17 a2_0 a2_1 a2_2 a2_3 a2_4 a2_5 a2_6 a2_7 a2_8 a2_9 = some (r1, r2)) ∧ Aside0 (kq ≤ kj6) ∧ Aside0 (wc.heap[gb131]? = some (.cells #[.int .i64 a2_0, .int .i64 a2_1, .int .i64 a2_2, .int .i64 a2_3, .int .i64 a2_4, .int .i64 a2_5, .int .i64 a2_6, .int .i64 a2_7, .bool a2_8, .bool a2_9] 29 (0, 0))) ∧ Aside0 (Below w.heap.size w wc))
            case first =>
              have H := HC18.out
              clear HC18
              by_cases c19 : t139 = true
              · subst c19
                have H1 : ((text_Trim.f t132).bind fun t140 => (chunk_Size.j1 kj6 a1 t140 a2_0 a2_1 a2_2 a2_3 a2_4 a2_5 a2_6 a2_7 a2_8 a2_9)) = some (r1, r2) := by rw [if_pos rfl] at H; exact H
                clear H
                have H := H1
                clear H1
                replace H := Option.bind_eq_some_iff.mp H
                obtain ⟨t140, A200, H⟩ := H
                replace H : (chunk_Size.j1 kj6 a1 t140 a2_0 a2_1 a2_2 a2_3 a2_4 a2_5 a2_6 a2_7 a2_8 a2_9) = some (r1, r2) := H
                have A20 := Aside0.mk A200
                clear A200
                have H' := Aside0.mk H
                clear H
                go_wp2_with (first | ((with_reducible refine gate_callee (f := 22) rfl ?_); refine goesL_ (some 38) rfl rfl Tryd.func22 (by kernel_rfl) rfl #[.string t132] rfl (by (try simp only [List.map_toArray, List.map_cons, List.map_nil]); first | done | rfl | (simp only [List.length_drop, List.length_take]; rfl)) ?_; (with_reducible refine (text_Trim.calls t132 t140 _ A20.out).mono ?_); rintro e w' ⟨rfl, ⟨nd, rfl⟩⟩; refine ⟨_, rfl, ?_⟩))
                go_meet
                case rel => exact ⟨_, (t140), (by first | rfl | (simp; done) | (simp [*]; done)), H', ⟨by have := HJ6.out; first | omega | exact Nat.le_refl _⟩, ⟨by (with_reducible repeat (first | refine blk_drewN ?_ _ | refine blk_drew ?_ | refine blk_alloc ?_ _)); exact BK131.out⟩, ⟨by repeat (first | (with_reducible first | exact HB.out | apply below_alloc | apply pw_below_drewN | apply below_drew1 | refine below_set ?_ GE131.out) | exact HB.out)⟩⟩
              · replace c19 := Bool.eq_false_iff.mpr c19
                subst c19
                have H1 : (chunk_Size.j1 kj6 a1 t132 a2_0 a2_1 a2_2 a2_3 a2_4 a2_5 a2_6 a2_7 a2_8 a2_9) = some (r1, r2) := by rw [if_neg (show ¬ (false = true) by decide)] at H; exact H
                clear H
                have H := H1
                clear H1
                have H' := Aside0.mk H
                clear H
                go_wp2
                go_meet
                case rel => exact ⟨_, (t132), (by first | rfl | (simp; done) | (simp [*]; done)), H', ⟨by have := HJ6.out; first | omega | exact Nat.le_refl _⟩, ⟨by (with_reducible repeat (first | refine blk_drewN ?_ _ | refine blk_drew ?_ | refine blk_alloc ?_ _)); exact BK131.out⟩, ⟨by repeat (first | (with_reducible first | exact HB.out | apply below_alloc | apply pw_below_drewN | apply below_drew1 | refine below_set ?_ GE131.out) | exact HB.out)⟩⟩
            case rest =>
              clear HC18
              try clear c1
              try clear c2
              try clear p2
              try clear c5
              try clear c5b0
              try clear c5b1
              try clear c6
              try clear c6b0
              try clear c6b1
              try clear c9
              try clear c9b0
              try clear c13
              try clear c16
              try clear c19
              try clear hcz10_0
              try clear hcz10_1
              try clear hcz10_2
              try clear hcz10_3
              try clear hcz10_4
              try clear hcz10_5
              try clear hcz10_6
              try clear hcz10_7
              try clear hcz10_8
              try clear hcz10_9
              try clear hcz12_0
              try clear hcz12_1
              try clear hcz12_2
              try clear hcz12_3
              try clear hcz12_4
              try clear hcz12_5
              try clear hcz12_6
              try clear hcz12_7
              try clear hcz12_8
              try clear hcz12_9
              try clear hfz10_0
              try clear hfz10_1
              try clear hfz10_2
              try clear hfz10_3
              try clear hfz10_4
              try clear hfz10_5
              try clear hfz10_6
              try clear hfz10_7
              try clear hfz10_8
              try clear hfz10_9
              try clear hfz12_0
              try clear hfz12_1
              try clear hfz12_2
              try clear hfz12_3
              try clear hfz12_4
              try clear hfz12_5
              try clear hfz12_6
              try clear hfz12_7
              try clear hfz12_8
              try clear hfz12_9
              try clear p2
              obtain ⟨kq, x8_17, rfl, HA, HJ17, BK131, HB⟩ := hcut
              cases kq with
              | zero => exact absurd HA.out (by simp [chunk_Size.j1])
              | succ kj17 =>
                have H := HA.out
                clear HA
                simp only [chunk_Size.j1] at H
                have HC21 := Aside0.mk H
                clear H
                go_upto_region 7 with (fail)
                go_cut [48] (fun v48 wc => ∃ (kq : Nat) (x48_20 : Bool), v48 = .bool x48_20 ∧ Aside0 (chunk_Size.j2 kq x8_17 x48_20 a2_0 a2_1 a2_2 a2_3 a2_4 a2_5 a2_6 a2_7 a2_8 a2_9 = some (r1, r2)) ∧ Aside0 (kq ≤ kj17) ∧ Aside0 (wc.heap[gb131]? = some (.cells #[.int .i64 a2_0, .int .i64 a2_1, .int .i64 a2_2, .int .i64 a2_3, .int .i64 a2_4, .int .i64 a2_5, .int .i64 a2_6, .int .i64 a2_7, .bool a2_8, .bool a2_9] 29 (0, 0))) ∧ Aside0 (Below w.heap.size w wc))
                case first =>
                  have H := HC21.out
                  clear HC21
                  replace H := Option.bind_eq_some_iff.mp H
                  obtain ⟨t141, A220, H⟩ := H
                  replace H : (if t141 = true then ((strings_HasPrefix.f x8_17 (⟨#[48, 120]⟩ : ByteArray)).bind fun t142 => (if t142 = true then (chunk_Size.j2 kj17 x8_17 true a2_0 a2_1 a2_2 a2_3 a2_4 a2_5 a2_6 a2_7 a2_8 a2_9) else ((strings_HasPrefix.f x8_17 (⟨#[48, 88]⟩ : ByteArray)).bind fun t143 => (chunk_Size.j2 kj17 x8_17 t143 a2_0 a2_1 a2_2 a2_3 a2_4 a2_5 a2_6 a2_7 a2_8 a2_9)))) else (chunk_Size.j2 kj17 x8_17 false a2_0 a2_1 a2_2 a2_3 a2_4 a2_5 a2_6 a2_7 a2_8 a2_9)) = some (r1, r2) := H
                  have A22 := Aside0.mk A220
                  clear A220
                  by_cases c23 : t141 = true
                  · subst c23
                    have H1 : ((strings_HasPrefix.f x8_17 (⟨#[48, 120]⟩ : ByteArray)).bind fun t142 => (if t142 = true then (chunk_Size.j2 kj17 x8_17 true a2_0 a2_1 a2_2 a2_3 a2_4 a2_5 a2_6 a2_7 a2_8 a2_9) else ((strings_HasPrefix.f x8_17 (⟨#[48, 88]⟩ : ByteArray)).bind fun t143 => (chunk_Size.j2 kj17 x8_17 t143 a2_0 a2_1 a2_2 a2_3 a2_4 a2_5 a2_6 a2_7 a2_8 a2_9)))) = some (r1, r2) := by rw [if_pos rfl] at H; exact H
                    clear H
                    have H := H1
                    clear H1
                    replace H := Option.bind_eq_some_iff.mp H
                    obtain ⟨t142, A240, H⟩ := H
                    replace H : (if t142 = true then (chunk_Size.j2 kj17 x8_17 true a2_0 a2_1 a2_2 a2_3 a2_4 a2_5 a2_6 a2_7 a2_8 a2_9) else ((strings_HasPrefix.f x8_17 (⟨#[48, 88]⟩ : ByteArray)).bind fun t143 => (chunk_Size.j2 kj17 x8_17 t143 a2_0 a2_1 a2_2 a2_3 a2_4 a2_5 a2_6 a2_7 a2_8 a2_9))) = some (r1, r2) := H
                    have A24 := Aside0.mk A240
                    clear A240
                    by_cases c25 : t142 = true
                    · subst c25
                      have H1 : (chunk_Size.j2 kj17 x8_17 true a2_0 a2_1 a2_2 a2_3 a2_4 a2_5 a2_6 a2_7 a2_8 a2_9) = some (r1, r2) := by rw [if_pos rfl] at H; exact H
                      clear H
                      have H := H1
                      clear H1
                      have H' := Aside0.mk H
                      clear H
                      go_wp2_with (first | ((with_reducible refine gate_callee (f := 21) rfl ?_); refine goesL_ (some 40) rfl rfl Tryd.func21 (by kernel_rfl) rfl #[.int .u32 a1, .int .i64 27] rfl (by (try simp only [List.map_toArray, List.map_cons, List.map_nil]); first | done | rfl | (simp only [List.length_drop, List.length_take]; rfl)) ?_; (with_reducible refine (quirks_Has.calls a1 27 true _ A22.out).mono ?_); rintro e w' ⟨rfl, ⟨nd, rfl⟩⟩; refine ⟨_, rfl, ?_⟩) | (go_at_call 23; (with_reducible refine (strings_HasPrefix.calls x8_17 (⟨#[48, 120]⟩ : ByteArray) true _ A24.out).mono ?_); rintro e w' ⟨rfl, ⟨nd, rfl⟩⟩))
                      go_meet
                      case rel => exact ⟨_, (true), (by first | rfl | (simp; done) | (simp [*]; done)), H', ⟨by have := HJ6.out; have := HJ17.out; first | omega | exact Nat.le_refl _⟩, ⟨by (with_reducible repeat (first | refine blk_drewN ?_ _ | refine blk_drew ?_ | refine blk_alloc ?_ _)); exact BK131.out⟩, ⟨by repeat (first | (with_reducible first | exact HB.out | apply below_alloc | apply pw_below_drewN | apply below_drew1 | refine below_set ?_ GE131.out) | exact HB.out)⟩⟩
                    · replace c25 := Bool.eq_false_iff.mpr c25
                      subst c25
                      have H1 : ((strings_HasPrefix.f x8_17 (⟨#[48, 88]⟩ : ByteArray)).bind fun t143 => (chunk_Size.j2 kj17 x8_17 t143 a2_0 a2_1 a2_2 a2_3 a2_4 a2_5 a2_6 a2_7 a2_8 a2_9)) = some (r1, r2) := by rw [if_neg (show ¬ (false = true) by decide)] at H; exact H
                      clear H
                      have H := H1
                      clear H1
                      replace H := Option.bind_eq_some_iff.mp H
                      obtain ⟨t143, A260, H⟩ := H
                      replace H : (chunk_Size.j2 kj17 x8_17 t143 a2_0 a2_1 a2_2 a2_3 a2_4 a2_5 a2_6 a2_7 a2_8 a2_9) = some (r1, r2) := H
                      have A26 := Aside0.mk A260
                      clear A260
                      have H' := Aside0.mk H
                      clear H
                      go_wp2_with (first | ((with_reducible refine gate_callee (f := 21) rfl ?_); refine goesL_ (some 40) rfl rfl Tryd.func21 (by kernel_rfl) rfl #[.int .u32 a1, .int .i64 27] rfl (by (try simp only [List.map_toArray, List.map_cons, List.map_nil]); first | done | rfl | (simp only [List.length_drop, List.length_take]; rfl)) ?_; (with_reducible refine (quirks_Has.calls a1 27 true _ A22.out).mono ?_); rintro e w' ⟨rfl, ⟨nd, rfl⟩⟩; refine ⟨_, rfl, ?_⟩) | (go_at_call 23; (with_reducible refine (strings_HasPrefix.calls x8_17 (⟨#[48, 120]⟩ : ByteArray) false _ A24.out).mono ?_); rintro e w' ⟨rfl, ⟨nd, rfl⟩⟩) | (go_at_call 23; (with_reducible refine (strings_HasPrefix.calls x8_17 (⟨#[48, 88]⟩ : ByteArray) t143 _ A26.out).mono ?_); rintro e w' ⟨rfl, ⟨nd, rfl⟩⟩))
                      go_meet
                      case rel => exact ⟨_, (t143), (by first | rfl | (simp; done) | (simp [*]; done)), H', ⟨by have := HJ6.out; have := HJ17.out; first | omega | exact Nat.le_refl _⟩, ⟨by (with_reducible repeat (first | refine blk_drewN ?_ _ | refine blk_drew ?_ | refine blk_alloc ?_ _)); exact BK131.out⟩, ⟨by repeat (first | (with_reducible first | exact HB.out | apply below_alloc | apply pw_below_drewN | apply below_drew1 | refine below_set ?_ GE131.out) | exact HB.out)⟩⟩
                  · replace c23 := Bool.eq_false_iff.mpr c23
                    subst c23
                    have H1 : (chunk_Size.j2 kj17 x8_17 false a2_0 a2_1 a2_2 a2_3 a2_4 a2_5 a2_6 a2_7 a2_8 a2_9) = some (r1, r2) := by rw [if_neg (show ¬ (false = true) by decide)] at H; exact H
                    clear H
                    have H := H1
                    clear H1
                    have H' := Aside0.mk H
                    clear H
                    go_wp2_with (first | ((with_reducible refine gate_callee (f := 21) rfl ?_); refine goesL_ (some 40) rfl rfl Tryd.func21 (by kernel_rfl) rfl #[.int .u32 a1, .int .i64 27] rfl (by (try simp only [List.map_toArray, List.map_cons, List.map_nil]); first | done | rfl | (simp only [List.length_drop, List.length_take]; rfl)) ?_; (with_reducible refine (quirks_Has.calls a1 27 false _ A22.out).mono ?_); rintro e w' ⟨rfl, ⟨nd, rfl⟩⟩; refine ⟨_, rfl, ?_⟩))
                    go_meet
                    case rel => exact ⟨_, (false), (by first | rfl | (simp; done) | (simp [*]; done)), H', ⟨by have := HJ6.out; have := HJ17.out; first | omega | exact Nat.le_refl _⟩, ⟨by (with_reducible repeat (first | refine blk_drewN ?_ _ | refine blk_drew ?_ | refine blk_alloc ?_ _)); exact BK131.out⟩, ⟨by repeat (first | (with_reducible first | exact HB.out | apply below_alloc | apply pw_below_drewN | apply below_drew1 | refine below_set ?_ GE131.out) | exact HB.out)⟩⟩
                case rest =>
                  clear HC21
                  try clear c1
                  try clear c2
                  try clear p2
                  try clear c5
                  try clear c5b0
                  try clear c5b1
                  try clear c6
                  try clear c6b0
                  try clear c6b1
                  try clear c9
                  try clear c9b0
                  try clear c13
                  try clear c16
                  try clear c19
                  try clear c21
                  try clear c22
                  try clear c23
                  try clear c25
                  try clear hcz10_0
                  try clear hcz10_1
                  try clear hcz10_2
                  try clear hcz10_3
                  try clear hcz10_4
                  try clear hcz10_5
                  try clear hcz10_6
                  try clear hcz10_7
                  try clear hcz10_8
                  try clear hcz10_9
                  try clear hcz12_0
                  try clear hcz12_1
                  try clear hcz12_2
                  try clear hcz12_3
                  try clear hcz12_4
                  try clear hcz12_5
                  try clear hcz12_6
                  try clear hcz12_7
                  try clear hcz12_8
                  try clear hcz12_9
                  try clear hfz10_0
                  try clear hfz10_1
                  try clear hfz10_2
                  try clear hfz10_3
                  try clear hfz10_4
                  try clear hfz10_5
                  try clear hfz10_6
                  try clear hfz10_7
                  try clear hfz10_8
                  try clear hfz10_9
                  try clear hfz12_0
                  try clear hfz12_1
                  try clear hfz12_2
                  try clear hfz12_3
                  try clear hfz12_4
                  try clear hfz12_5
                  try clear hfz12_6
                  try clear hfz12_7
                  try clear hfz12_8
                  try clear hfz12_9
                  try clear p2
                  obtain ⟨kq, x48_20, rfl, HA, HJ20, BK131, HB⟩ := hcut
                  cases kq with
                  | zero => exact absurd HA.out (by simp [chunk_Size.j2])
                  | succ kj20 =>
                    have H := HA.out
                    clear HA
                    simp only [chunk_Size.j2] at H
                    have HC27 := Aside0.mk H
                    clear H
                    go_upto_if 48 with (fail)
                    go_cut [8] (fun v8 wc => ∃ (kq : Nat) (x8_26 : ByteArray), v8 = .string x8_26 ∧ Aside0 (chunk_Size.j3 kq x8_26 a2_0 a2_1 a2_2 a2_3 a2_4 a2_5 a2_6 a2_7 a2_8 a2_9 = some (r1, r2)) ∧ Aside0 (kq ≤ kj20) ∧ Aside0 (wc.heap[gb131]? = some (.cells #[.int .i64 a2_0, .int .i64 a2_1, .int .i64 a2_2, .int .i64 a2_3, .int .i64 a2_4, .int .i64 a2_5, .int .i64 a2_6, .int .i64 a2_7, .bool a2_8, .bool a2_9] 29 (0, 0))) ∧ Aside0 (Below w.heap.size w wc))
                    case first =>
                      have H := HC27.out
                      clear HC27
                      by_cases c28 : x48_20 = true
                      · subst c28
                        have H1 : (if 2 ≤ (x8_17.size : Int) then (chunk_Size.j3 kj20 (x8_17.extract 2 x8_17.size) a2_0 a2_1 a2_2 a2_3 a2_4 a2_5 a2_6 a2_7 a2_8 a2_9) else (none)) = some (r1, r2) := by rw [if_pos rfl] at H; exact H
                        clear H
                        have H := H1
                        clear H1
                        by_cases c29 : 2 ≤ (x8_17.size : Int)
                        · rw [if_pos c29] at H
                          have c29b0 := eq_true c29
                          have c29b1 : decide (2 ≤ (x8_17.size : Int)) = true := decide_eq_true c29
                          clear c29
                          have H' := Aside0.mk H
                          clear H
                          go_wp2
                          go_meet
                          case rel => exact ⟨_, (x8_17.extract 2 x8_17.size), (by first | rfl | (simp; done) | (simp [*]; done)), H', ⟨by have := HJ6.out; have := HJ17.out; have := HJ20.out; first | omega | exact Nat.le_refl _⟩, ⟨by (with_reducible repeat (first | refine blk_drewN ?_ _ | refine blk_drew ?_ | refine blk_alloc ?_ _)); exact BK131.out⟩, ⟨by repeat (first | (with_reducible first | exact HB.out | apply below_alloc | apply pw_below_drewN | apply below_drew1 | refine below_set ?_ GE131.out) | exact HB.out)⟩⟩
                        · rw [if_neg c29] at H
                          exact absurd H (by simp)
                      · replace c28 := Bool.eq_false_iff.mpr c28
                        subst c28
                        have H1 : (chunk_Size.j3 kj20 x8_17 a2_0 a2_1 a2_2 a2_3 a2_4 a2_5 a2_6 a2_7 a2_8 a2_9) = some (r1, r2) := by rw [if_neg (show ¬ (false = true) by decide)] at H; exact H
                        clear H
                        have H := H1
                        clear H1
                        have H' := Aside0.mk H
                        clear H
                        go_wp2
                        go_meet
                        case rel => exact ⟨_, (x8_17), (by first | rfl | (simp; done) | (simp [*]; done)), H', ⟨by have := HJ6.out; have := HJ17.out; have := HJ20.out; first | omega | exact Nat.le_refl _⟩, ⟨by (with_reducible repeat (first | refine blk_drewN ?_ _ | refine blk_drew ?_ | refine blk_alloc ?_ _)); exact BK131.out⟩, ⟨by repeat (first | (with_reducible first | exact HB.out | apply below_alloc | apply pw_below_drewN | apply below_drew1 | refine below_set ?_ GE131.out) | exact HB.out)⟩⟩
                    case rest =>
                      clear HC27
                      try clear c1
                      try clear c2
                      try clear p2
                      try clear c5
                      try clear c5b0
                      try clear c5b1
                      try clear c6
                      try clear c6b0
                      try clear c6b1
                      try clear c9
                      try clear c9b0
                      try clear c13
                      try clear c16
                      try clear c19
                      try clear c21
                      try clear c22
                      try clear c23
                      try clear c25
                      try clear c28
                      try clear c29
                      try clear c29b0
                      try clear c29b1
                      try clear hcz10_0
                      try clear hcz10_1
                      try clear hcz10_2
                      try clear hcz10_3
                      try clear hcz10_4
                      try clear hcz10_5
                      try clear hcz10_6
                      try clear hcz10_7
                      try clear hcz10_8
                      try clear hcz10_9
                      try clear hcz12_0
                      try clear hcz12_1
                      try clear hcz12_2
                      try clear hcz12_3
                      try clear hcz12_4
                      try clear hcz12_5
                      try clear hcz12_6
                      try clear hcz12_7
                      try clear hcz12_8
                      try clear hcz12_9
                      try clear hfz10_0
                      try clear hfz10_1
                      try clear hfz10_2
                      try clear hfz10_3
                      try clear hfz10_4
                      try clear hfz10_5
                      try clear hfz10_6
                      try clear hfz10_7
                      try clear hfz10_8
                      try clear hfz10_9
                      try clear hfz12_0
                      try clear hfz12_1
                      try clear hfz12_2
                      try clear hfz12_3
                      try clear hfz12_4
                      try clear hfz12_5
                      try clear hfz12_6
                      try clear hfz12_7
                      try clear hfz12_8
                      try clear hfz12_9
                      try clear p2
                      obtain ⟨kq, x8_26, rfl, HA, HJ26, BK131, HB⟩ := hcut
                      cases kq with
                      | zero => exact absurd HA.out (by simp [chunk_Size.j3])
                      | succ kj26 =>
                        have H := HA.out
                        clear HA
                        simp only [chunk_Size.j3] at H
                        replace H := Option.bind_eq_some_iff.mp H
                        obtain ⟨⟨t144, t145⟩, A300, H⟩ := H
                        replace H : (if t145 = 23 then (some (0, 413)) else (if t145 = 22 then (some (0, 400)) else (some (t144, 0)))) = some (r1, r2) := H
                        have A30 := Aside0.mk A300
                        clear A300
                        by_cases c31 : t145 = 23
                        · rw [if_pos c31] at H
                          have c31b0 : (t145 == 23) = true := beq_iff_eq.mpr c31
                          have c31b1 : (t145 != 23) = false := bne_eq_false_iff_eq.mpr c31
                          clear c31
                          simp only [Option.some.injEq, Prod.mk.injEq] at H
                          obtain ⟨rfl, rfl⟩ := H
                          have hcz32_0 : wc.cell? ⟨gb131, 0, none⟩ = some (.int .i64 a2_0) := (blk_cell BK131.out 0).trans rfl
                          have hcz32_1 : wc.cell? ⟨gb131, 1, none⟩ = some (.int .i64 a2_1) := (blk_cell BK131.out 1).trans rfl
                          have hcz32_2 : wc.cell? ⟨gb131, 2, none⟩ = some (.int .i64 a2_2) := (blk_cell BK131.out 2).trans rfl
                          have hcz32_3 : wc.cell? ⟨gb131, 3, none⟩ = some (.int .i64 a2_3) := (blk_cell BK131.out 3).trans rfl
                          have hcz32_4 : wc.cell? ⟨gb131, 4, none⟩ = some (.int .i64 a2_4) := (blk_cell BK131.out 4).trans rfl
                          have hcz32_5 : wc.cell? ⟨gb131, 5, none⟩ = some (.int .i64 a2_5) := (blk_cell BK131.out 5).trans rfl
                          have hcz32_6 : wc.cell? ⟨gb131, 6, none⟩ = some (.int .i64 a2_6) := (blk_cell BK131.out 6).trans rfl
                          have hcz32_7 : wc.cell? ⟨gb131, 7, none⟩ = some (.int .i64 a2_7) := (blk_cell BK131.out 7).trans rfl
                          have hcz32_8 : wc.cell? ⟨gb131, 8, none⟩ = some (.bool a2_8) := (blk_cell BK131.out 8).trans rfl
                          have hcz32_9 : wc.cell? ⟨gb131, 9, none⟩ = some (.bool a2_9) := (blk_cell BK131.out 9).trans rfl
                          have hfz32_0 := blk_frozen BK131.out 0
                          have hfz32_1 := blk_frozen BK131.out 1
                          have hfz32_2 := blk_frozen BK131.out 2
                          have hfz32_3 := blk_frozen BK131.out 3
                          have hfz32_4 := blk_frozen BK131.out 4
                          have hfz32_5 := blk_frozen BK131.out 5
                          have hfz32_6 := blk_frozen BK131.out 6
                          have hfz32_7 := blk_frozen BK131.out 7
                          have hfz32_8 := blk_frozen BK131.out 8
                          have hfz32_9 := blk_frozen BK131.out 9
                          go_wp2_with (first | ((with_reducible refine gate_callee (f := 24) rfl ?_); refine goesL_ (some 55) rfl rfl Tryd.func24 (by kernel_rfl) rfl #[.string x8_26, .int .i64 a2_3] rfl (by (try simp only [List.map_toArray, List.map_cons, List.map_nil]); first | done | rfl | (simp only [List.length_drop, List.length_take]; rfl)) ?_; (with_reducible refine (number_Hex.calls kj26 x8_26 a2_3 t144 t145 _ A30.out).mono ?_); rintro e w33 ⟨rfl, hb⟩; refine ⟨_, rfl, ?_⟩; have n0_ := Aside0.mk (blk_below (g := gb131) (o := .cells #[.int .i64 a2_0, .int .i64 a2_1, .int .i64 a2_2, .int .i64 a2_3, .int .i64 a2_4, .int .i64 a2_5, .int .i64 a2_6, .int .i64 a2_7, .bool a2_8, .bool a2_9] 29 (0, 0)) (by (with_reducible repeat (first | refine blk_drewN ?_ _ | refine blk_drew ?_ | refine blk_alloc ?_ _)); exact BK131.out) hb); have n1_ := Aside0.mk (below_step (by repeat (first | (with_reducible first | exact HB.out | apply below_alloc | apply pw_below_drewN | apply below_drew1 | refine below_set ?_ GE131.out) | exact HB.out)) hb); clear BK131; clear HB; have BK131 := n0_; have HB := n1_; clear n0_ n1_; (try clear hb); (try clear hb2); (try clear hk); (try clear hi)))
                          go_ret2
                          exact ⟨by first | rfl | (simp [errW_none, errW_some] <;> rfl) | (simp [*, errW_none, errW_some] <;> rfl), by repeat (first | (with_reducible first | exact HB.out | apply below_alloc | apply pw_below_drewN | apply below_drew1 | refine below_set ?_ GE131.out) | exact HB.out)⟩
                        · rw [if_neg c31] at H
                          have c31b0 : (t145 == 23) = false := beq_eq_false_iff_ne.mpr c31
                          have c31b1 : (t145 != 23) = true := bne_iff_ne.mpr c31
                          by_cases c34 : t145 = 22
                          · rw [if_pos c34] at H
                            have c34b0 : (t145 == 22) = true := beq_iff_eq.mpr c34
                            have c34b1 : (t145 != 22) = false := bne_eq_false_iff_eq.mpr c34
                            clear c34
                            simp only [Option.some.injEq, Prod.mk.injEq] at H
                            obtain ⟨rfl, rfl⟩ := H
                            have hcz35_0 : wc.cell? ⟨gb131, 0, none⟩ = some (.int .i64 a2_0) := (blk_cell BK131.out 0).trans rfl
                            have hcz35_1 : wc.cell? ⟨gb131, 1, none⟩ = some (.int .i64 a2_1) := (blk_cell BK131.out 1).trans rfl
                            have hcz35_2 : wc.cell? ⟨gb131, 2, none⟩ = some (.int .i64 a2_2) := (blk_cell BK131.out 2).trans rfl
                            have hcz35_3 : wc.cell? ⟨gb131, 3, none⟩ = some (.int .i64 a2_3) := (blk_cell BK131.out 3).trans rfl
                            have hcz35_4 : wc.cell? ⟨gb131, 4, none⟩ = some (.int .i64 a2_4) := (blk_cell BK131.out 4).trans rfl
                            have hcz35_5 : wc.cell? ⟨gb131, 5, none⟩ = some (.int .i64 a2_5) := (blk_cell BK131.out 5).trans rfl
                            have hcz35_6 : wc.cell? ⟨gb131, 6, none⟩ = some (.int .i64 a2_6) := (blk_cell BK131.out 6).trans rfl
                            have hcz35_7 : wc.cell? ⟨gb131, 7, none⟩ = some (.int .i64 a2_7) := (blk_cell BK131.out 7).trans rfl
                            have hcz35_8 : wc.cell? ⟨gb131, 8, none⟩ = some (.bool a2_8) := (blk_cell BK131.out 8).trans rfl
                            have hcz35_9 : wc.cell? ⟨gb131, 9, none⟩ = some (.bool a2_9) := (blk_cell BK131.out 9).trans rfl
                            have hfz35_0 := blk_frozen BK131.out 0
                            have hfz35_1 := blk_frozen BK131.out 1
                            have hfz35_2 := blk_frozen BK131.out 2
                            have hfz35_3 := blk_frozen BK131.out 3
                            have hfz35_4 := blk_frozen BK131.out 4
                            have hfz35_5 := blk_frozen BK131.out 5
                            have hfz35_6 := blk_frozen BK131.out 6
                            have hfz35_7 := blk_frozen BK131.out 7
                            have hfz35_8 := blk_frozen BK131.out 8
                            have hfz35_9 := blk_frozen BK131.out 9
                            go_wp2_with (first | ((with_reducible refine gate_callee (f := 24) rfl ?_); refine goesL_ (some 55) rfl rfl Tryd.func24 (by kernel_rfl) rfl #[.string x8_26, .int .i64 a2_3] rfl (by (try simp only [List.map_toArray, List.map_cons, List.map_nil]); first | done | rfl | (simp only [List.length_drop, List.length_take]; rfl)) ?_; (with_reducible refine (number_Hex.calls kj26 x8_26 a2_3 t144 t145 _ A30.out).mono ?_); rintro e w36 ⟨rfl, hb⟩; refine ⟨_, rfl, ?_⟩; have n0_ := Aside0.mk (blk_below (g := gb131) (o := .cells #[.int .i64 a2_0, .int .i64 a2_1, .int .i64 a2_2, .int .i64 a2_3, .int .i64 a2_4, .int .i64 a2_5, .int .i64 a2_6, .int .i64 a2_7, .bool a2_8, .bool a2_9] 29 (0, 0)) (by (with_reducible repeat (first | refine blk_drewN ?_ _ | refine blk_drew ?_ | refine blk_alloc ?_ _)); exact BK131.out) hb); have n1_ := Aside0.mk (below_step (by repeat (first | (with_reducible first | exact HB.out | apply below_alloc | apply pw_below_drewN | apply below_drew1 | refine below_set ?_ GE131.out) | exact HB.out)) hb); clear BK131; clear HB; have BK131 := n0_; have HB := n1_; clear n0_ n1_; (try clear hb); (try clear hb2); (try clear hk); (try clear hi)))
                            go_ret2
                            exact ⟨by first | rfl | (simp [errW_none, errW_some] <;> rfl) | (simp [*, errW_none, errW_some] <;> rfl), by repeat (first | (with_reducible first | exact HB.out | apply below_alloc | apply pw_below_drewN | apply below_drew1 | refine below_set ?_ GE131.out) | exact HB.out)⟩
                          · rw [if_neg c34] at H
                            have c34b0 : (t145 == 22) = false := beq_eq_false_iff_ne.mpr c34
                            have c34b1 : (t145 != 22) = true := bne_iff_ne.mpr c34
                            simp only [Option.some.injEq, Prod.mk.injEq] at H
                            obtain ⟨rfl, rfl⟩ := H
                            have hcz37_0 : wc.cell? ⟨gb131, 0, none⟩ = some (.int .i64 a2_0) := (blk_cell BK131.out 0).trans rfl
                            have hcz37_1 : wc.cell? ⟨gb131, 1, none⟩ = some (.int .i64 a2_1) := (blk_cell BK131.out 1).trans rfl
                            have hcz37_2 : wc.cell? ⟨gb131, 2, none⟩ = some (.int .i64 a2_2) := (blk_cell BK131.out 2).trans rfl
                            have hcz37_3 : wc.cell? ⟨gb131, 3, none⟩ = some (.int .i64 a2_3) := (blk_cell BK131.out 3).trans rfl
                            have hcz37_4 : wc.cell? ⟨gb131, 4, none⟩ = some (.int .i64 a2_4) := (blk_cell BK131.out 4).trans rfl
                            have hcz37_5 : wc.cell? ⟨gb131, 5, none⟩ = some (.int .i64 a2_5) := (blk_cell BK131.out 5).trans rfl
                            have hcz37_6 : wc.cell? ⟨gb131, 6, none⟩ = some (.int .i64 a2_6) := (blk_cell BK131.out 6).trans rfl
                            have hcz37_7 : wc.cell? ⟨gb131, 7, none⟩ = some (.int .i64 a2_7) := (blk_cell BK131.out 7).trans rfl
                            have hcz37_8 : wc.cell? ⟨gb131, 8, none⟩ = some (.bool a2_8) := (blk_cell BK131.out 8).trans rfl
                            have hcz37_9 : wc.cell? ⟨gb131, 9, none⟩ = some (.bool a2_9) := (blk_cell BK131.out 9).trans rfl
                            have hfz37_0 := blk_frozen BK131.out 0
                            have hfz37_1 := blk_frozen BK131.out 1
                            have hfz37_2 := blk_frozen BK131.out 2
                            have hfz37_3 := blk_frozen BK131.out 3
                            have hfz37_4 := blk_frozen BK131.out 4
                            have hfz37_5 := blk_frozen BK131.out 5
                            have hfz37_6 := blk_frozen BK131.out 6
                            have hfz37_7 := blk_frozen BK131.out 7
                            have hfz37_8 := blk_frozen BK131.out 8
                            have hfz37_9 := blk_frozen BK131.out 9
                            go_wp2_with (first | ((with_reducible refine gate_callee (f := 24) rfl ?_); refine goesL_ (some 55) rfl rfl Tryd.func24 (by kernel_rfl) rfl #[.string x8_26, .int .i64 a2_3] rfl (by (try simp only [List.map_toArray, List.map_cons, List.map_nil]); first | done | rfl | (simp only [List.length_drop, List.length_take]; rfl)) ?_; (with_reducible refine (number_Hex.calls kj26 x8_26 a2_3 t144 t145 _ A30.out).mono ?_); rintro e w38 ⟨rfl, hb⟩; refine ⟨_, rfl, ?_⟩; have n0_ := Aside0.mk (blk_below (g := gb131) (o := .cells #[.int .i64 a2_0, .int .i64 a2_1, .int .i64 a2_2, .int .i64 a2_3, .int .i64 a2_4, .int .i64 a2_5, .int .i64 a2_6, .int .i64 a2_7, .bool a2_8, .bool a2_9] 29 (0, 0)) (by (with_reducible repeat (first | refine blk_drewN ?_ _ | refine blk_drew ?_ | refine blk_alloc ?_ _)); exact BK131.out) hb); have n1_ := Aside0.mk (below_step (by repeat (first | (with_reducible first | exact HB.out | apply below_alloc | apply pw_below_drewN | apply below_drew1 | refine below_set ?_ GE131.out) | exact HB.out)) hb); clear BK131; clear HB; have BK131 := n0_; have HB := n1_; clear n0_ n1_; (try clear hb); (try clear hb2); (try clear hk); (try clear hi)))
                            go_ret2
                            exact ⟨by first | rfl | (simp [errW_none, errW_some] <;> rfl) | (simp [*, errW_none, errW_some] <;> rfl), by repeat (first | (with_reducible first | exact HB.out | apply below_alloc | apply pw_below_drewN | apply below_drew1 | refine below_set ?_ GE131.out) | exact HB.out)⟩
    · rw [if_neg c6] at H
      exact absurd H (by simp)
  · rw [if_neg c5] at H
    exact absurd H (by simp)

/-! ### strconv_FormatInt: function 40 -/
def strconv_FormatInt.f (a0 a1 : Int) : Option (ByteArray) := if a1 = 16 ∧ 0 ≤ a0 ∧ a0 ≤ 9223372036854775807 then some (Hex.hexB a0.toNat) else none
theorem strconv_FormatInt.calls (a0 a1 : Int) (r : ByteArray) (w : World) (hL : Laid.LaidX w) (h : strconv_FormatInt.f a0 a1 = some r) :
    Calls Tryd.prog 40 #[.int .i64 a0, .int .i64 a1] w fun e w' => e = .returned (.string r) ∧ Below w.heap.size w w' := by
  unfold strconv_FormatInt.f at h
  split at h
  · rename_i hc
    obtain rfl := Option.some.inj h
    obtain ⟨rfl, h0, h1⟩ := hc
    have := Hand.strconv_FormatInt16 a0.toNat w (by omega) (Laid.cell16 hL)
    rwa [Int.toNat_of_nonneg h0] at this
  · cases h

/-! ### number_PutHex: function 29 -/
def number_PutHex.f (a0 : Int) : Option (ByteArray) := (strconv_FormatInt.f (mx a0 0) 16).bind fun t146 => (some t146)
set_option maxHeartbeats 8000000 in
set_option maxRecDepth 100000 in
theorem number_PutHex.calls (a0 : Int) (r : ByteArray) (w : World) (hL : Laid.LaidX w) (h : number_PutHex.f a0 = some r) :
    Calls Tryd.prog 29 #[.int .i64 a0] w fun e w' => e = .returned (.string r) ∧ Below w.heap.size w w' := by
  have HB := Aside0.mk (Below.refl w.heap.size w)
  have HLX := Aside0.mk hL
  clear hL
  have H : ((strconv_FormatInt.f (mx a0 0) 16).bind fun t146 => (some t146)) = some r := h
  clear h
  obtain ⟨ji2, hji2⟩ : ∃ j_ : Int, (mx a0 0) = j_ := ⟨_, rfl⟩
  replace H : ((strconv_FormatInt.f (ji2) 16).bind fun t146 => (some t146)) = some r := by first | (rw [hji2] at H; exact H) | (simp only [hji2] at H ⊢; exact H)
  (try (have hji2l : 0 ≤ ji2 := by (rw [← hji2]; unfold mx; (repeat' split) <;> omega)))
  (try (have hji2m : 0 ≤ ji2 := by omega))
  have hji2_ : (if a0 < 0 then 0 else a0) = ji2 := hji2
  replace H := Option.bind_eq_some_iff.mp H
  obtain ⟨t146, A30, H⟩ := H
  replace H : (some t146) = some r := H
  have A3 := Aside0.mk A30
  clear A30
  obtain rfl := Option.some.inj H
  go_enter Tryd.func29, Tryd.ntmps29
  go_wp2_with (first | ((with_reducible refine gate_callee (f := 40) rfl ?_); refine goesL_ (some 5) rfl rfl Tryd.func40 (by kernel_rfl) rfl #[.int .i64 ji2, .int .i64 16] rfl (by (try simp only [List.map_toArray, List.map_cons, List.map_nil]); first | done | (simp only [hji2]; rfl) | rfl | (simp only [List.length_drop, List.length_take]; rfl)) ?_; (with_reducible refine (strconv_FormatInt.calls ji2 16 t146 _ ?side1 A3.out).mono ?_); (case side1 => exact Laid.below HLX.out (by repeat (first | (with_reducible first | exact HB.out | apply below_alloc | apply pw_below_drewN | apply below_drew1) | exact HB.out))); rintro e w4 ⟨rfl, hb⟩; refine ⟨_, rfl, ?_⟩; have n0_ := Aside0.mk (below_step (by repeat (first | (with_reducible first | exact HB.out | apply below_alloc | apply pw_below_drewN | apply below_drew1) | exact HB.out)) hb); clear HB; have HB := n0_; clear n0_; (try clear hb); (try clear hb2); (try clear hk); (try clear hi)))
  go_ret
  exact ⟨by first | rfl | (simp [errW_none, errW_some] <;> rfl) | (simp only [← hji2]; first | rfl | (simp [errW_none, errW_some] <;> rfl)) | (simp [*, errW_none, errW_some] <;> rfl), by repeat (first | (with_reducible first | exact HB.out | apply below_alloc | apply pw_below_drewN | apply below_drew1) | exact HB.out)⟩

end Go.Proofs.YtihcmknbdjmcdaaDoor.PChunkExts
