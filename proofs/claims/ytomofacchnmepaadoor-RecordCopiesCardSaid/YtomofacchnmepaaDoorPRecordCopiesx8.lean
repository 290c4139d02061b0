-- Written by a program of this session (wip/tools/myprint.sh)
import Derived.Test.YtomofacchnmepaaDoorPRecordCopiesx0
import Derived.Test.YtomofacchnmepaaDoorPRecordCopiesx6
import Derived.Test.YtomofacchnmepaaDoorPRecordCopiesx7
namespace Go.Proofs.YtomofacchnmepaaDoor.PRecordCopies
open Go.RowKit Go.Proofs.YtomofacchnmepaaDoorW.PrintWords Go.Proofs.YtomofacchnmepaaDoorW.PrintLast Go.Proofs.YtomofacchnmepaaDoorW.PrintMore
attribute [local go_sem] max2_int min2_int max_two min_two max_three min_three max_four min_four   -- for this text's walks alone
set_option linter.unusedVariables false
set_option linter.unusedSimpArgs false

/-! ### parallaxref9_Parse: function 23 -/
mutual
def parallaxref9_Parse.l0 : Nat → ByteArray → Int → Int → Int → Option (ByteArray × ByteArray × Bool × Int)
 | 0, _, _, _, _ => none
 | k + 1, x0, x1, x7, x8 => if x8 < (x0.size : Int) then (parallaxref9_Parse.j1 k x0 x1 x7 x8 (decide (x7 < 0))) else (parallaxref9_Parse.j1 k x0 x1 x7 x8 false)
def parallaxref9_Parse.j1 : Nat → ByteArray → Int → Int → Int → Bool → Option (ByteArray × ByteArray × Bool × Int)
 | 0, _, _, _, _, _ => none
 | k + 1, x0, x1, x7, x8, x17 => if x17 = true then (if 0 ≤ x8 then (if x8 < (x0.size : Int) then (if (bt x0 x8) = 58 then (parallaxref9_Parse.l0 k x0 x1 x8 (wrap64 (x8 + 1))) else (parallaxref9_Parse.l0 k x0 x1 x7 (wrap64 (x8 + 1)))) else (none)) else (none)) else (if x7 < 0 then ((parallaxref4_Has.f x1 11).bind fun t223 => (if t223 = true then (some ((⟨#[]⟩ : ByteArray), (⟨#[]⟩ : ByteArray), false, 0)) else (some ((⟨#[]⟩ : ByteArray), (⟨#[]⟩ : ByteArray), false, 400)))) else (if 0 ≤ x7 then (if x7 ≤ (x0.size : Int) then (if 0 ≤ (wrap64 (x7 + 1)) then (if (wrap64 (x7 + 1)) ≤ (x0.size : Int) then ((parallaxref1_Trim.f k (x0.extract ((wrap64 (x7 + 1)) : Int).toNat x0.size)).bind fun t224 => (parallaxref9_Parse.l1 k x1 (x0.extract 0 (x7 : Int).toNat) t224)) else (none)) else (none)) else (none)) else (none)))
def parallaxref9_Parse.j3 : Nat → Int → ByteArray → ByteArray → Option (ByteArray × ByteArray × Bool × Int)
 | 0, _, _, _ => none
 | k + 1, x1, x226000, x226001 => if x226000.toList = ([] : List UInt8) then ((parallaxref4_Has.f x1 12).bind fun t228 => (if t228 = true then (some ((⟨#[]⟩ : ByteArray), (⟨#[]⟩ : ByteArray), false, 0)) else (some ((⟨#[]⟩ : ByteArray), (⟨#[]⟩ : ByteArray), false, 400)))) else ((parallaxref4_Has.f x1 10).bind fun t229 => (if t229 = true then ((parallaxref4_Has.f x1 14).bind fun t230 => (if t230 = true then (some (x226000, x226001, true, 0)) else ((parallaxref1_All.f k x226001 (([6] : List Int))).bind fun t234 => (if t234 = true then (some (x226000, x226001, true, 0)) else (some ((⟨#[]⟩ : ByteArray), (⟨#[]⟩ : ByteArray), false, 400)))))) else ((parallaxref1_All.f k x226000 (([1] : List Int))).bind fun t238 => (if t238 = true then ((parallaxref4_Has.f x1 14).bind fun t239 => (if t239 = true then (some (x226000, x226001, true, 0)) else ((parallaxref1_All.f k x226001 (([6] : List Int))).bind fun t243 => (if t243 = true then (some (x226000, x226001, true, 0)) else (some ((⟨#[]⟩ : ByteArray), (⟨#[]⟩ : ByteArray), false, 400)))))) else (some ((⟨#[]⟩ : ByteArray), (⟨#[]⟩ : ByteArray), false, 400))))))
def parallaxref9_Parse.l1 : Nat → Int → ByteArray → ByteArray → Option (ByteArray × ByteArray × Bool × Int)
 | 0, _, _, _ => none
 | k + 1, x1, x226000, x226001 => (parallaxref4_Has.f x1 9).bind fun t226 => (if t226 = true then (if x226000.toList = ([] : List UInt8) then (parallaxref9_Parse.j3 k x1 x226000 x226001) else (if 0 ≤ (wrap64 ((x226000.size : Int) - 1)) then (if (wrap64 ((x226000.size : Int) - 1)) < (x226000.size : Int) then ((parallaxref1_Blank.f (bt x226000 (wrap64 ((x226000.size : Int) - 1)))).bind fun t227 => (if t227 = true then (if (wrap64 ((x226000.size : Int) - 1)) ≤ (x226000.size : Int) then (parallaxref9_Parse.l1 k x1 (x226000.extract 0 ((wrap64 ((x226000.size : Int) - 1)) : Int).toNat) x226001) else (none)) else (parallaxref9_Parse.j3 k x1 x226000 x226001))) else (none)) else (none))) else (parallaxref9_Parse.j3 k x1 x226000 x226001))
end
def parallaxref9_Parse.f (k : Nat) (a0 : ByteArray) (a1 : Int) : Option (ByteArray × ByteArray × Bool × Int) := parallaxref9_Parse.l0 k a0 a1 (-1) 0
theorem parallaxref9_Parse.mono_l : ∀ k, (∀ y0 y1 y2 y3, LeO (parallaxref9_Parse.l0 k y0 y1 y2 y3) (parallaxref9_Parse.l0 (k + 1) y0 y1 y2 y3)) ∧ (∀ y0 y1 y2 y3 y4, LeO (parallaxref9_Parse.j1 k y0 y1 y2 y3 y4) (parallaxref9_Parse.j1 (k + 1) y0 y1 y2 y3 y4)) ∧ (∀ y0 y1 y2, LeO (parallaxref9_Parse.j3 k y0 y1 y2) (parallaxref9_Parse.j3 (k + 1) y0 y1 y2)) ∧ (∀ y0 y1 y2, LeO (parallaxref9_Parse.l1 k y0 y1 y2) (parallaxref9_Parse.l1 (k + 1) y0 y1 y2))
 | 0 => ⟨fun _ _ _ _ r h => by simp [parallaxref9_Parse.l0] at h, fun _ _ _ _ _ r h => by simp [parallaxref9_Parse.j1] at h, fun _ _ _ r h => by simp [parallaxref9_Parse.j3] at h, fun _ _ _ r h => by simp [parallaxref9_Parse.l1] at h⟩
 | k + 1 => by
  obtain ⟨ih0, ih1, ih2, ih3⟩ := parallaxref9_Parse.mono_l k
  refine ⟨?_, ?_, ?_, ?_⟩
  ·intro y0 y1 y2 y3
   unfold parallaxref9_Parse.l0
   repeat' first
   | (with_reducible exact ih0 _ _ _ _)
   | (with_reducible exact ih1 _ _ _ _ _)
   | (with_reducible exact ih2 _ _ _)
   | (with_reducible exact ih3 _ _ _)
   | (with_reducible exact parallaxref1_All.mono _ _ _)
   | (with_reducible exact parallaxref1_Trim.mono _ _)
   | (with_reducible exact LeO.refl _)
   | (with_reducible exact LeO.none _)
   | (with_reducible refine LeO.ite ?_ ?_)
   | (with_reducible refine LeO.bind ?_ (fun _ => ?_))
   | exact ih0 _ _ _ _
   | exact ih1 _ _ _ _ _
   | exact ih2 _ _ _
   | exact ih3 _ _ _
   | exact parallaxref1_All.mono _ _ _
   | exact parallaxref1_Trim.mono _ _
   | exact LeO.none _
   | refine LeO.ite ?_ ?_
   | refine LeO.bind ?_ (fun _ => ?_)
  ·intro y0 y1 y2 y3 y4
   unfold parallaxref9_Parse.j1
   repeat' first
   | (with_reducible exact ih0 _ _ _ _)
   | (with_reducible exact ih1 _ _ _ _ _)
   | (with_reducible exact ih2 _ _ _)
   | (with_reducible exact ih3 _ _ _)
   | (with_reducible exact parallaxref1_All.mono _ _ _)
   | (with_reducible exact parallaxref1_Trim.mono _ _)
   | (with_reducible exact LeO.refl _)
   | (with_reducible exact LeO.none _)
   | (with_reducible refine LeO.ite ?_ ?_)
   | (with_reducible refine LeO.bind ?_ (fun _ => ?_))
   | exact ih0 _ _ _ _
   | exact ih1 _ _ _ _ _
   | exact ih2 _ _ _
   | exact ih3 _ _ _
   | exact parallaxref1_All.mono _ _ _
   | exact parallaxref1_Trim.mono _ _
   | exact LeO.none _
   | refine LeO.ite ?_ ?_
   | refine LeO.bind ?_ (fun _ => ?_)
  ·intro y0 y1 y2
   unfold parallaxref9_Parse.j3
   repeat' first
   | (with_reducible exact ih0 _ _ _ _)
   | (with_reducible exact ih1 _ _ _ _ _)
   | (with_reducible exact ih2 _ _ _)
   | (with_reducible exact ih3 _ _ _)
   | (with_reducible exact parallaxref1_All.mono _ _ _)
   | (with_reducible exact parallaxref1_Trim.mono _ _)
   | (with_reducible exact LeO.refl _)
   | (with_reducible exact LeO.none _)
   | (with_reducible refine LeO.ite ?_ ?_)
   | (with_reducible refine LeO.bind ?_ (fun _ => ?_))
   | exact ih0 _ _ _ _
   | exact ih1 _ _ _ _ _
   | exact ih2 _ _ _
   | exact ih3 _ _ _
   | exact parallaxref1_All.mono _ _ _
   | exact parallaxref1_Trim.mono _ _
   | exact LeO.none _
   | refine LeO.ite ?_ ?_
   | refine LeO.bind ?_ (fun _ => ?_)
  ·intro y0 y1 y2
   unfold parallaxref9_Parse.l1
   repeat' first
   | (with_reducible exact ih0 _ _ _ _)
   | (with_reducible exact ih1 _ _ _ _ _)
   | (with_reducible exact ih2 _ _ _)
   | (with_reducible exact ih3 _ _ _)
   | (with_reducible exact parallaxref1_All.mono _ _ _)
   | (with_reducible exact parallaxref1_Trim.mono _ _)
   | (with_reducible exact LeO.refl _)
   | (with_reducible exact LeO.none _)
   | (with_reducible refine LeO.ite ?_ ?_)
   | (with_reducible refine LeO.bind ?_ (fun _ => ?_))
   | exact ih0 _ _ _ _
   | exact ih1 _ _ _ _ _
   | exact ih2 _ _ _
   | exact ih3 _ _ _
   | exact parallaxref1_All.mono _ _ _
   | exact parallaxref1_Trim.mono _ _
   | exact LeO.none _
   | refine LeO.ite ?_ ?_
   | refine LeO.bind ?_ (fun _ => ?_)
theorem parallaxref9_Parse.mono : ∀ a0 a1 k, LeO (parallaxref9_Parse.f k a0 a1) (parallaxref9_Parse.f (k + 1) a0 a1) := by
 intro a0 a1 k
 obtain ⟨ih0, ih1, ih2, ih3⟩ := parallaxref9_Parse.mono_l k
 unfold parallaxref9_Parse.f
 repeat' first
   | (with_reducible exact ih0 _ _ _ _)
   | (with_reducible exact ih1 _ _ _ _ _)
   | (with_reducible exact ih2 _ _ _)
   | (with_reducible exact ih3 _ _ _)
   | (with_reducible exact parallaxref1_All.mono _ _ _)
   | (with_reducible exact parallaxref1_Trim.mono _ _)
   | (with_reducible exact LeO.refl _)
   | (with_reducible exact LeO.none _)
   | (with_reducible refine LeO.ite ?_ ?_)
   | (with_reducible refine LeO.bind ?_ (fun _ => ?_))
   | exact ih0 _ _ _ _
   | exact ih1 _ _ _ _ _
   | exact ih2 _ _ _
   | exact ih3 _ _ _
   | exact parallaxref1_All.mono _ _ _
   | exact parallaxref1_Trim.mono _ _
   | exact LeO.none _
   | refine LeO.ite ?_ ?_
   | refine LeO.bind ?_ (fun _ => ?_)
def parallaxref9_Parse.T11 : Bool × List (List Nat × List Nat) := (true, [([], []), ([], []), ([0, 1], [0, 1]), ([], []), ([], []), ([4], [4]), ([3, 5], [3, 5]), ([6], [6]), ([2, 7], [2, 7]), ([], []), ([9, 8, 7, 0, 1, 2, 3, 4, 5, 6, 7, 8, 9], [8, 9])])
def parallaxref9_Parse.B11 : List Nat := [0, 0, 3, 0, 0, 16, 56, 120, 255, 0, 1023]
theorem parallaxref9_Parse.tab11 : rtab .any (opsOf Tryd.f23 11) = parallaxref9_Parse.T11 := by kernel_rfl
theorem parallaxref9_Parse.bits11 : waitsOk parallaxref9_Parse.T11.2 parallaxref9_Parse.B11 = true := by kernel_rfl
set_option maxHeartbeats 8000000 in
set_option maxRecDepth 100000 in
theorem parallaxref9_Parse.calls (k : Nat) (a0 : ByteArray) (a1 : Int) (r1 : ByteArray) (r2 : ByteArray) (r3 : Bool) (r4 : Int) (w : World) (h : parallaxref9_Parse.f k a0 a1 = some (r1, r2, r3, r4)) :
  Calls Tryd.prog 23 #[.string a0, .int .u32 a1] w fun e w' => e = .returned (.tuple #[.agg #[.string r1, .string r2], .bool r3, .int .i64 r4]) ∧ Below w.heap.size w w' := by
 have hu31 := Tryd.underlying31
 have HB := Aside0.mk (Below.refl w.heap.size w)
 have H : (parallaxref9_Parse.l0 k a0 a1 (-1) 0) = some (r1, r2, r3, r4) := h
 clear h
 have H' := Aside0.mk H
 clear H
 go_enter Tryd.func23, Tryd.ntmps23
 go_wp2_with (first | ((with_reducible refine gate_dst (N := 4) rfl ?_); (try (refine gate_guard (by rfl) ?_; dsimp only)); refine box_event ?hg (N := 4) ?hd (cs := #[.string (⟨#[]⟩ : ByteArray), .string (⟨#[]⟩ : ByteArray)]) (t := 31) ?hr ?_; (case hd => rfl); (case hg => rfl); (case hr => first | (go_simp; done) | (go_simp; rfl)); intro gb222 hg w3 hbox hb; have n0_ := Aside0.mk (below_step Mark.h hb); have n1_ := Aside0.mk (hbox); have n2_ := Aside0.mk ((by rw [hg]; exact (below_size Mark.h) : w.heap.size ≤ gb222)); have n3_ := Aside0.mk ((by rw [hg]; exact (below_size Mark.h) : w.heap.size ≤ gb222)); clear HB; have HB := n0_; have BK222 := n1_; have GW222 := n2_; have GE222 := n3_; clear n0_ n1_ n2_ n3_; clear hb hbox hg))
 go_loopg [7, 8] k (fun kq v7 v8 w' => ∃ (x7_1 : Int) (x8_1 : Int), v7 = .int .i64 x7_1 ∧ v8 = .int .i64 x8_1 ∧ Aside0 (parallaxref9_Parse.l0 kq a0 a1 x7_1 x8_1 = some (r1, r2, r3, r4)) ∧ Aside0 (kq ≤ k) ∧ Aside0 (w'.heap[gb222]? = some (.cells #[.string (⟨#[]⟩ : ByteArray), .string (⟨#[]⟩ : ByteArray)] 31 (0, 0))) ∧ Aside0 (Below w.heap.size w w'))
 case atStart => exact ⟨((-1)), (0), (by first | rfl | (simp; done) | (simp [*]; done)), (by first | rfl | (simp; done) | (simp [*]; done)), H', ⟨Nat.le_refl _⟩, ⟨Mark.b BK222⟩, ⟨Mark.h⟩⟩
 case round =>
  clear H'
  try clear c2
  try clear p2
  obtain ⟨x7_1, x8_1, rfl, rfl, HA, HK1, BK222, HB⟩ := hrel
  cases gk with
  | zero => exact absurd HA.out (by simp [parallaxref9_Parse.l0])
  | succ k1 =>
   have H := HA.out
   clear HA
   simp only [parallaxref9_Parse.l0] at H
   have HC4 := Aside0.mk H
   clear H
   go_upto_region 3 with (fail)
   go_cut [17] (fun v17 wc => ∃ (kq : Nat) (x17_3 : Bool), v17 = .bool x17_3 ∧ Aside0 (parallaxref9_Parse.j1 kq a0 a1 x7_1 x8_1 x17_3 = some (r1, r2, r3, r4)) ∧ Aside0 (kq ≤ k1) ∧ Aside0 (wc.heap[gb222]? = some (.cells #[.string (⟨#[]⟩ : ByteArray), .string (⟨#[]⟩ : ByteArray)] 31 (0, 0))) ∧ Aside0 (Below w.heap.size w wc))
   case first =>
    have H := HC4.out
    clear HC4
    by_cases c5 : x8_1 < (a0.size : Int)
    ·rw [if_pos c5] at H
     have c5b0 : decide (x8_1 < (a0.size : Int)) = true := decide_eq_true c5
     clear c5
     (first | rw [c5b0] | (simp only [i64_w, i32_w]; rw [c5b0]) | skip)
     have H' := Aside0.mk H
     clear H
     go_wp2
     go_meet
     case rel => exact ⟨_, (decide (x7_1 < 0)), (by first | rfl | (simp; done) | (simp [*]; done)), H', ⟨by have := HK1.out; first | omega | exact Nat.le_refl _⟩, ⟨Mark.b BK222⟩, ⟨Mark.h⟩⟩
    ·rw [if_neg c5] at H
     have c5b0 : decide (x8_1 < (a0.size : Int)) = false := decide_eq_false c5
     clear c5
     (first | rw [c5b0] | (simp only [i64_w, i32_w]; rw [c5b0]) | skip)
     have H' := Aside0.mk H
     clear H
     go_wp2
     go_meet
     case rel => exact ⟨_, (false), (by first | rfl | (simp; done) | (simp [*]; done)), H', ⟨by have := HK1.out; first | omega | exact Nat.le_refl _⟩, ⟨Mark.b BK222⟩, ⟨Mark.h⟩⟩
   case rest =>
    clear HC4
    try clear c2
    try clear p2
    try clear c5
    try clear c5b0
    try clear p2
    obtain ⟨kq, x17_3, rfl, HA, HJ3, BK222, HB⟩ := hcut
    cases kq with
    | zero => exact absurd HA.out (by simp [parallaxref9_Parse.j1])
    | succ kj3 =>
     have H := HA.out
     clear HA
     simp only [parallaxref9_Parse.j1] at H
     by_cases c6 : x17_3 = true
     ·subst c6
      have H1 : (if 0 ≤ x8_1 then (if x8_1 < (a0.size : Int) then (if (bt a0 x8_1) = 58 then (parallaxref9_Parse.l0 kj3 a0 a1 x8_1 (wrap64 (x8_1 + 1))) else (parallaxref9_Parse.l0 kj3 a0 a1 x7_1 (wrap64 (x8_1 + 1)))) else (none)) else (none)) = some (r1, r2, r3, r4) := by rw [if_pos rfl] at H; exact H
      clear H
      have H := H1
      clear H1
      by_cases c7 : 0 ≤ x8_1
      ·rw [if_pos c7] at H
       have c7b0 : decide (0 ≤ x8_1) = true := decide_eq_true c7
       clear c7
       by_cases c8 : x8_1 < (a0.size : Int)
       ·rw [if_pos c8] at H
        have c8b0 : decide (x8_1 < (a0.size : Int)) = true := decide_eq_true c8
        clear c8
        by_cases c10 : (bt a0 x8_1) = 58
        ·rw [if_pos c10] at H
         have c10b0 : ((bt a0 x8_1) == 58) = true := beq_iff_eq.mpr c10
         have c10b1 : ((bt a0 x8_1) != 58) = false := bne_eq_false_iff_eq.mpr c10
         clear c10
         have H' := Aside0.mk H
         clear H
         have p9 : 0 ≤ (x8_1 : Int) := of_decide_eq_true (by first | (with_reducible assumption) | assumption)
         have q9 : x8_1 < (a0.size : Int) := of_decide_eq_true (by first | (with_reducible assumption) | assumption)
         have hx9 := bt_at a0 x8_1
         replace p9 := eq_true p9
         replace q9 := eq_true q9
         go_wp2
         go_roundg kj3
         case measure => have := HK1.out; have := HJ3.out; omega
         case rel => exact ⟨(x8_1), (wrap64 (x8_1 + 1)), (by first | rfl | (simp; done) | (simp [*]; done)), (by first | rfl | (simp; done) | (simp [*]; done)), H', ⟨by have := HK1.out; have := HJ3.out; omega⟩, ⟨Mark.b BK222⟩, ⟨Mark.h⟩⟩
        ·rw [if_neg c10] at H
         have c10b0 : ((bt a0 x8_1) == 58) = false := beq_eq_false_iff_ne.mpr c10
         have c10b1 : ((bt a0 x8_1) != 58) = true := bne_iff_ne.mpr c10
         have H' := Aside0.mk H
         clear H
         have p9 : 0 ≤ (x8_1 : Int) := of_decide_eq_true (by first | (with_reducible assumption) | assumption)
         have q9 : x8_1 < (a0.size : Int) := of_decide_eq_true (by first | (with_reducible assumption) | assumption)
         have hx9 := bt_at a0 x8_1
         replace p9 := eq_true p9
         replace q9 := eq_true q9
         go_wp2
         go_roundg kj3
         case measure => have := HK1.out; have := HJ3.out; omega
         case rel => exact ⟨(x7_1), (wrap64 (x8_1 + 1)), (by first | rfl | (simp; done) | (simp [*]; done)), (by first | rfl | (simp; done) | (simp [*]; done)), H', ⟨by have := HK1.out; have := HJ3.out; omega⟩, ⟨Mark.b BK222⟩, ⟨Mark.h⟩⟩
       ·rw [if_neg c8] at H
        exact absurd H (by simp)
      ·rw [if_neg c7] at H
       exact absurd H (by simp)
     ·replace c6 := Bool.eq_false_iff.mpr c6
      subst c6
      have H1 : (if x7_1 < 0 then ((parallaxref4_Has.f a1 11).bind fun t223 => (if t223 = true then (some ((⟨#[]⟩ : ByteArray), (⟨#[]⟩ : ByteArray), false, 0)) else (some ((⟨#[]⟩ : ByteArray), (⟨#[]⟩ : ByteArray), false, 400)))) else (if 0 ≤ x7_1 then (if x7_1 ≤ (a0.size : Int) then (if 0 ≤ (wrap64 (x7_1 + 1)) then (if (wrap64 (x7_1 + 1)) ≤ (a0.size : Int) then ((parallaxref1_Trim.f kj3 (a0.extract ((wrap64 (x7_1 + 1)) : Int).toNat a0.size)).bind fun t224 => (parallaxref9_Parse.l1 kj3 a1 (a0.extract 0 (x7_1 : Int).toNat) t224)) else (none)) else (none)) else (none)) else (none))) = some (r1, r2, r3, r4) := by rw [if_neg (show ¬ (false = true) by decide)] at H; exact H
      clear H
      have H := H1
      clear H1
      by_cases c11 : x7_1 < 0
      ·rw [if_pos c11] at H
       have c11b0 : decide (x7_1 < 0) = true := decide_eq_true c11
       clear c11
       replace H := Option.bind_eq_some_iff.mp H
       obtain ⟨t223, A120, H⟩ := H
       replace H : (if t223 = true then (some ((⟨#[]⟩ : ByteArray), (⟨#[]⟩ : ByteArray), false, 0)) else (some ((⟨#[]⟩ : ByteArray), (⟨#[]⟩ : ByteArray), false, 400))) = some (r1, r2, r3, r4) := H
       have A12 := Aside0.mk A120
       clear A120
       by_cases c13 : t223 = true
       ·subst c13
        have H1 : (some ((⟨#[]⟩ : ByteArray), (⟨#[]⟩ : ByteArray), false, 0)) = some (r1, r2, r3, r4) := by rw [if_pos rfl] at H; exact H
        clear H
        have H := H1
        clear H1
        simp only [Option.some.injEq, Prod.mk.injEq] at H
        obtain ⟨rfl, rfl, rfl, rfl⟩ := H
        go_wp2_with (first | ((with_reducible refine gate_callee (f := 36) rfl ?_); refine goesL_ (some 28) rfl rfl Tryd.func36 (by kernel_rfl) rfl #[.int .u32 a1, .int .i64 11] rfl (by (try simp only [List.map_toArray, List.map_cons, List.map_nil]); first | done | rfl | (simp only [List.length_drop, List.length_take]; rfl)) ?_; (with_reducible refine (parallaxref4_Has.calls a1 11 true _ A12.out).mono ?_); rintro e w' ⟨rfl, ⟨nd, rfl⟩⟩; refine ⟨_, rfl, ?_⟩; (try (rw [drewN_self wc]; generalize hq_ : World.drewN wc _ = wc; have n0_ : Aside0 (wc.heap[gb222]? = some (.cells #[.string (⟨#[]⟩ : ByteArray), .string (⟨#[]⟩ : ByteArray)] 31 (0, 0))) := ⟨by rw [← hq_]; exact (Mark.b BK222)⟩; have n1_ : Aside0 (Below w.heap.size w wc) := ⟨by rw [← hq_]; exact Mark.h⟩; clear BK222 HB hq_; have BK222 := n0_; have HB := n1_; clear n0_ n1_)); have hcz14_0 : wc.cell? ⟨gb222, 0, none⟩ = some (.string (⟨#[]⟩ : ByteArray)) := (blk_cell BK222.out 0).trans rfl; have hcz14_1 : wc.cell? ⟨gb222, 1, none⟩ = some (.string (⟨#[]⟩ : ByteArray)) := (blk_cell BK222.out 1).trans rfl; have hfz14_0 := blk_frozen BK222.out 0; have hfz14_1 := blk_frozen BK222.out 1))
        refine bodyPost_ret (results_ctt rfl _ _ gb222 31 #[.string (⟨#[]⟩ : ByteArray), .string (⟨#[]⟩ : ByteArray)] (0, 0) _ rfl (by (with_reducible repeat (first | refine blk_drewN ?_ _ | refine blk_drew ?_ | refine blk_alloc ?_ _)); refine blk_put (cs := #[.string (⟨#[]⟩ : ByteArray), .string (⟨#[]⟩ : ByteArray)]) ?_ 1 _ rfl; (with_reducible repeat (first | refine blk_drewN ?_ _ | refine blk_drew ?_ | refine blk_alloc ?_ _)); refine blk_put (cs := #[.string (⟨#[]⟩ : ByteArray), .string (⟨#[]⟩ : ByteArray)]) ?_ 0 _ rfl; (with_reducible repeat (first | refine blk_drewN ?_ _ | refine blk_drew ?_ | refine blk_alloc ?_ _)); exact BK222.out) Tryd.underlying31 rfl (by kernel_rfl)) rfl ?_
        exact ⟨by first | rfl | (simp [errW_none, errW_some] <;> rfl) | (simp [*, errW_none, errW_some] <;> rfl), Mark.h⟩
       ·replace c13 := Bool.eq_false_iff.mpr c13
        subst c13
        have H1 : (some ((⟨#[]⟩ : ByteArray), (⟨#[]⟩ : ByteArray), false, 400)) = some (r1, r2, r3, r4) := by rw [if_neg (show ¬ (false = true) by decide)] at H; exact H
        clear H
        have H := H1
        clear H1
        simp only [Option.some.injEq, Prod.mk.injEq] at H
        obtain ⟨rfl, rfl, rfl, rfl⟩ := H
        go_wp2_with (first | ((with_reducible refine gate_callee (f := 36) rfl ?_); refine goesL_ (some 28) rfl rfl Tryd.func36 (by kernel_rfl) rfl #[.int .u32 a1, .int .i64 11] rfl (by (try simp only [List.map_toArray, List.map_cons, List.map_nil]); first | done | rfl | (simp only [List.length_drop, List.length_take]; rfl)) ?_; (with_reducible refine (parallaxref4_Has.calls a1 11 false _ A12.out).mono ?_); rintro e w' ⟨rfl, ⟨nd, rfl⟩⟩; refine ⟨_, rfl, ?_⟩; (try (rw [drewN_self wc]; generalize hq_ : World.drewN wc _ = wc; have n0_ : Aside0 (wc.heap[gb222]? = some (.cells #[.string (⟨#[]⟩ : ByteArray), .string (⟨#[]⟩ : ByteArray)] 31 (0, 0))) := ⟨by rw [← hq_]; exact (Mark.b BK222)⟩; have n1_ : Aside0 (Below w.heap.size w wc) := ⟨by rw [← hq_]; exact Mark.h⟩; clear BK222 HB hq_; have BK222 := n0_; have HB := n1_; clear n0_ n1_)); have hcz15_0 : wc.cell? ⟨gb222, 0, none⟩ = some (.string (⟨#[]⟩ : ByteArray)) := (blk_cell BK222.out 0).trans rfl; have hcz15_1 : wc.cell? ⟨gb222, 1, none⟩ = some (.string (⟨#[]⟩ : ByteArray)) := (blk_cell BK222.out 1).trans rfl; have hfz15_0 := blk_frozen BK222.out 0; have hfz15_1 := blk_frozen BK222.out 1))
        refine bodyPost_ret (results_ctt rfl _ _ gb222 31 #[.string (⟨#[]⟩ : ByteArray), .string (⟨#[]⟩ : ByteArray)] (0, 0) _ rfl (by (with_reducible repeat (first | refine blk_drewN ?_ _ | refine blk_drew ?_ | refine blk_alloc ?_ _)); refine blk_put (cs := #[.string (⟨#[]⟩ : ByteArray), .string (⟨#[]⟩ : ByteArray)]) ?_ 1 _ rfl; (with_reducible repeat (first | refine blk_drewN ?_ _ | refine blk_drew ?_ | refine blk_alloc ?_ _)); refine blk_put (cs := #[.string (⟨#[]⟩ : ByteArray), .string (⟨#[]⟩ : ByteArray)]) ?_ 0 _ rfl; (with_reducible repeat (first | refine blk_drewN ?_ _ | refine blk_drew ?_ | refine blk_alloc ?_ _)); exact BK222.out) Tryd.underlying31 rfl (by kernel_rfl)) rfl ?_
        exact ⟨by first | rfl | (simp [errW_none, errW_some] <;> rfl) | (simp [*, errW_none, errW_some] <;> rfl), Mark.h⟩
      ·rw [if_neg c11] at H
       have c11b0 : decide (x7_1 < 0) = false := decide_eq_false c11
       clear c11
       by_cases c16 : 0 ≤ x7_1
       ·rw [if_pos c16] at H
        have c16b0 := eq_true c16
        have c16b1 : decide (0 ≤ x7_1) = true := decide_eq_true c16
        clear c16
        by_cases c17 : x7_1 ≤ (a0.size : Int)
        ·rw [if_pos c17] at H
         have c17b0 := eq_true c17
         have c17b1 : decide (x7_1 ≤ (a0.size : Int)) = true := decide_eq_true c17
         clear c17
         obtain ⟨ji18, hji18⟩ : ∃ j_ : Int, (wrap64 (x7_1 + 1)) = j_ := ⟨_, rfl⟩
         replace H : (if 0 ≤ (ji18) then (if (ji18) ≤ (a0.size : Int) then ((parallaxref1_Trim.f kj3 (a0.extract ((ji18) : Int).toNat a0.size)).bind fun t224 => (parallaxref9_Parse.l1 kj3 a1 (a0.extract 0 (x7_1 : Int).toNat) t224)) else (none)) else (none)) = some (r1, r2, r3, r4) := by first | (rw [hji18] at H; exact H) | (simp only [hji18] at H ⊢; exact H)
         have hji18w : (IntKind.i64.wrap (x7_1 + 1)) = ji18 := (i64_w _).trans hji18
         by_cases c19 : 0 ≤ (ji18)
         ·rw [if_pos c19] at H
          have c19b0 := eq_true c19
          have c19b1 : decide (0 ≤ (ji18)) = true := decide_eq_true c19
          clear c19
          by_cases c20 : (ji18) ≤ (a0.size : Int)
          ·rw [if_pos c20] at H
           have c20b0 := eq_true c20
           have c20b1 : decide ((ji18) ≤ (a0.size : Int)) = true := decide_eq_true c20
           clear c20
           replace H := Option.bind_eq_some_iff.mp H
           obtain ⟨t224, A210, H⟩ := H
           replace H : (parallaxref9_Parse.l1 kj3 a1 (a0.extract 0 (x7_1 : Int).toNat) t224) = some (r1, r2, r3, r4) := H
           have A21 := Aside0.mk A210
           clear A210
           have HC22 := Aside0.mk H
           clear H
           try go_wp2
           have n0_ := Aside0.mk (blk_drew BK222.out)
           have n1_ := Aside0.mk (below_drew1 HB.out)
           clear BK222
           clear HB
           have BK222 := n0_
           have HB := n1_
           clear n0_ n1_
           refine start_ (n := 11) (S := fun w' => True) (ds := []) #[false, false, false, false, false, false, false, false, false, false, false] (by kernel_rfl) rfl rfl trivial (fun hHeld => ?_); refine with_tabW parallaxref9_Parse.tab11 parallaxref9_Parse.bits11 (fun HT_ HW_ => ?_)
           generalize wc.drew = w23 at BK222 HB hHeld ⊢
           refine pure_ (i := 0) (N := some 31) (v := ?_) (a' := ?_) #[true, false, false, false, false, false, false, false, false, false, false] rfl rfl (any_of HT_.out (by kernel_rfl)) (fun _ _ _ h => h) (Or.inl ⟨by rfl, ?_⟩) ?_ ?_
           rotate_left
           ·intro w'
            go_simp
            with_reducible rfl
           rotate_left
           ·simp only [Act.put, List.setIfInBounds_toArray, List.set_cons_zero, List.set_cons_succ, i64_w, i32_w]
            rfl
           refine pure_ (i := 1) (N := some 32) (v := ?_) (a' := ?_) #[true, true, false, false, false, false, false, false, false, false, false] rfl rfl (any_of HT_.out (by kernel_rfl)) (fun _ _ _ h => h) (Or.inl ⟨by rfl, ?_⟩) ?_ ?_
           rotate_left
           ·intro w'
            go_simp
            with_reducible rfl
           rotate_left
           ·simp only [Act.put, List.setIfInBounds_toArray, List.set_cons_zero, List.set_cons_succ, i64_w, i32_w]
            rfl
           refine pure_ (i := 2) (N := some 33) (v := ?_) (a' := ?_) #[true, true, true, false, false, false, false, false, false, false, false] rfl rfl (any_of HT_.out (by kernel_rfl)) (fun _ _ _ h => h) (Or.inl ⟨by rfl, ?_⟩) ?_ ?_
           rotate_left
           ·intro w'
            go_simp
            with_reducible rfl
           rotate_left
           ·simp only [Act.put, List.setIfInBounds_toArray, List.set_cons_zero, List.set_cons_succ, i64_w, i32_w]
            rfl
           refine pure_ (i := 3) (N := some 34) (v := ?_) (a' := ?_) #[true, true, true, true, false, false, false, false, false, false, false] rfl rfl (any_of HT_.out (by kernel_rfl)) (fun _ _ _ h => h) (Or.inl ⟨by rfl, ?_⟩) ?_ ?_
           rotate_left
           ·intro w'
            go_simp
            with_reducible rfl
           rotate_left
           ·simp only [Act.put, List.setIfInBounds_toArray, List.set_cons_zero, List.set_cons_succ, i64_w, i32_w]
            rfl
           refine pure_ (i := 4) (N := some 35) (v := ?_) (a' := ?_) #[true, true, true, true, true, false, false, false, false, false, false] rfl rfl (any_of HT_.out (by kernel_rfl)) (fun _ _ _ h => h) (Or.inl ⟨by rfl, ?_⟩) ?_ ?_
           rotate_left
           ·intro w'
            go_simp
            with_reducible rfl
           rotate_left
           ·simp only [Act.put, List.setIfInBounds_toArray, List.set_cons_zero, List.set_cons_succ, i64_w, i32_w]
            rfl
           refine pure_ (i := 5) (N := some 36) (v := ?_) (a' := ?_) #[true, true, true, true, true, true, false, false, false, false, false] rfl rfl (any_of HT_.out (by kernel_rfl)) (fun _ _ _ h => h) (Or.inl ⟨by rfl, ?_⟩) ?_ ?_
           rotate_left
           ·intro w'
            go_simp
            with_reducible rfl
           rotate_left
           ·simp only [Act.put, List.setIfInBounds_toArray, List.set_cons_zero, List.set_cons_succ, i64_w, i32_w]
            rfl
           refine pure_ (i := 6) (N := some 37) (v := ?_) (a' := ?_) #[true, true, true, true, true, true, true, false, false, false, false] rfl rfl (any_of HT_.out (by kernel_rfl)) (fun _ _ _ h => h) (Or.inl ⟨by rfl, ?_⟩) ?_ ?_
           rotate_left
           ·intro w'
            go_simp
            with_reducible rfl
           rotate_left
           ·simp only [Act.put, List.setIfInBounds_toArray, List.set_cons_zero, List.set_cons_succ, i64_w, i32_w]
            rfl
           refine join_ (σ := Nat) 1 #[true, true, true, true, true, true, true, true, true, true, false] (fun s_ => [(38, .string t224), (9, .pointer (some ⟨s_, 0, none⟩)), (39, .agg #[.string (a0.extract 0 (x7_1 : Int).toNat), .string t224])]) (fun s_ w' => (w'.heap[gb222]? = some (.cells #[.string (⟨#[]⟩ : ByteArray), .string (⟨#[]⟩ : ByteArray)] 31 (0, 0))) ∧ (w'.heap[s_]? = some (.cells #[.string (⟨#[]⟩ : ByteArray), .string (⟨#[]⟩ : ByteArray)] 31 (0, 0))) ∧ (w.heap.size ≤ s_) ∧ (w.heap.size ≤ s_) ∧ (gb222 ≠ s_) ∧ (s_ ≠ gb222) ∧ (Below w.heap.size w w')) ?_ ?_
           rotate_left
           ·intro hCont
            refine two_ (i := 7) (j := 9) (Ni := some 38) (Nj := some 9) #[true, true, true, true, true, true, true, true, false, false, false] #[true, true, true, true, true, true, true, false, false, true, false] rfl rfl rfl rfl (two_of HT_.out (by kernel_rfl)) (by decide) (by decide) (fun K hK => ?_) (fun K hK => ?_)
            ·skip
             refine goes_ Tryd.func37 (by kernel_rfl) rfl #[.string (a0.extract ((ji18) : Int).toNat a0.size)] (by rfl) rfl rfl (by (try simp only [List.map_toArray, List.map_cons, List.map_nil]); first | done | (simp only [hji18]; rfl) | rfl | (simp only [List.length_drop, List.length_take]; rfl) | (simp only [ByteArray.size_extract, Nat.min_self]; rfl)) ?_
             with_reducible refine (parallaxref1_Trim.calls kj3 (a0.extract ((ji18) : Int).toNat a0.size) t224 _ A21.out).mono ?_
             rintro e w' ⟨rfl, ⟨nd, rfl⟩⟩
             refine ⟨_, rfl, ?_⟩
             refine hK.out _ _ trivial (fun hHeld => ?_)
             clear hK K
             refine norm_ (a' := ?_) ?_ ?_
             rotate_left
             ·show Act.put _ (some 38) _ = _
              simp only [Act.put, List.setIfInBounds_toArray, List.set_cons_zero, List.set_cons_succ, i64_w, i32_w]
              rfl
             refine pure_ (i := 8) (N := some 39) (v := ?_) (a' := ?_) #[true, true, true, true, true, true, true, true, true, false, false] rfl rfl (any_of HT_.out (by kernel_rfl)) (fun _ _ _ h => h) (Or.inl ⟨by rfl, ?_⟩) ?_ ?_
             rotate_left
             ·intro w'
              go_simp
              with_reducible rfl
             rotate_left
             ·simp only [Act.put, List.setIfInBounds_toArray, List.set_cons_zero, List.set_cons_succ, i64_w, i32_w]
              rfl
             refine one_ (i := 9) (N := some 9) #[true, true, true, true, true, true, true, true, true, true, false] rfl rfl (one_of HT_.out (by kernel_rfl)) (by decide) (fun K hK => ?_)
             refine box_step ?hg (N := 9) ?hd (cs := #[.string (⟨#[]⟩ : ByteArray), .string (⟨#[]⟩ : ByteArray)]) (t := 31) ?hr ?_; (case hd => rfl); (case hg => rfl); (case hr => first | (go_simp; done) | (go_simp; rfl))
             intro gb225 hg w24 hbox hb
             have n0_ := Aside0.mk (blk_below (g := gb222) (o := .cells #[.string (⟨#[]⟩ : ByteArray), .string (⟨#[]⟩ : ByteArray)] 31 (0, 0)) (Mark.b BK222) hb)
             have n1_ := Aside0.mk (below_step Mark.h hb)
             have n2_ := Aside0.mk (hbox)
             have n3_ := Aside0.mk ((by rw [hg]; exact (below_size Mark.h) : w.heap.size ≤ gb225))
             have n4_ := Aside0.mk ((by rw [hg]; exact (below_size Mark.h) : w.heap.size ≤ gb225))
             have n5_ := Aside0.mk ((by rw [hg]; exact Nat.ne_of_lt (blk_lt (g := gb222) (o := .cells #[.string (⟨#[]⟩ : ByteArray), .string (⟨#[]⟩ : ByteArray)] 31 (0, 0)) (Mark.b BK222)) : gb222 ≠ gb225))
             have n6_ := Aside0.mk ((by rw [hg]; exact Nat.ne_of_gt (blk_lt (g := gb222) (o := .cells #[.string (⟨#[]⟩ : ByteArray), .string (⟨#[]⟩ : ByteArray)] 31 (0, 0)) (Mark.b BK222)) : gb225 ≠ gb222))
             clear BK222
             clear HB
             have BK222 := n0_
             have HB := n1_
             have BK225 := n2_
             have GW225 := n3_
             have GE225 := n4_
             have NB222_225 := n5_
             have NB225_222 := n6_
             clear n0_ n1_ n2_ n3_ n4_ n5_ n6_
             clear hb hbox hg
             refine hK.out _ _ trivial (fun hHeld => ?_)
             clear hK K
             refine norm_ (a' := ?_) ?_ ?_
             rotate_left
             ·show Act.put _ (some 9) _ = _
              simp only [Act.put, List.setIfInBounds_toArray, List.set_cons_zero, List.set_cons_succ, i64_w, i32_w]
              rfl
             exact norm_ (by simp only [putAll, Act.put, List.setIfInBounds_toArray, List.set_cons_zero, List.set_cons_succ]) (hCont (gb225) _ ⟨(Mark.b BK222), (Mark.b BK225), GW225.out, GE225.out, NB222_225.out, NB225_222.out, Mark.h⟩)
            ·skip
             refine box_step ?hg (N := 9) ?hd (cs := #[.string (⟨#[]⟩ : ByteArray), .string (⟨#[]⟩ : ByteArray)]) (t := 31) ?hr ?_; (case hd => rfl); (case hg => rfl); (case hr => first | (go_simp; done) | (go_simp; rfl))
             intro gb225 hg w24 hbox hb
             have n0_ := Aside0.mk (blk_below (g := gb222) (o := .cells #[.string (⟨#[]⟩ : ByteArray), .string (⟨#[]⟩ : ByteArray)] 31 (0, 0)) (Mark.b BK222) hb)
             have n1_ := Aside0.mk (below_step Mark.h hb)
             have n2_ := Aside0.mk (hbox)
             have n3_ := Aside0.mk ((by rw [hg]; exact (below_size Mark.h) : w.heap.size ≤ gb225))
             have n4_ := Aside0.mk ((by rw [hg]; exact (below_size Mark.h) : w.heap.size ≤ gb225))
             have n5_ := Aside0.mk ((by rw [hg]; exact Nat.ne_of_lt (blk_lt (g := gb222) (o := .cells #[.string (⟨#[]⟩ : ByteArray), .string (⟨#[]⟩ : ByteArray)] 31 (0, 0)) (Mark.b BK222)) : gb222 ≠ gb225))
             have n6_ := Aside0.mk ((by rw [hg]; exact Nat.ne_of_gt (blk_lt (g := gb222) (o := .cells #[.string (⟨#[]⟩ : ByteArray), .string (⟨#[]⟩ : ByteArray)] 31 (0, 0)) (Mark.b BK222)) : gb225 ≠ gb222))
             clear BK222
             clear HB
             have BK222 := n0_
             have HB := n1_
             have BK225 := n2_
             have GW225 := n3_
             have GE225 := n4_
             have NB222_225 := n5_
             have NB225_222 := n6_
             clear n0_ n1_ n2_ n3_ n4_ n5_ n6_
             clear hb hbox hg
             refine hK.out _ _ trivial (fun hHeld => ?_)
             clear hK K
             refine norm_ (a' := ?_) ?_ ?_
             rotate_left
             ·show Act.put _ (some 9) _ = _
              simp only [Act.put, List.setIfInBounds_toArray, List.set_cons_zero, List.set_cons_succ, i64_w, i32_w]
              rfl
             refine one_ (i := 7) (N := some 38) #[true, true, true, true, true, true, true, true, false, true, false] rfl rfl (one_of HT_.out (by kernel_rfl)) (by decide) (fun K hK => ?_)
             refine goes_ Tryd.func37 (by kernel_rfl) rfl #[.string (a0.extract ((ji18) : Int).toNat a0.size)] (by rfl) rfl rfl (by (try simp only [List.map_toArray, List.map_cons, List.map_nil]); first | done | (simp only [hji18]; rfl) | rfl | (simp only [List.length_drop, List.length_take]; rfl) | (simp only [ByteArray.size_extract, Nat.min_self]; rfl)) ?_
             with_reducible refine (parallaxref1_Trim.calls kj3 (a0.extract ((ji18) : Int).toNat a0.size) t224 _ A21.out).mono ?_
             rintro e w' ⟨rfl, ⟨nd, rfl⟩⟩
             refine ⟨_, rfl, ?_⟩
             refine hK.out _ _ trivial (fun hHeld => ?_)
             clear hK K
             refine norm_ (a' := ?_) ?_ ?_
             rotate_left
             ·show Act.put _ (some 38) _ = _
              simp only [Act.put, List.setIfInBounds_toArray, List.set_cons_zero, List.set_cons_succ, i64_w, i32_w]
              rfl
             refine pure_ (i := 8) (N := some 39) (v := ?_) (a' := ?_) #[true, true, true, true, true, true, true, true, true, true, false] rfl rfl (any_of HT_.out (by kernel_rfl)) (fun _ _ _ h => h) (Or.inl ⟨by rfl, ?_⟩) ?_ ?_
             rotate_left
             ·intro w'
              go_simp
              with_reducible rfl
             rotate_left
             ·simp only [Act.put, List.setIfInBounds_toArray, List.set_cons_zero, List.set_cons_succ, i64_w, i32_w]
              rfl
             exact norm_ (by simp only [putAll, Act.put, List.setIfInBounds_toArray, List.set_cons_zero, List.set_cons_succ]) (hCont (gb225) _ ⟨(Mark.b BK222), (Mark.b BK225), GW225.out, GE225.out, NB222_225.out, NB225_222.out, Mark.h⟩)
           rintro gb225 w25 ⟨h0_, h1_, h2_, h3_, h4_, h5_, h6_⟩
           have n0_ : Aside0 (w25.heap[gb222]? = some (.cells #[.string (⟨#[]⟩ : ByteArray), .string (⟨#[]⟩ : ByteArray)] 31 (0, 0))) := ⟨h0_⟩
           have n1_ : Aside0 (w25.heap[gb225]? = some (.cells #[.string (⟨#[]⟩ : ByteArray), .string (⟨#[]⟩ : ByteArray)] 31 (0, 0))) := ⟨h1_⟩
           have n2_ : Aside0 (w.heap.size ≤ gb225) := ⟨h2_⟩
           have n3_ : Aside0 (w.heap.size ≤ gb225) := ⟨h3_⟩
           have n4_ : Aside0 (gb222 ≠ gb225) := ⟨h4_⟩
           have n5_ : Aside0 (gb225 ≠ gb222) := ⟨h5_⟩
           have n6_ : Aside0 (Below w.heap.size w w25) := ⟨h6_⟩
           clear BK222
           clear HB
           clear h0_ h1_ h2_ h3_ h4_ h5_ h6_
           have BK222 := n0_
           have BK225 := n1_
           have GW225 := n2_
           have GE225 := n3_
           have NB222_225 := n4_
           have NB225_222 := n5_
           have HB := n6_
           clear n0_ n1_ n2_ n3_ n4_ n5_ n6_
           have hHeld := trivial
           refine norm_ (a' := ?_) ?_ ?_
           rotate_left
           ·simp only [putAll, Act.put, List.setIfInBounds_toArray, List.set_cons_zero, List.set_cons_succ]
            rfl
           refine one_ (i := 10) (N := none) #[true, true, true, true, true, true, true, true, true, true, true] rfl rfl (one_of HT_.out (by kernel_rfl)) (by decide) (fun K hK => ?_)
           have hs26 : w25.cell? ⟨gb225, 0, none⟩ = some (.string (⟨#[]⟩ : ByteArray)) := (blk_cell BK225.out 0).trans rfl
           have hfs26 := blk_frozen BK225.out 0
           have hns26_0 := NB222_225.out
           have hms26_0 := NB225_222.out
           have hs27 : w25.cell? ⟨gb225, 1, none⟩ = some (.string (⟨#[]⟩ : ByteArray)) := (blk_cell BK225.out 1).trans rfl
           have hfs27 := blk_frozen BK225.out 1
           have hns27_0 := NB222_225.out
           have hms27_0 := NB225_222.out
           refine skip_ (w1 := ?_) (by rfl) rfl ?_ ?_
           rotate_left
           ·go_simp
            rfl
           refine hK.out _ _ trivial (fun hHeld => ?_)
           clear hK K
           refine done_ (done_of HT_.out (by kernel_rfl)) ?_
           go_upto_block 2 with (fail)
           go_cut [] (fun wc => ∃ (kq : Nat) (x226000_21 : ByteArray), Aside0 (parallaxref9_Parse.j3 kq a1 x226000_21 t224 = some (r1, r2, r3, r4)) ∧ Aside0 (kq ≤ kj3) ∧ Aside0 (wc.heap[gb222]? = some (.cells #[.string (⟨#[]⟩ : ByteArray), .string (⟨#[]⟩ : ByteArray)] 31 (0, 0))) ∧ Aside0 (wc.heap[gb225]? = some (.cells #[.string x226000_21, .string t224] 31 (0, 0))) ∧ Aside0 (Below w.heap.size w wc))
           case first =>
            have H := HC22.out
            clear HC22
            have H' := Aside0.mk H
            clear H
            go_wp2
            go_loopg [] kj3 (fun kq w' => ∃ (x226000_3 : ByteArray), Aside0 (parallaxref9_Parse.l1 kq a1 x226000_3 t224 = some (r1, r2, r3, r4)) ∧ Aside0 (kq ≤ kj3) ∧ Aside0 (w'.heap[gb222]? = some (.cells #[.string (⟨#[]⟩ : ByteArray), .string (⟨#[]⟩ : ByteArray)] 31 (0, 0))) ∧ Aside0 (w'.heap[gb225]? = some (.cells #[.string x226000_3, .string t224] 31 (0, 0))) ∧ Aside0 (Below w.heap.size w w'))
            case atStart => exact ⟨(a0.extract 0 (x7_1 : Int).toNat), H', ⟨Nat.le_refl _⟩, ⟨by (repeat ((with_reducible repeat (first | refine blk_drewN ?_ _ | refine blk_drew ?_ | refine blk_alloc ?_ _)); refine blk_far ?_ NB222_225.out _)); (with_reducible repeat (first | refine blk_drewN ?_ _ | refine blk_drew ?_ | refine blk_alloc ?_ _)); exact BK222.out⟩, ⟨by (with_reducible repeat (first | refine blk_drewN ?_ _ | refine blk_drew ?_ | refine blk_alloc ?_ _)); refine blk_put (cs := #[.string (a0.extract 0 (x7_1 : Int).toNat), .string (⟨#[]⟩ : ByteArray)]) ?_ 1 _ rfl; (with_reducible repeat (first | refine blk_drewN ?_ _ | refine blk_drew ?_ | refine blk_alloc ?_ _)); refine blk_put (cs := #[.string (⟨#[]⟩ : ByteArray), .string (⟨#[]⟩ : ByteArray)]) ?_ 0 _ rfl; (with_reducible repeat (first | refine blk_drewN ?_ _ | refine blk_drew ?_ | refine blk_alloc ?_ _)); exact BK225.out⟩, ⟨Mark.h⟩⟩
            case round =>
             clear H'
             try clear c1
             try clear c2
             try clear p2
             try clear c3
             try clear c5
             try clear c5b0
             try clear c6
             try clear p6
             try clear c7
             try clear c7b0
             try clear c8
             try clear c8b0
             try clear p9
             try clear q9
             try clear hx9
             try clear c10
             try clear c10b0
             try clear c10b1
             try clear c11
             try clear c11b0
             try clear c13
             try clear c16
             try clear c16b0
             try clear c16b1
             try clear c17
             try clear c17b0
             try clear c17b1
             try clear c19
             try clear c19b0
             try clear c19b1
             try clear c20
             try clear c20b0
             try clear c20b1
             try clear c23
             try clear hcz14_0
             try clear hcz14_1
             try clear hcz15_0
             try clear hcz15_1
             try clear hfz14_0
             try clear hfz14_1
             try clear hfz15_0
             try clear hfz15_1
             try clear p2
             try clear p9
             try clear q9
             obtain ⟨x226000_3, HA, HK3, BK222, BK225, HB⟩ := hrel
             cases gk with
             | zero => exact absurd HA.out (by simp [parallaxref9_Parse.l1])
             | succ k3 =>
              have H := HA.out
              clear HA
              simp only [parallaxref9_Parse.l1] at H
              replace H := Option.bind_eq_some_iff.mp H
              obtain ⟨t226, A280, H⟩ := H
              replace H : (if t226 = true then (if x226000_3.toList = ([] : List UInt8) then (parallaxref9_Parse.j3 k3 a1 x226000_3 t224) else (if 0 ≤ (wrap64 ((x226000_3.size : Int) - 1)) then (if (wrap64 ((x226000_3.size : Int) - 1)) < (x226000_3.size : Int) then ((parallaxref1_Blank.f (bt x226000_3 (wrap64 ((x226000_3.size : Int) - 1)))).bind fun t227 => (if t227 = true then (if (wrap64 ((x226000_3.size : Int) - 1)) ≤ (x226000_3.size : Int) then (parallaxref9_Parse.l1 k3 a1 (x226000_3.extract 0 ((wrap64 ((x226000_3.size : Int) - 1)) : Int).toNat) t224) else (none)) else (parallaxref9_Parse.j3 k3 a1 x226000_3 t224))) else (none)) else (none))) else (parallaxref9_Parse.j3 k3 a1 x226000_3 t224)) = some (r1, r2, r3, r4) := H
              have A28 := Aside0.mk A280
              clear A280
              by_cases c29 : t226 = true
              ·subst c29
               have H1 : (if x226000_3.toList = ([] : List UInt8) then (parallaxref9_Parse.j3 k3 a1 x226000_3 t224) else (if 0 ≤ (wrap64 ((x226000_3.size : Int) - 1)) then (if (wrap64 ((x226000_3.size : Int) - 1)) < (x226000_3.size : Int) then ((parallaxref1_Blank.f (bt x226000_3 (wrap64 ((x226000_3.size : Int) - 1)))).bind fun t227 => (if t227 = true then (if (wrap64 ((x226000_3.size : Int) - 1)) ≤ (x226000_3.size : Int) then (parallaxref9_Parse.l1 k3 a1 (x226000_3.extract 0 ((wrap64 ((x226000_3.size : Int) - 1)) : Int).toNat) t224) else (none)) else (parallaxref9_Parse.j3 k3 a1 x226000_3 t224))) else (none)) else (none))) = some (r1, r2, r3, r4) := by rw [if_pos rfl] at H; exact H
               clear H
               have H := H1
               clear H1
               by_cases c30 : x226000_3.toList = ([] : List UInt8)
               ·rw [if_pos c30] at H
                have c30b0 : (x226000_3.toList == ([] : List UInt8)) = true := beq_iff_eq.mpr c30
                have c30b1 : (x226000_3.toList != ([] : List UInt8)) = false := bne_eq_false_iff_eq.mpr c30
                clear c30
                (first | rw [c30b0] | (simp only [i64_w, i32_w]; rw [c30b0]) | skip)
                have H' := Aside0.mk H
                clear H
                go_wp2_with (first | ((with_reducible refine gate_callee (f := 36) rfl ?_); refine goesL_ (some 41) rfl rfl Tryd.func36 (by kernel_rfl) rfl #[.int .u32 a1, .int .i64 9] rfl (by (try simp only [List.map_toArray, List.map_cons, List.map_nil]); first | done | rfl | (simp only [List.length_drop, List.length_take]; rfl)) ?_; (with_reducible refine (parallaxref4_Has.calls a1 9 true _ A28.out).mono ?_); rintro e w' ⟨rfl, ⟨nd, rfl⟩⟩; refine ⟨_, rfl, ?_⟩; have hnb31 := NB225_222.out; have hnc31 := NB222_225.out; have hcz32_0 : wr.cell? ⟨gb225, 0, none⟩ = some (.string x226000_3) := (blk_cell BK225.out 0).trans rfl; have hcz32_1 : wr.cell? ⟨gb225, 1, none⟩ = some (.string t224) := (blk_cell BK225.out 1).trans rfl; have hfz32_0 := blk_frozen BK225.out 0; have hfz32_1 := blk_frozen BK225.out 1))
                go_meet
                case rel => exact ⟨_, (x226000_3), H', ⟨by have := HK1.out; have := HJ3.out; have := HK3.out; first | omega | exact Nat.le_refl _⟩, ⟨Mark.b BK222⟩, ⟨Mark.b BK225⟩, ⟨Mark.h⟩⟩
               ·rw [if_neg c30] at H
                have c30b0 : (x226000_3.toList == ([] : List UInt8)) = false := beq_eq_false_iff_ne.mpr c30
                have c30b1 : (x226000_3.toList != ([] : List UInt8)) = true := bne_iff_ne.mpr c30
                (first | rw [c30b0] | (simp only [i64_w, i32_w]; rw [c30b0]) | skip)
                obtain ⟨ji33, hji33⟩ : ∃ j_ : Int, (wrap64 ((x226000_3.size : Int) - 1)) = j_ := ⟨_, rfl⟩
                replace H : (if 0 ≤ (ji33) then (if (ji33) < (x226000_3.size : Int) then ((parallaxref1_Blank.f (bt x226000_3 (ji33))).bind fun t227 => (if t227 = true then (if (ji33) ≤ (x226000_3.size : Int) then (parallaxref9_Parse.l1 k3 a1 (x226000_3.extract 0 ((ji33) : Int).toNat) t224) else (none)) else (parallaxref9_Parse.j3 k3 a1 x226000_3 t224))) else (none)) else (none)) = some (r1, r2, r3, r4) := by first | (rw [hji33] at H; exact H) | (simp only [hji33] at H ⊢; exact H)
                (try rw [hji33] at A28)
                have hji33w : (IntKind.i64.wrap ((x226000_3.size : Int) - 1)) = ji33 := (i64_w _).trans hji33
                by_cases c34 : 0 ≤ (ji33)
                ·rw [if_pos c34] at H
                 have c34b0 : decide (0 ≤ (ji33)) = true := decide_eq_true c34
                 clear c34
                 by_cases c35 : (ji33) < (x226000_3.size : Int)
                 ·rw [if_pos c35] at H
                  have c35b0 : decide ((ji33) < (x226000_3.size : Int)) = true := decide_eq_true c35
                  clear c35
                  replace H := Option.bind_eq_some_iff.mp H
                  obtain ⟨t227, A370, H⟩ := H
                  replace H : (if t227 = true then (if (ji33) ≤ (x226000_3.size : Int) then (parallaxref9_Parse.l1 k3 a1 (x226000_3.extract 0 ((ji33) : Int).toNat) t224) else (none)) else (parallaxref9_Parse.j3 k3 a1 x226000_3 t224)) = some (r1, r2, r3, r4) := H
                  have A37 := Aside0.mk A370
                  clear A370
                  by_cases c38 : t227 = true
                  ·subst c38
                   have H1 : (if (ji33) ≤ (x226000_3.size : Int) then (parallaxref9_Parse.l1 k3 a1 (x226000_3.extract 0 ((ji33) : Int).toNat) t224) else (none)) = some (r1, r2, r3, r4) := by rw [if_pos rfl] at H; exact H
                   clear H
                   have H := H1
                   clear H1
                   have c39b0 := eq_true (of_decide_eq_true (by first | (with_reducible assumption) | assumption) : 0 ≤ (ji33))
                   by_cases c40 : (ji33) ≤ (x226000_3.size : Int)
                   ·rw [if_pos c40] at H
                    have c40b0 := eq_true c40
                    have c40b1 : decide ((ji33) ≤ (x226000_3.size : Int)) = true := decide_eq_true c40
                    clear c40
                    have H' := Aside0.mk H
                    clear H
                    go_wp2_with (first | ((with_reducible refine gate_callee (f := 36) rfl ?_); refine goesL_ (some 41) rfl rfl Tryd.func36 (by kernel_rfl) rfl #[.int .u32 a1, .int .i64 9] rfl (by (try simp only [List.map_toArray, List.map_cons, List.map_nil]); first | done | rfl | (simp only [List.length_drop, List.length_take]; rfl)) ?_; (with_reducible refine (parallaxref4_Has.calls a1 9 true _ A28.out).mono ?_); rintro e w' ⟨rfl, ⟨nd, rfl⟩⟩; refine ⟨_, rfl, ?_⟩; (try (rw [drewN_self wr]; generalize hq_ : World.drewN wr _ = wr; have n0_ : Aside0 (wr.heap[gb222]? = some (.cells #[.string (⟨#[]⟩ : ByteArray), .string (⟨#[]⟩ : ByteArray)] 31 (0, 0))) := ⟨by rw [← hq_]; exact (Mark.b BK222)⟩; have n1_ : Aside0 (wr.heap[gb225]? = some (.cells #[.string x226000_3, .string t224] 31 (0, 0))) := ⟨by rw [← hq_]; exact (Mark.b BK225)⟩; have n2_ : Aside0 (Below w.heap.size w wr) := ⟨by rw [← hq_]; exact Mark.h⟩; clear BK222 BK225 HB hq_; have BK222 := n0_; have BK225 := n1_; have HB := n2_; clear n0_ n1_ n2_)); have hcz_2_gb222_0 : wr.cell? ⟨gb222, 0, none⟩ = some (.string (⟨#[]⟩ : ByteArray)) := (blk_cell BK222.out 0).trans rfl; have hfz_2_gb222_0 := blk_frozen BK222.out 0; have hcz_2_gb222_1 : wr.cell? ⟨gb222, 1, none⟩ = some (.string (⟨#[]⟩ : ByteArray)) := (blk_cell BK222.out 1).trans rfl; have hfz_2_gb222_1 := blk_frozen BK222.out 1; have hnb41 := NB225_222.out; have hnc41 := NB222_225.out; have hcz42_0 : wr.cell? ⟨gb225, 0, none⟩ = some (.string x226000_3) := (blk_cell BK225.out 0).trans rfl; have hcz42_1 : wr.cell? ⟨gb225, 1, none⟩ = some (.string t224) := (blk_cell BK225.out 1).trans rfl; have hfz42_0 := blk_frozen BK225.out 0; have hfz42_1 := blk_frozen BK225.out 1; have p36 : 0 ≤ ((ji33) : Int) := of_decide_eq_true (by first | (with_reducible assumption) | assumption); have q36 : (ji33) < (x226000_3.size : Int) := of_decide_eq_true (by first | (with_reducible assumption) | assumption); have hx36 := bt_at x226000_3 (ji33); replace p36 := eq_true p36; replace q36 := eq_true q36) | (go_at_call 38; (with_reducible refine (parallaxref1_Blank.calls (bt x226000_3 (ji33)) true _ A37.out).mono ?_); rintro e w' ⟨rfl, ⟨nd, rfl⟩⟩; (try (rw [drewN_self wr]; generalize hq_ : World.drewN wr _ = wr; have n0_ : Aside0 (wr.heap[gb222]? = some (.cells #[.string (⟨#[]⟩ : ByteArray), .string (⟨#[]⟩ : ByteArray)] 31 (0, 0))) := ⟨by rw [← hq_]; exact (Mark.b BK222)⟩; have n1_ : Aside0 (wr.heap[gb225]? = some (.cells #[.string x226000_3, .string t224] 31 (0, 0))) := ⟨by rw [← hq_]; exact (Mark.b BK225)⟩; have n2_ : Aside0 (Below w.heap.size w wr) := ⟨by rw [← hq_]; exact Mark.h⟩; clear BK222 BK225 HB hq_; have BK222 := n0_; have BK225 := n1_; have HB := n2_; clear n0_ n1_ n2_)); have hcz_3_gb222_0 : wr.cell? ⟨gb222, 0, none⟩ = some (.string (⟨#[]⟩ : ByteArray)) := (blk_cell BK222.out 0).trans rfl; have hfz_3_gb222_0 := blk_frozen BK222.out 0; have hcz_3_gb222_1 : wr.cell? ⟨gb222, 1, none⟩ = some (.string (⟨#[]⟩ : ByteArray)) := (blk_cell BK222.out 1).trans rfl; have hfz_3_gb222_1 := blk_frozen BK222.out 1; have hcz_3_gb225_0 : wr.cell? ⟨gb225, 0, none⟩ = some (.string x226000_3) := (blk_cell BK225.out 0).trans rfl; have hfz_3_gb225_0 := blk_frozen BK225.out 0; have hcz_3_gb225_1 : wr.cell? ⟨gb225, 1, none⟩ = some (.string t224) := (blk_cell BK225.out 1).trans rfl; have hfz_3_gb225_1 := blk_frozen BK225.out 1))
                    go_roundg k3
                    case measure => have := HK1.out; have := HJ3.out; have := HK3.out; omega
                    case rel => exact ⟨(x226000_3.extract 0 ((ji33) : Int).toNat), H', ⟨by have := HK1.out; have := HJ3.out; have := HK3.out; omega⟩, ⟨by (with_reducible repeat (first | refine blk_drewN ?_ _ | refine blk_drew ?_ | refine blk_alloc ?_ _)); refine blk_far ?_ NB222_225.out _; (with_reducible repeat (first | refine blk_drewN ?_ _ | refine blk_drew ?_ | refine blk_alloc ?_ _)); exact BK222.out⟩, ⟨by (with_reducible repeat (first | refine blk_drewN ?_ _ | refine blk_drew ?_ | refine blk_alloc ?_ _)); refine blk_put (cs := #[.string x226000_3, .string t224]) ?_ 0 _ rfl; (with_reducible repeat (first | refine blk_drewN ?_ _ | refine blk_drew ?_ | refine blk_alloc ?_ _)); exact BK225.out⟩, ⟨Mark.h⟩⟩
                   ·rw [if_neg c40] at H
                    exact absurd H (by simp)
                  ·replace c38 := Bool.eq_false_iff.mpr c38
                   subst c38
                   have H1 : (parallaxref9_Parse.j3 k3 a1 x226000_3 t224) = some (r1, r2, r3, r4) := by rw [if_neg (show ¬ (false = true) by decide)] at H; exact H
                   clear H
                   have H := H1
                   clear H1
                   have H' := Aside0.mk H
                   clear H
                   go_wp2_with (first | ((with_reducible refine gate_callee (f := 36) rfl ?_); refine goesL_ (some 41) rfl rfl Tryd.func36 (by kernel_rfl) rfl #[.int .u32 a1, .int .i64 9] rfl (by (try simp only [List.map_toArray, List.map_cons, List.map_nil]); first | done | rfl | (simp only [List.length_drop, List.length_take]; rfl)) ?_; (with_reducible refine (parallaxref4_Has.calls a1 9 true _ A28.out).mono ?_); rintro e w' ⟨rfl, ⟨nd, rfl⟩⟩; refine ⟨_, rfl, ?_⟩; have hnb43 := NB225_222.out; have hnc43 := NB222_225.out; have hcz44_0 : wr.cell? ⟨gb225, 0, none⟩ = some (.string x226000_3) := (blk_cell BK225.out 0).trans rfl; have hcz44_1 : wr.cell? ⟨gb225, 1, none⟩ = some (.string t224) := (blk_cell BK225.out 1).trans rfl; have hfz44_0 := blk_frozen BK225.out 0; have hfz44_1 := blk_frozen BK225.out 1; have p36 : 0 ≤ ((ji33) : Int) := of_decide_eq_true (by first | (with_reducible assumption) | assumption); have q36 : (ji33) < (x226000_3.size : Int) := of_decide_eq_true (by first | (with_reducible assumption) | assumption); have hx36 := bt_at x226000_3 (ji33); replace p36 := eq_true p36; replace q36 := eq_true q36) | (go_at_call 38; (with_reducible refine (parallaxref1_Blank.calls (bt x226000_3 (ji33)) false _ A37.out).mono ?_); rintro e w' ⟨rfl, ⟨nd, rfl⟩⟩))
                   go_meet
                   case rel => exact ⟨_, (x226000_3), H', ⟨by have := HK1.out; have := HJ3.out; have := HK3.out; first | omega | exact Nat.le_refl _⟩, ⟨Mark.b BK222⟩, ⟨Mark.b BK225⟩, ⟨Mark.h⟩⟩
                 ·rw [if_neg c35] at H
                  exact absurd H (by simp)
                ·rw [if_neg c34] at H
                 exact absurd H (by simp)
              ·replace c29 := Bool.eq_false_iff.mpr c29
               subst c29
               have H1 : (parallaxref9_Parse.j3 k3 a1 x226000_3 t224) = some (r1, r2, r3, r4) := by rw [if_neg (show ¬ (false = true) by decide)] at H; exact H
               clear H
               have H := H1
               clear H1
               have H' := Aside0.mk H
               clear H
               go_wp2_with (first | ((with_reducible refine gate_callee (f := 36) rfl ?_); refine goesL_ (some 41) rfl rfl Tryd.func36 (by kernel_rfl) rfl #[.int .u32 a1, .int .i64 9] rfl (by (try simp only [List.map_toArray, List.map_cons, List.map_nil]); first | done | rfl | (simp only [List.length_drop, List.length_take]; rfl)) ?_; (with_reducible refine (parallaxref4_Has.calls a1 9 false _ A28.out).mono ?_); rintro e w' ⟨rfl, ⟨nd, rfl⟩⟩; refine ⟨_, rfl, ?_⟩))
               go_meet
               case rel => exact ⟨_, (x226000_3), H', ⟨by have := HK1.out; have := HJ3.out; have := HK3.out; first | omega | exact Nat.le_refl _⟩, ⟨Mark.b BK222⟩, ⟨Mark.b BK225⟩, ⟨Mark.h⟩⟩
           case rest =>
            clear HC22
            try clear c1
            try clear c2
            try clear p2
            try clear c3
            try clear p3
            try clear q3
            try clear hx3
            try clear c4
            try clear c5
            try clear c5b0
            try clear c6
            try clear p6
            try clear c7
            try clear c7b0
            try clear c8
            try clear c8b0
            try clear p9
            try clear q9
            try clear hx9
            try clear c10
            try clear c10b0
            try clear c10b1
            try clear c11
            try clear c11b0
            try clear c13
            try clear c16
            try clear c16b0
            try clear c16b1
            try clear c17
            try clear c17b0
            try clear c17b1
            try clear c19
            try clear c19b0
            try clear c19b1
            try clear c20
            try clear c20b0
            try clear c20b1
            try clear c23
            try clear c29
            try clear c30
            try clear c30b0
            try clear c30b1
            try clear c31
            try clear c34
            try clear c34b0
            try clear c35
            try clear c35b0
            try clear c36
            try clear p36
            try clear q36
            try clear hx36
            try clear c37
            try clear c38
            try clear c39
            try clear c39b0
            try clear c40
            try clear c40b0
            try clear c40b1
            try clear c41
            try clear c43
            try clear hcz14_0
            try clear hcz14_1
            try clear hcz15_0
            try clear hcz15_1
            try clear hcz32_0
            try clear hcz32_1
            try clear hcz42_0
            try clear hcz42_1
            try clear hcz44_0
            try clear hcz44_1
            try clear hfz14_0
            try clear hfz14_1
            try clear hfz15_0
            try clear hfz15_1
            try clear hfz32_0
            try clear hfz32_1
            try clear hfz42_0
            try clear hfz42_1
            try clear hfz44_0
            try clear hfz44_1
            try clear p2
            try clear p36
            try clear p6
            try clear p9
            try clear q36
            try clear q9
            obtain ⟨kq, x226000_21, HA, HJ21, BK222, BK225, HB⟩ := hcut
            cases kq with
            | zero => exact absurd HA.out (by simp [parallaxref9_Parse.j3])
            | succ kj21 =>
             have H := HA.out
             clear HA
             simp only [parallaxref9_Parse.j3] at H
             by_cases c45 : x226000_21.toList = ([] : List UInt8)
             ·rw [if_pos c45] at H
              have c45b0 : (x226000_21.toList == ([] : List UInt8)) = true := beq_iff_eq.mpr c45
              have c45b1 : (x226000_21.toList != ([] : List UInt8)) = false := bne_eq_false_iff_eq.mpr c45
              clear c45
              replace H := Option.bind_eq_some_iff.mp H
              obtain ⟨t228, A460, H⟩ := H
              replace H : (if t228 = true then (some ((⟨#[]⟩ : ByteArray), (⟨#[]⟩ : ByteArray), false, 0)) else (some ((⟨#[]⟩ : ByteArray), (⟨#[]⟩ : ByteArray), false, 400))) = some (r1, r2, r3, r4) := H
              have A46 := Aside0.mk A460
              clear A460
              by_cases c47 : t228 = true
              ·subst c47
               have H1 : (some ((⟨#[]⟩ : ByteArray), (⟨#[]⟩ : ByteArray), false, 0)) = some (r1, r2, r3, r4) := by rw [if_pos rfl] at H; exact H
               clear H
               have H := H1
               clear H1
               simp only [Option.some.injEq, Prod.mk.injEq] at H
               obtain ⟨rfl, rfl, rfl, rfl⟩ := H
               have hnb48 := NB225_222.out
               have hnc48 := NB222_225.out
               have hcz49_0 : wc.cell? ⟨gb225, 0, none⟩ = some (.string x226000_21) := (blk_cell BK225.out 0).trans rfl
               have hcz49_1 : wc.cell? ⟨gb225, 1, none⟩ = some (.string t224) := (blk_cell BK225.out 1).trans rfl
               have hfz49_0 := blk_frozen BK225.out 0
               have hfz49_1 := blk_frozen BK225.out 1
               go_wp2_with (first | ((with_reducible refine gate_callee (f := 36) rfl ?_); refine goesL_ (some 69) rfl rfl Tryd.func36 (by kernel_rfl) rfl #[.int .u32 a1, .int .i64 12] rfl (by (try simp only [List.map_toArray, List.map_cons, List.map_nil]); first | done | rfl | (simp only [List.length_drop, List.length_take]; rfl)) ?_; (with_reducible refine (parallaxref4_Has.calls a1 12 true _ A46.out).mono ?_); rintro e w' ⟨rfl, ⟨nd, rfl⟩⟩; refine ⟨_, rfl, ?_⟩; (try (rw [drewN_self wc]; generalize hq_ : World.drewN wc _ = wc; have n0_ : Aside0 (wc.heap[gb222]? = some (.cells #[.string (⟨#[]⟩ : ByteArray), .string (⟨#[]⟩ : ByteArray)] 31 (0, 0))) := ⟨by rw [← hq_]; exact (Mark.b BK222)⟩; have n1_ : Aside0 (wc.heap[gb225]? = some (.cells #[.string x226000_21, .string t224] 31 (0, 0))) := ⟨by rw [← hq_]; exact (Mark.b BK225)⟩; have n2_ : Aside0 (Below w.heap.size w wc) := ⟨by rw [← hq_]; exact Mark.h⟩; clear BK222 BK225 HB hq_; have BK222 := n0_; have BK225 := n1_; have HB := n2_; clear n0_ n1_ n2_)); have hcz_4_gb225_0 : wc.cell? ⟨gb225, 0, none⟩ = some (.string x226000_21) := (blk_cell BK225.out 0).trans rfl; have hfz_4_gb225_0 := blk_frozen BK225.out 0; have hcz_4_gb225_1 : wc.cell? ⟨gb225, 1, none⟩ = some (.string t224) := (blk_cell BK225.out 1).trans rfl; have hfz_4_gb225_1 := blk_frozen BK225.out 1; have hcz50_0 : wc.cell? ⟨gb222, 0, none⟩ = some (.string (⟨#[]⟩ : ByteArray)) := (blk_cell BK222.out 0).trans rfl; have hcz50_1 : wc.cell? ⟨gb222, 1, none⟩ = some (.string (⟨#[]⟩ : ByteArray)) := (blk_cell BK222.out 1).trans rfl; have hfz50_0 := blk_frozen BK222.out 0; have hfz50_1 := blk_frozen BK222.out 1))
               refine bodyPost_ret (results_ctt rfl _ _ gb222 31 #[.string (⟨#[]⟩ : ByteArray), .string (⟨#[]⟩ : ByteArray)] (0, 0) _ rfl (by (with_reducible repeat (first | refine blk_drewN ?_ _ | refine blk_drew ?_ | refine blk_alloc ?_ _)); refine blk_put (cs := #[.string (⟨#[]⟩ : ByteArray), .string (⟨#[]⟩ : ByteArray)]) ?_ 1 _ rfl; (with_reducible repeat (first | refine blk_drewN ?_ _ | refine blk_drew ?_ | refine blk_alloc ?_ _)); refine blk_put (cs := #[.string (⟨#[]⟩ : ByteArray), .string (⟨#[]⟩ : ByteArray)]) ?_ 0 _ rfl; (with_reducible repeat (first | refine blk_drewN ?_ _ | refine blk_drew ?_ | refine blk_alloc ?_ _)); exact BK222.out) Tryd.underlying31 rfl (by kernel_rfl)) rfl ?_
               exact ⟨by first | rfl | (simp [errW_none, errW_some] <;> rfl) | (simp only [← hji18]; first | rfl | (simp [errW_none, errW_some] <;> rfl)) | (simp [*, errW_none, errW_some] <;> rfl), Mark.h⟩
              ·replace c47 := Bool.eq_false_iff.mpr c47
               subst c47
               have H1 : (some ((⟨#[]⟩ : ByteArray), (⟨#[]⟩ : ByteArray), false, 400)) = some (r1, r2, r3, r4) := by rw [if_neg (show ¬ (false = true) by decide)] at H; exact H
               clear H
               have H := H1
               clear H1
               simp only [Option.some.injEq, Prod.mk.injEq] at H
               obtain ⟨rfl, rfl, rfl, rfl⟩ := H
               have hnb51 := NB225_222.out
               have hnc51 := NB222_225.out
               have hcz52_0 : wc.cell? ⟨gb225, 0, none⟩ = some (.string x226000_21) := (blk_cell BK225.out 0).trans rfl
               have hcz52_1 : wc.cell? ⟨gb225, 1, none⟩ = some (.string t224) := (blk_cell BK225.out 1).trans rfl
               have hfz52_0 := blk_frozen BK225.out 0
               have hfz52_1 := blk_frozen BK225.out 1
               go_wp2_with (first | ((with_reducible refine gate_callee (f := 36) rfl ?_); refine goesL_ (some 69) rfl rfl Tryd.func36 (by kernel_rfl) rfl #[.int .u32 a1, .int .i64 12] rfl (by (try simp only [List.map_toArray, List.map_cons, List.map_nil]); first | done | rfl | (simp only [List.length_drop, List.length_take]; rfl)) ?_; (with_reducible refine (parallaxref4_Has.calls a1 12 false _ A46.out).mono ?_); rintro e w' ⟨rfl, ⟨nd, rfl⟩⟩; refine ⟨_, rfl, ?_⟩; (try (rw [drewN_self wc]; generalize hq_ : World.drewN wc _ = wc; have n0_ : Aside0 (wc.heap[gb222]? = some (.cells #[.string (⟨#[]⟩ : ByteArray), .string (⟨#[]⟩ : ByteArray)] 31 (0, 0))) := ⟨by rw [← hq_]; exact (Mark.b BK222)⟩; have n1_ : Aside0 (wc.heap[gb225]? = some (.cells #[.string x226000_21, .string t224] 31 (0, 0))) := ⟨by rw [← hq_]; exact (Mark.b BK225)⟩; have n2_ : Aside0 (Below w.heap.size w wc) := ⟨by rw [← hq_]; exact Mark.h⟩; clear BK222 BK225 HB hq_; have BK222 := n0_; have BK225 := n1_; have HB := n2_; clear n0_ n1_ n2_)); have hcz_5_gb225_0 : wc.cell? ⟨gb225, 0, none⟩ = some (.string x226000_21) := (blk_cell BK225.out 0).trans rfl; have hfz_5_gb225_0 := blk_frozen BK225.out 0; have hcz_5_gb225_1 : wc.cell? ⟨gb225, 1, none⟩ = some (.string t224) := (blk_cell BK225.out 1).trans rfl; have hfz_5_gb225_1 := blk_frozen BK225.out 1; have hcz53_0 : wc.cell? ⟨gb222, 0, none⟩ = some (.string (⟨#[]⟩ : ByteArray)) := (blk_cell BK222.out 0).trans rfl; have hcz53_1 : wc.cell? ⟨gb222, 1, none⟩ = some (.string (⟨#[]⟩ : ByteArray)) := (blk_cell BK222.out 1).trans rfl; have hfz53_0 := blk_frozen BK222.out 0; have hfz53_1 := blk_frozen BK222.out 1))
               refine bodyPost_ret (results_ctt rfl _ _ gb222 31 #[.string (⟨#[]⟩ : ByteArray), .string (⟨#[]⟩ : ByteArray)] (0, 0) _ rfl (by (with_reducible repeat (first | refine blk_drewN ?_ _ | refine blk_drew ?_ | refine blk_alloc ?_ _)); refine blk_put (cs := #[.string (⟨#[]⟩ : ByteArray), .string (⟨#[]⟩ : ByteArray)]) ?_ 1 _ rfl; (with_reducible repeat (first | refine blk_drewN ?_ _ | refine blk_drew ?_ | refine blk_alloc ?_ _)); refine blk_put (cs := #[.string (⟨#[]⟩ : ByteArray), .string (⟨#[]⟩ : ByteArray)]) ?_ 0 _ rfl; (with_reducible repeat (first | refine blk_drewN ?_ _ | refine blk_drew ?_ | refine blk_alloc ?_ _)); exact BK222.out) Tryd.underlying31 rfl (by kernel_rfl)) rfl ?_
               exact ⟨by first | rfl | (simp [errW_none, errW_some] <;> rfl) | (simp only [← hji18]; first | rfl | (simp [errW_none, errW_some] <;> rfl)) | (simp [*, errW_none, errW_some] <;> rfl), Mark.h⟩
             ·rw [if_neg c45] at H
              have c45b0 : (x226000_21.toList == ([] : List UInt8)) = false := beq_eq_false_iff_ne.mpr c45
              have c45b1 : (x226000_21.toList != ([] : List UInt8)) = true := bne_iff_ne.mpr c45
              replace H := Option.bind_eq_some_iff.mp H
              obtain ⟨t229, A540, H⟩ := H
              replace H : (if t229 = true then ((parallaxref4_Has.f a1 14).bind fun t230 => (if t230 = true then (some (x226000_21, t224, true, 0)) else ((parallaxref1_All.f kj21 t224 (([6] : List Int))).bind fun t234 => (if t234 = true then (some (x226000_21, t224, true, 0)) else (some ((⟨#[]⟩ : ByteArray), (⟨#[]⟩ : ByteArray), false, 400)))))) else ((parallaxref1_All.f kj21 x226000_21 (([1] : List Int))).bind fun t238 => (if t238 = true then ((parallaxref4_Has.f a1 14).bind fun t239 => (if t239 = true then (some (x226000_21, t224, true, 0)) else ((parallaxref1_All.f kj21 t224 (([6] : List Int))).bind fun t243 => (if t243 = true then (some (x226000_21, t224, true, 0)) else (some ((⟨#[]⟩ : ByteArray), (⟨#[]⟩ : ByteArray), false, 400)))))) else (some ((⟨#[]⟩ : ByteArray), (⟨#[]⟩ : ByteArray), false, 400))))) = some (r1, r2, r3, r4) := H
              have A54 := Aside0.mk A540
              clear A540
              by_cases c55 : t229 = true
              ·subst c55
               have H1 : ((parallaxref4_Has.f a1 14).bind fun t230 => (if t230 = true then (some (x226000_21, t224, true, 0)) else ((parallaxref1_All.f kj21 t224 (([6] : List Int))).bind fun t234 => (if t234 = true then (some (x226000_21, t224, true, 0)) else (some ((⟨#[]⟩ : ByteArray), (⟨#[]⟩ : ByteArray), false, 400)))))) = some (r1, r2, r3, r4) := by rw [if_pos rfl] at H; exact H
               clear H
               have H := H1
               clear H1
               replace H := Option.bind_eq_some_iff.mp H
               obtain ⟨t230, A560, H⟩ := H
               replace H : (if t230 = true then (some (x226000_21, t224, true, 0)) else ((parallaxref1_All.f kj21 t224 (([6] : List Int))).bind fun t234 => (if t234 = true then (some (x226000_21, t224, true, 0)) else (some ((⟨#[]⟩ : ByteArray), (⟨#[]⟩ : ByteArray), false, 400))))) = some (r1, r2, r3, r4) := H
               have A56 := Aside0.mk A560
               clear A560
               by_cases c57 : t230 = true
               ·subst c57
                have H1 : (some (x226000_21, t224, true, 0)) = some (r1, r2, r3, r4) := by rw [if_pos rfl] at H; exact H
                clear H
                have H := H1
                clear H1
                simp only [Option.some.injEq, Prod.mk.injEq] at H
                obtain ⟨rfl, rfl, rfl, rfl⟩ := H
                have hnb58 := NB225_222.out
                have hnc58 := NB222_225.out
                have hcz59_0 : wc.cell? ⟨gb225, 0, none⟩ = some (.string x226000_21) := (blk_cell BK225.out 0).trans rfl
                have hcz59_1 : wc.cell? ⟨gb225, 1, none⟩ = some (.string t224) := (blk_cell BK225.out 1).trans rfl
                have hfz59_0 := blk_frozen BK225.out 0
                have hfz59_1 := blk_frozen BK225.out 1
                go_wp2_with (first | ((with_reducible refine gate_callee (f := 36) rfl ?_); refine goesL_ (some 73) rfl rfl Tryd.func36 (by kernel_rfl) rfl #[.int .u32 a1, .int .i64 10] rfl (by (try simp only [List.map_toArray, List.map_cons, List.map_nil]); first | done | rfl | (simp only [List.length_drop, List.length_take]; rfl)) ?_; (with_reducible refine (parallaxref4_Has.calls a1 10 true _ A54.out).mono ?_); rintro e w' ⟨rfl, ⟨nd, rfl⟩⟩; refine ⟨_, rfl, ?_⟩; (try (rw [drewN_self wc]; generalize hq_ : World.drewN wc _ = wc; have n0_ : Aside0 (wc.heap[gb222]? = some (.cells #[.string (⟨#[]⟩ : ByteArray), .string (⟨#[]⟩ : ByteArray)] 31 (0, 0))) := ⟨by rw [← hq_]; exact (Mark.b BK222)⟩; have n1_ : Aside0 (wc.heap[gb225]? = some (.cells #[.string x226000_21, .string t224] 31 (0, 0))) := ⟨by rw [← hq_]; exact (Mark.b BK225)⟩; have n2_ : Aside0 (Below w.heap.size w wc) := ⟨by rw [← hq_]; exact Mark.h⟩; clear BK222 BK225 HB hq_; have BK222 := n0_; have BK225 := n1_; have HB := n2_; clear n0_ n1_ n2_)); have hcz_6_gb222_0 : wc.cell? ⟨gb222, 0, none⟩ = some (.string (⟨#[]⟩ : ByteArray)) := (blk_cell BK222.out 0).trans rfl; have hfz_6_gb222_0 := blk_frozen BK222.out 0; have hcz_6_gb222_1 : wc.cell? ⟨gb222, 1, none⟩ = some (.string (⟨#[]⟩ : ByteArray)) := (blk_cell BK222.out 1).trans rfl; have hfz_6_gb222_1 := blk_frozen BK222.out 1; have hcz_6_gb225_0 : wc.cell? ⟨gb225, 0, none⟩ = some (.string x226000_21) := (blk_cell BK225.out 0).trans rfl; have hfz_6_gb225_0 := blk_frozen BK225.out 0; have hcz_6_gb225_1 : wc.cell? ⟨gb225, 1, none⟩ = some (.string t224) := (blk_cell BK225.out 1).trans rfl; have hfz_6_gb225_1 := blk_frozen BK225.out 1) | (go_at_call 36; (with_reducible refine (parallaxref4_Has.calls a1 14 true _ A56.out).mono ?_); rintro e w' ⟨rfl, ⟨nd, rfl⟩⟩; (try (rw [drewN_self wc]; generalize hq_ : World.drewN wc _ = wc; have n0_ : Aside0 (wc.heap[gb222]? = some (.cells #[.string (⟨#[]⟩ : ByteArray), .string (⟨#[]⟩ : ByteArray)] 31 (0, 0))) := ⟨by rw [← hq_]; exact (Mark.b BK222)⟩; have n1_ : Aside0 (wc.heap[gb225]? = some (.cells #[.string x226000_21, .string t224] 31 (0, 0))) := ⟨by rw [← hq_]; exact (Mark.b BK225)⟩; have n2_ : Aside0 (Below w.heap.size w wc) := ⟨by rw [← hq_]; exact Mark.h⟩; clear BK222 BK225 HB hq_; have BK222 := n0_; have BK225 := n1_; have HB := n2_; clear n0_ n1_ n2_)); have hcz_7_gb225_0 : wc.cell? ⟨gb225, 0, none⟩ = some (.string x226000_21) := (blk_cell BK225.out 0).trans rfl; have hfz_7_gb225_0 := blk_frozen BK225.out 0; have hcz_7_gb225_1 : wc.cell? ⟨gb225, 1, none⟩ = some (.string t224) := (blk_cell BK225.out 1).trans rfl; have hfz_7_gb225_1 := blk_frozen BK225.out 1; have hcz60_0 : wc.cell? ⟨gb222, 0, none⟩ = some (.string (⟨#[]⟩ : ByteArray)) := (blk_cell BK222.out 0).trans rfl; have hcz60_1 : wc.cell? ⟨gb222, 1, none⟩ = some (.string (⟨#[]⟩ : ByteArray)) := (blk_cell BK222.out 1).trans rfl; have hfz60_0 := blk_frozen BK222.out 0; have hfz60_1 := blk_frozen BK222.out 1))
                refine bodyPost_ret (results_ctt rfl _ _ gb222 31 #[.string x226000_21, .string t224] (0, 0) _ rfl (by (with_reducible repeat (first | refine blk_drewN ?_ _ | refine blk_drew ?_ | refine blk_alloc ?_ _)); refine blk_put (cs := #[.string x226000_21, .string (⟨#[]⟩ : ByteArray)]) ?_ 1 _ rfl; (with_reducible repeat (first | refine blk_drewN ?_ _ | refine blk_drew ?_ | refine blk_alloc ?_ _)); refine blk_put (cs := #[.string (⟨#[]⟩ : ByteArray), .string (⟨#[]⟩ : ByteArray)]) ?_ 0 _ rfl; (with_reducible repeat (first | refine blk_drewN ?_ _ | refine blk_drew ?_ | refine blk_alloc ?_ _)); exact BK222.out) Tryd.underlying31 rfl (by kernel_rfl)) rfl ?_
                exact ⟨by first | rfl | (simp [errW_none, errW_some] <;> rfl) | (simp only [← hji18]; first | rfl | (simp [errW_none, errW_some] <;> rfl)) | (simp [*, errW_none, errW_some] <;> rfl), Mark.h⟩
               ·replace c57 := Bool.eq_false_iff.mpr c57
                subst c57
                have H1 : ((parallaxref1_All.f kj21 t224 (([6] : List Int))).bind fun t234 => (if t234 = true then (some (x226000_21, t224, true, 0)) else (some ((⟨#[]⟩ : ByteArray), (⟨#[]⟩ : ByteArray), false, 400)))) = some (r1, r2, r3, r4) := by rw [if_neg (show ¬ (false = true) by decide)] at H; exact H
                clear H
                have H := H1
                clear H1
                obtain ⟨y231, hy231⟩ : ∃ y_ : List Int, y_ = (([6] : List Int)) := ⟨_, rfl⟩
                replace H : ((parallaxref1_All.f kj21 t224 y231).bind fun t234 => (if t234 = true then (some (x226000_21, t224, true, 0)) else (some ((⟨#[]⟩ : ByteArray), (⟨#[]⟩ : ByteArray), false, 400)))) = some (r1, r2, r3, r4) := by first | (rw [hy231]; with_reducible exact H) | (have H2_ := (Option.bind_some _ _).symm.trans H; rw [hy231]; with_reducible exact H2_) | (have H2_ := (Option.bind_some _ _).symm.trans H; with_reducible exact H2_) | with_reducible exact H | (rw [hy231]; exact H) | exact H
                have Ny231 := Aside0.mk hy231
                clear hy231
                replace H := Option.bind_eq_some_iff.mp H
                obtain ⟨t234, A610, H⟩ := H
                replace H : (if t234 = true then (some (x226000_21, t224, true, 0)) else (some ((⟨#[]⟩ : ByteArray), (⟨#[]⟩ : ByteArray), false, 400))) = some (r1, r2, r3, r4) := H
                have A61 := Aside0.mk A610
                clear A610
                by_cases c62 : t234 = true
                ·subst c62
                 have H1 : (some (x226000_21, t224, true, 0)) = some (r1, r2, r3, r4) := by rw [if_pos rfl] at H; exact H
                 clear H
                 have H := H1
                 clear H1
                 simp only [Option.some.injEq, Prod.mk.injEq] at H
                 obtain ⟨rfl, rfl, rfl, rfl⟩ := H
                 have hnb63 := NB225_222.out
                 have hnc63 := NB222_225.out
                 have hcz64_0 : wc.cell? ⟨gb225, 0, none⟩ = some (.string x226000_21) := (blk_cell BK225.out 0).trans rfl
                 have hcz64_1 : wc.cell? ⟨gb225, 1, none⟩ = some (.string t224) := (blk_cell BK225.out 1).trans rfl
                 have hfz64_0 := blk_frozen BK225.out 0
                 have hfz64_1 := blk_frozen BK225.out 1
                 go_wp2_with (first | ((with_reducible refine gate_callee (f := 36) rfl ?_); refine goesL_ (some 73) rfl rfl Tryd.func36 (by kernel_rfl) rfl #[.int .u32 a1, .int .i64 10] rfl (by (try simp only [List.map_toArray, List.map_cons, List.map_nil]); first | done | rfl | (simp only [List.length_drop, List.length_take]; rfl)) ?_; (with_reducible refine (parallaxref4_Has.calls a1 10 true _ A54.out).mono ?_); rintro e w' ⟨rfl, ⟨nd, rfl⟩⟩; refine ⟨_, rfl, ?_⟩; (try (rw [drewN_self wc]; generalize hq_ : World.drewN wc _ = wc; have n0_ : Aside0 (wc.heap[gb222]? = some (.cells #[.string (⟨#[]⟩ : ByteArray), .string (⟨#[]⟩ : ByteArray)] 31 (0, 0))) := ⟨by rw [← hq_]; exact (Mark.b BK222)⟩; have n1_ : Aside0 (wc.heap[gb225]? = some (.cells #[.string x226000_21, .string t224] 31 (0, 0))) := ⟨by rw [← hq_]; exact (Mark.b BK225)⟩; have n2_ : Aside0 (Below w.heap.size w wc) := ⟨by rw [← hq_]; exact Mark.h⟩; clear BK222 BK225 HB hq_; have BK222 := n0_; have BK225 := n1_; have HB := n2_; clear n0_ n1_ n2_)); have hcz_8_gb222_0 : wc.cell? ⟨gb222, 0, none⟩ = some (.string (⟨#[]⟩ : ByteArray)) := (blk_cell BK222.out 0).trans rfl; have hfz_8_gb222_0 := blk_frozen BK222.out 0; have hcz_8_gb222_1 : wc.cell? ⟨gb222, 1, none⟩ = some (.string (⟨#[]⟩ : ByteArray)) := (blk_cell BK222.out 1).trans rfl; have hfz_8_gb222_1 := blk_frozen BK222.out 1; have hcz_8_gb225_0 : wc.cell? ⟨gb225, 0, none⟩ = some (.string x226000_21) := (blk_cell BK225.out 0).trans rfl; have hfz_8_gb225_0 := blk_frozen BK225.out 0; have hcz_8_gb225_1 : wc.cell? ⟨gb225, 1, none⟩ = some (.string t224) := (blk_cell BK225.out 1).trans rfl; have hfz_8_gb225_1 := blk_frozen BK225.out 1) | (go_at_call 36; (with_reducible refine (parallaxref4_Has.calls a1 14 false _ A56.out).mono ?_); rintro e w' ⟨rfl, ⟨nd, rfl⟩⟩; (try (rw [drewN_self wc]; generalize hq_ : World.drewN wc _ = wc; have n0_ : Aside0 (wc.heap[gb222]? = some (.cells #[.string (⟨#[]⟩ : ByteArray), .string (⟨#[]⟩ : ByteArray)] 31 (0, 0))) := ⟨by rw [← hq_]; exact (Mark.b BK222)⟩; have n1_ : Aside0 (wc.heap[gb225]? = some (.cells #[.string x226000_21, .string t224] 31 (0, 0))) := ⟨by rw [← hq_]; exact (Mark.b BK225)⟩; have n2_ : Aside0 (Below w.heap.size w wc) := ⟨by rw [← hq_]; exact Mark.h⟩; clear BK222 BK225 HB hq_; have BK222 := n0_; have BK225 := n1_; have HB := n2_; clear n0_ n1_ n2_)); have hcz_9_gb222_0 : wc.cell? ⟨gb222, 0, none⟩ = some (.string (⟨#[]⟩ : ByteArray)) := (blk_cell BK222.out 0).trans rfl; have hfz_9_gb222_0 := blk_frozen BK222.out 0; have hcz_9_gb222_1 : wc.cell? ⟨gb222, 1, none⟩ = some (.string (⟨#[]⟩ : ByteArray)) := (blk_cell BK222.out 1).trans rfl; have hfz_9_gb222_1 := blk_frozen BK222.out 1; have hcz_9_gb225_0 : wc.cell? ⟨gb225, 0, none⟩ = some (.string x226000_21) := (blk_cell BK225.out 0).trans rfl; have hfz_9_gb225_0 := blk_frozen BK225.out 0; have hcz_9_gb225_1 : wc.cell? ⟨gb225, 1, none⟩ = some (.string t224) := (blk_cell BK225.out 1).trans rfl; have hfz_9_gb225_1 := blk_frozen BK225.out 1) | ((with_reducible refine gate_dst (N := 89) rfl ?_); (try (refine gate_guard (by rfl) ?_; dsimp only)); refine Kd.R_lit (Kd.int .i64) _ 3 ?hg (N := 89) ?hd (xs := ([6] : List Int)) (inner := [.int .i64 6]) (ok := fun _ => True) (okp := fun _ => True) ?hr ?hp (fun _ hk => hk) trivial (Below.refl _ _) (Nat.le_refl _) (by simp) ?_; (case hd => rfl); (case hg => rfl); (case hr => first | (go_simp; done) | (go_simp; rfl)); (case hp => exact (Reps.one (show Kd.M (Kd.int .i64) _ _ _ 6 [.int .i64 6] from rfl) (Reps.none _ _))); intro v232 w65 ho66 hb hg_ hnew_; clear hg_ hnew_; (first | rw [← Ny231.out] at ho66 | (simp only [Int.reduceToNat] at ho66; rw [← Ny231.out] at ho66)); have n0_ := Aside0.mk (Kd.R_lower ho66 (below_size Mark.h)); have n1_ := Aside0.mk (blk_below (g := gb222) (o := .cells #[.string (⟨#[]⟩ : ByteArray), .string (⟨#[]⟩ : ByteArray)] 31 (0, 0)) (Mark.b BK222) hb); have n2_ := Aside0.mk (blk_below (g := gb225) (o := .cells #[.string x226000_21, .string t224] 31 (0, 0)) (Mark.b BK225) hb); have n3_ := Aside0.mk (below_step Mark.h hb); clear BK222; clear BK225; clear HB; have HO233 := n0_; have BK222 := n1_; have BK225 := n2_; have HB := n3_; clear n0_ n1_ n2_ n3_; clear hb ho66; obtain ⟨Ao67, co67, eo67⟩ := Kd.R_slice HO233.out; subst eo67) | (go_at_call 39; (with_reducible refine (parallaxref1_All.calls kj21 t224 _ _ y231 true _ ?side1 ?side2 A61.out).mono ?_); (case side1 => repeat (first | exact (Kd.R_reads' HO233.out).2.2 | (with_reducible refine Kd.C_alloc ?_ _) | (with_reducible refine Kd.C_drewN ?_ _) | (with_reducible refine Kd.C_drew ?_))); (case side2 => exact (Kd.R_reads' HO233.out).2.1); rintro e w' ⟨rfl, ⟨nd, rfl⟩⟩; (try (rw [drewN_self w65]; generalize hq_ : World.drewN w65 _ = w65; have n0_ : Aside0 (Kd.R (Kd.int .i64) 3 w65 w.heap.size (fun _ => True) (.slice Ao67 y231.length co67) y231) := ⟨by rw [← hq_]; exact (Mark.r HO233)⟩; have n1_ : Aside0 (w65.heap[gb222]? = some (.cells #[.string (⟨#[]⟩ : ByteArray), .string (⟨#[]⟩ : ByteArray)] 31 (0, 0))) := ⟨by rw [← hq_]; exact (Mark.b BK222)⟩; have n2_ : Aside0 (w65.heap[gb225]? = some (.cells #[.string x226000_21, .string t224] 31 (0, 0))) := ⟨by rw [← hq_]; exact (Mark.b BK225)⟩; have n3_ : Aside0 (Below w.heap.size w w65) := ⟨by rw [← hq_]; exact Mark.h⟩; clear HO233 BK222 BK225 HB hq_; have HO233 := n0_; have BK222 := n1_; have BK225 := n2_; have HB := n3_; clear n0_ n1_ n2_ n3_)); have hcz68_0 : w65.cell? ⟨gb225, 0, none⟩ = some (.string x226000_21) := (blk_cell BK225.out 0).trans rfl; have hcz68_1 : w65.cell? ⟨gb225, 1, none⟩ = some (.string t224) := (blk_cell BK225.out 1).trans rfl; have hfz68_0 := blk_frozen BK225.out 0; have hfz68_1 := blk_frozen BK225.out 1; have hcz69_0 : w65.cell? ⟨gb222, 0, none⟩ = some (.string (⟨#[]⟩ : ByteArray)) := (blk_cell BK222.out 0).trans rfl; have hcz69_1 : w65.cell? ⟨gb222, 1, none⟩ = some (.string (⟨#[]⟩ : ByteArray)) := (blk_cell BK222.out 1).trans rfl; have hfz69_0 := blk_frozen BK222.out 0; have hfz69_1 := blk_frozen BK222.out 1))
                 refine bodyPost_ret (results_ctt rfl _ _ gb222 31 #[.string x226000_21, .string t224] (0, 0) _ rfl (by (with_reducible repeat (first | refine blk_drewN ?_ _ | refine blk_drew ?_ | refine blk_alloc ?_ _)); refine blk_put (cs := #[.string x226000_21, .string (⟨#[]⟩ : ByteArray)]) ?_ 1 _ rfl; (with_reducible repeat (first | refine blk_drewN ?_ _ | refine blk_drew ?_ | refine blk_alloc ?_ _)); refine blk_put (cs := #[.string (⟨#[]⟩ : ByteArray), .string (⟨#[]⟩ : ByteArray)]) ?_ 0 _ rfl; (with_reducible repeat (first | refine blk_drewN ?_ _ | refine blk_drew ?_ | refine blk_alloc ?_ _)); exact BK222.out) Tryd.underlying31 rfl (by kernel_rfl)) rfl ?_
                 exact ⟨by first | rfl | (simp [errW_none, errW_some] <;> rfl) | (simp only [← hji18]; first | rfl | (simp [errW_none, errW_some] <;> rfl)) | (simp [*, errW_none, errW_some] <;> rfl), Mark.h⟩
                ·replace c62 := Bool.eq_false_iff.mpr c62
                 subst c62
                 have H1 : (some ((⟨#[]⟩ : ByteArray), (⟨#[]⟩ : ByteArray), false, 400)) = some (r1, r2, r3, r4) := by rw [if_neg (show ¬ (false = true) by decide)] at H; exact H
                 clear H
                 have H := H1
                 clear H1
                 simp only [Option.some.injEq, Prod.mk.injEq] at H
                 obtain ⟨rfl, rfl, rfl, rfl⟩ := H
                 have hnb70 := NB225_222.out
                 have hnc70 := NB222_225.out
                 have hcz71_0 : wc.cell? ⟨gb225, 0, none⟩ = some (.string x226000_21) := (blk_cell BK225.out 0).trans rfl
                 have hcz71_1 : wc.cell? ⟨gb225, 1, none⟩ = some (.string t224) := (blk_cell BK225.out 1).trans rfl
                 have hfz71_0 := blk_frozen BK225.out 0
                 have hfz71_1 := blk_frozen BK225.out 1
                 go_wp2_with (first | ((with_reducible refine gate_callee (f := 36) rfl ?_); refine goesL_ (some 73) rfl rfl Tryd.func36 (by kernel_rfl) rfl #[.int .u32 a1, .int .i64 10] rfl (by (try simp only [List.map_toArray, List.map_cons, List.map_nil]); first | done | rfl | (simp only [List.length_drop, List.length_take]; rfl)) ?_; (with_reducible refine (parallaxref4_Has.calls a1 10 true _ A54.out).mono ?_); rintro e w' ⟨rfl, ⟨nd, rfl⟩⟩; refine ⟨_, rfl, ?_⟩; (try (rw [drewN_self wc]; generalize hq_ : World.drewN wc _ = wc; have n0_ : Aside0 (wc.heap[gb222]? = some (.cells #[.string (⟨#[]⟩ : ByteArray), .string (⟨#[]⟩ : ByteArray)] 31 (0, 0))) := ⟨by rw [← hq_]; exact (Mark.b BK222)⟩; have n1_ : Aside0 (wc.heap[gb225]? = some (.cells #[.string x226000_21, .string t224] 31 (0, 0))) := ⟨by rw [← hq_]; exact (Mark.b BK225)⟩; have n2_ : Aside0 (Below w.heap.size w wc) := ⟨by rw [← hq_]; exact Mark.h⟩; clear BK222 BK225 HB hq_; have BK222 := n0_; have BK225 := n1_; have HB := n2_; clear n0_ n1_ n2_)); have hcz_11_gb222_0 : wc.cell? ⟨gb222, 0, none⟩ = some (.string (⟨#[]⟩ : ByteArray)) := (blk_cell BK222.out 0).trans rfl; have hfz_11_gb222_0 := blk_frozen BK222.out 0; have hcz_11_gb222_1 : wc.cell? ⟨gb222, 1, none⟩ = some (.string (⟨#[]⟩ : ByteArray)) := (blk_cell BK222.out 1).trans rfl; have hfz_11_gb222_1 := blk_frozen BK222.out 1; have hcz_11_gb225_0 : wc.cell? ⟨gb225, 0, none⟩ = some (.string x226000_21) := (blk_cell BK225.out 0).trans rfl; have hfz_11_gb225_0 := blk_frozen BK225.out 0; have hcz_11_gb225_1 : wc.cell? ⟨gb225, 1, none⟩ = some (.string t224) := (blk_cell BK225.out 1).trans rfl; have hfz_11_gb225_1 := blk_frozen BK225.out 1) | (go_at_call 36; (with_reducible refine (parallaxref4_Has.calls a1 14 false _ A56.out).mono ?_); rintro e w' ⟨rfl, ⟨nd, rfl⟩⟩; (try (rw [drewN_self wc]; generalize hq_ : World.drewN wc _ = wc; have n0_ : Aside0 (wc.heap[gb222]? = some (.cells #[.string (⟨#[]⟩ : ByteArray), .string (⟨#[]⟩ : ByteArray)] 31 (0, 0))) := ⟨by rw [← hq_]; exact (Mark.b BK222)⟩; have n1_ : Aside0 (wc.heap[gb225]? = some (.cells #[.string x226000_21, .string t224] 31 (0, 0))) := ⟨by rw [← hq_]; exact (Mark.b BK225)⟩; have n2_ : Aside0 (Below w.heap.size w wc) := ⟨by rw [← hq_]; exact Mark.h⟩; clear BK222 BK225 HB hq_; have BK222 := n0_; have BK225 := n1_; have HB := n2_; clear n0_ n1_ n2_)); have hcz_12_gb222_0 : wc.cell? ⟨gb222, 0, none⟩ = some (.string (⟨#[]⟩ : ByteArray)) := (blk_cell BK222.out 0).trans rfl; have hfz_12_gb222_0 := blk_frozen BK222.out 0; have hcz_12_gb222_1 : wc.cell? ⟨gb222, 1, none⟩ = some (.string (⟨#[]⟩ : ByteArray)) := (blk_cell BK222.out 1).trans rfl; have hfz_12_gb222_1 := blk_frozen BK222.out 1; have hcz_12_gb225_0 : wc.cell? ⟨gb225, 0, none⟩ = some (.string x226000_21) := (blk_cell BK225.out 0).trans rfl; have hfz_12_gb225_0 := blk_frozen BK225.out 0; have hcz_12_gb225_1 : wc.cell? ⟨gb225, 1, none⟩ = some (.string t224) := (blk_cell BK225.out 1).trans rfl; have hfz_12_gb225_1 := blk_frozen BK225.out 1) | ((with_reducible refine gate_dst (N := 89) rfl ?_); (try (refine gate_guard (by rfl) ?_; dsimp only)); refine Kd.R_lit (Kd.int .i64) _ 3 ?hg (N := 89) ?hd (xs := ([6] : List Int)) (inner := [.int .i64 6]) (ok := fun _ => True) (okp := fun _ => True) ?hr ?hp (fun _ hk => hk) trivial (Below.refl _ _) (Nat.le_refl _) (by simp) ?_; (case hd => rfl); (case hg => rfl); (case hr => first | (go_simp; done) | (go_simp; rfl)); (case hp => exact (Reps.one (show Kd.M (Kd.int .i64) _ _ _ 6 [.int .i64 6] from rfl) (Reps.none _ _))); intro v232 w72 ho73 hb hg_ hnew_; clear hg_ hnew_; (first | rw [← Ny231.out] at ho73 | (simp only [Int.reduceToNat] at ho73; rw [← Ny231.out] at ho73)); have n0_ := Aside0.mk (Kd.R_lower ho73 (below_size Mark.h)); have n1_ := Aside0.mk (blk_below (g := gb222) (o := .cells #[.string (⟨#[]⟩ : ByteArray), .string (⟨#[]⟩ : ByteArray)] 31 (0, 0)) (Mark.b BK222) hb); have n2_ := Aside0.mk (blk_below (g := gb225) (o := .cells #[.string x226000_21, .string t224] 31 (0, 0)) (Mark.b BK225) hb); have n3_ := Aside0.mk (below_step Mark.h hb); clear BK222; clear BK225; clear HB; have HO233 := n0_; have BK222 := n1_; have BK225 := n2_; have HB := n3_; clear n0_ n1_ n2_ n3_; clear hb ho73; obtain ⟨Ao74, co74, eo74⟩ := Kd.R_slice HO233.out; subst eo74) | (go_at_call 39; (with_reducible refine (parallaxref1_All.calls kj21 t224 _ _ y231 false _ ?side1 ?side2 A61.out).mono ?_); (case side1 => repeat (first | exact (Kd.R_reads' HO233.out).2.2 | (with_reducible refine Kd.C_alloc ?_ _) | (with_reducible refine Kd.C_drewN ?_ _) | (with_reducible refine Kd.C_drew ?_))); (case side2 => exact (Kd.R_reads' HO233.out).2.1); rintro e w' ⟨rfl, ⟨nd, rfl⟩⟩; (try (rw [drewN_self w72]; generalize hq_ : World.drewN w72 _ = w72; have n0_ : Aside0 (Kd.R (Kd.int .i64) 3 w72 w.heap.size (fun _ => True) (.slice Ao74 y231.length co74) y231) := ⟨by rw [← hq_]; exact (Mark.r HO233)⟩; have n1_ : Aside0 (w72.heap[gb222]? = some (.cells #[.string (⟨#[]⟩ : ByteArray), .string (⟨#[]⟩ : ByteArray)] 31 (0, 0))) := ⟨by rw [← hq_]; exact (Mark.b BK222)⟩; have n2_ : Aside0 (w72.heap[gb225]? = some (.cells #[.string x226000_21, .string t224] 31 (0, 0))) := ⟨by rw [← hq_]; exact (Mark.b BK225)⟩; have n3_ : Aside0 (Below w.heap.size w w72) := ⟨by rw [← hq_]; exact Mark.h⟩; clear HO233 BK222 BK225 HB hq_; have HO233 := n0_; have BK222 := n1_; have BK225 := n2_; have HB := n3_; clear n0_ n1_ n2_ n3_)); have hcz_13_gb225_0 : w72.cell? ⟨gb225, 0, none⟩ = some (.string x226000_21) := (blk_cell BK225.out 0).trans rfl; have hfz_13_gb225_0 := blk_frozen BK225.out 0; have hcz_13_gb225_1 : w72.cell? ⟨gb225, 1, none⟩ = some (.string t224) := (blk_cell BK225.out 1).trans rfl; have hfz_13_gb225_1 := blk_frozen BK225.out 1; have hcz75_0 : w72.cell? ⟨gb222, 0, none⟩ = some (.string (⟨#[]⟩ : ByteArray)) := (blk_cell BK222.out 0).trans rfl; have hcz75_1 : w72.cell? ⟨gb222, 1, none⟩ = some (.string (⟨#[]⟩ : ByteArray)) := (blk_cell BK222.out 1).trans rfl; have hfz75_0 := blk_frozen BK222.out 0; have hfz75_1 := blk_frozen BK222.out 1))
                 refine bodyPost_ret (results_ctt rfl _ _ gb222 31 #[.string (⟨#[]⟩ : ByteArray), .string (⟨#[]⟩ : ByteArray)] (0, 0) _ rfl (by (with_reducible repeat (first | refine blk_drewN ?_ _ | refine blk_drew ?_ | refine blk_alloc ?_ _)); refine blk_put (cs := #[.string (⟨#[]⟩ : ByteArray), .string (⟨#[]⟩ : ByteArray)]) ?_ 1 _ rfl; (with_reducible repeat (first | refine blk_drewN ?_ _ | refine blk_drew ?_ | refine blk_alloc ?_ _)); refine blk_put (cs := #[.string (⟨#[]⟩ : ByteArray), .string (⟨#[]⟩ : ByteArray)]) ?_ 0 _ rfl; (with_reducible repeat (first | refine blk_drewN ?_ _ | refine blk_drew ?_ | refine blk_alloc ?_ _)); exact BK222.out) Tryd.underlying31 rfl (by kernel_rfl)) rfl ?_
                 exact ⟨by first | rfl | (simp [errW_none, errW_some] <;> rfl) | (simp only [← hji18]; first | rfl | (simp [errW_none, errW_some] <;> rfl)) | (simp [*, errW_none, errW_some] <;> rfl), Mark.h⟩
              ·replace c55 := Bool.eq_false_iff.mpr c55
               subst c55
               have H1 : ((parallaxref1_All.f kj21 x226000_21 (([1] : List Int))).bind fun t238 => (if t238 = true then ((parallaxref4_Has.f a1 14).bind fun t239 => (if t239 = true then (some (x226000_21, t224, true, 0)) else ((parallaxref1_All.f kj21 t224 (([6] : List Int))).bind fun t243 => (if t243 = true then (some (x226000_21, t224, true, 0)) else (some ((⟨#[]⟩ : ByteArray), (⟨#[]⟩ : ByteArray), false, 400)))))) else (some ((⟨#[]⟩ : ByteArray), (⟨#[]⟩ : ByteArray), false, 400)))) = some (r1, r2, r3, r4) := by rw [if_neg (show ¬ (false = true) by decide)] at H; exact H
               clear H
               have H := H1
               clear H1
               obtain ⟨y235, hy235⟩ : ∃ y_ : List Int, y_ = (([1] : List Int)) := ⟨_, rfl⟩
               replace H : ((parallaxref1_All.f kj21 x226000_21 y235).bind fun t238 => (if t238 = true then ((parallaxref4_Has.f a1 14).bind fun t239 => (if t239 = true then (some (x226000_21, t224, true, 0)) else ((parallaxref1_All.f kj21 t224 (([6] : List Int))).bind fun t243 => (if t243 = true then (some (x226000_21, t224, true, 0)) else (some ((⟨#[]⟩ : ByteArray), (⟨#[]⟩ : ByteArray), false, 400)))))) else (some ((⟨#[]⟩ : ByteArray), (⟨#[]⟩ : ByteArray), false, 400)))) = some (r1, r2, r3, r4) := by first | (rw [hy235]; with_reducible exact H) | (have H2_ := (Option.bind_some _ _).symm.trans H; rw [hy235]; with_reducible exact H2_) | (have H2_ := (Option.bind_some _ _).symm.trans H; with_reducible exact H2_) | with_reducible exact H | (rw [hy235]; exact H) | exact H
               have Ny235 := Aside0.mk hy235
               clear hy235
               replace H := Option.bind_eq_some_iff.mp H
               obtain ⟨t238, A760, H⟩ := H
               replace H : (if t238 = true then ((parallaxref4_Has.f a1 14).bind fun t239 => (if t239 = true then (some (x226000_21, t224, true, 0)) else ((parallaxref1_All.f kj21 t224 (([6] : List Int))).bind fun t243 => (if t243 = true then (some (x226000_21, t224, true, 0)) else (some ((⟨#[]⟩ : ByteArray), (⟨#[]⟩ : ByteArray), false, 400)))))) else (some ((⟨#[]⟩ : ByteArray), (⟨#[]⟩ : ByteArray), false, 400))) = some (r1, r2, r3, r4) := H
               have A76 := Aside0.mk A760
               clear A760
               by_cases c77 : t238 = true
               ·subst c77
                have H1 : ((parallaxref4_Has.f a1 14).bind fun t239 => (if t239 = true then (some (x226000_21, t224, true, 0)) else ((parallaxref1_All.f kj21 t224 (([6] : List Int))).bind fun t243 => (if t243 = true then (some (x226000_21, t224, true, 0)) else (some ((⟨#[]⟩ : ByteArray), (⟨#[]⟩ : ByteArray), false, 400)))))) = some (r1, r2, r3, r4) := by rw [if_pos rfl] at H; exact H
                clear H
                have H := H1
                clear H1
                replace H := Option.bind_eq_some_iff.mp H
                obtain ⟨t239, A780, H⟩ := H
                replace H : (if t239 = true then (some (x226000_21, t224, true, 0)) else ((parallaxref1_All.f kj21 t224 (([6] : List Int))).bind fun t243 => (if t243 = true then (some (x226000_21, t224, true, 0)) else (some ((⟨#[]⟩ : ByteArray), (⟨#[]⟩ : ByteArray), false, 400))))) = some (r1, r2, r3, r4) := H
                have A78 := Aside0.mk A780
                clear A780
                by_cases c79 : t239 = true
                ·subst c79
                 have H1 : (some (x226000_21, t224, true, 0)) = some (r1, r2, r3, r4) := by rw [if_pos rfl] at H; exact H
                 clear H
                 have H := H1
                 clear H1
                 simp only [Option.some.injEq, Prod.mk.injEq] at H
                 obtain ⟨rfl, rfl, rfl, rfl⟩ := H
                 have hnb80 := NB225_222.out
                 have hnc80 := NB222_225.out
                 have hcz81_0 : wc.cell? ⟨gb225, 0, none⟩ = some (.string x226000_21) := (blk_cell BK225.out 0).trans rfl
                 have hcz81_1 : wc.cell? ⟨gb225, 1, none⟩ = some (.string t224) := (blk_cell BK225.out 1).trans rfl
                 have hfz81_0 := blk_frozen BK225.out 0
                 have hfz81_1 := blk_frozen BK225.out 1
                 go_wp2_with (first | ((with_reducible refine gate_callee (f := 36) rfl ?_); refine goesL_ (some 73) rfl rfl Tryd.func36 (by kernel_rfl) rfl #[.int .u32 a1, .int .i64 10] rfl (by (try simp only [List.map_toArray, List.map_cons, List.map_nil]); first | done | rfl | (simp only [List.length_drop, List.length_take]; rfl)) ?_; (with_reducible refine (parallaxref4_Has.calls a1 10 false _ A54.out).mono ?_); rintro e w' ⟨rfl, ⟨nd, rfl⟩⟩; refine ⟨_, rfl, ?_⟩; (try (rw [drewN_self wc]; generalize hq_ : World.drewN wc _ = wc; have n0_ : Aside0 (wc.heap[gb222]? = some (.cells #[.string (⟨#[]⟩ : ByteArray), .string (⟨#[]⟩ : ByteArray)] 31 (0, 0))) := ⟨by rw [← hq_]; exact (Mark.b BK222)⟩; have n1_ : Aside0 (wc.heap[gb225]? = some (.cells #[.string x226000_21, .string t224] 31 (0, 0))) := ⟨by rw [← hq_]; exact (Mark.b BK225)⟩; have n2_ : Aside0 (Below w.heap.size w wc) := ⟨by rw [← hq_]; exact Mark.h⟩; clear BK222 BK225 HB hq_; have BK222 := n0_; have BK225 := n1_; have HB := n2_; clear n0_ n1_ n2_)); have hcz_14_gb222_0 : wc.cell? ⟨gb222, 0, none⟩ = some (.string (⟨#[]⟩ : ByteArray)) := (blk_cell BK222.out 0).trans rfl; have hfz_14_gb222_0 := blk_frozen BK222.out 0; have hcz_14_gb222_1 : wc.cell? ⟨gb222, 1, none⟩ = some (.string (⟨#[]⟩ : ByteArray)) := (blk_cell BK222.out 1).trans rfl; have hfz_14_gb222_1 := blk_frozen BK222.out 1; have hcz_14_gb225_0 : wc.cell? ⟨gb225, 0, none⟩ = some (.string x226000_21) := (blk_cell BK225.out 0).trans rfl; have hfz_14_gb225_0 := blk_frozen BK225.out 0; have hcz_14_gb225_1 : wc.cell? ⟨gb225, 1, none⟩ = some (.string t224) := (blk_cell BK225.out 1).trans rfl; have hfz_14_gb225_1 := blk_frozen BK225.out 1) | ((with_reducible refine gate_dst (N := 78) rfl ?_); (try (refine gate_guard (by rfl) ?_; dsimp only)); refine Kd.R_lit (Kd.int .i64) _ 3 ?hg (N := 78) ?hd (xs := ([1] : List Int)) (inner := [.int .i64 1]) (ok := fun _ => True) (okp := fun _ => True) ?hr ?hp (fun _ hk => hk) trivial (Below.refl _ _) (Nat.le_refl _) (by simp) ?_; (case hd => rfl); (case hg => rfl); (case hr => first | (go_simp; done) | (go_simp; rfl)); (case hp => exact (Reps.one (show Kd.M (Kd.int .i64) _ _ _ 1 [.int .i64 1] from rfl) (Reps.none _ _))); intro v236 w82 ho83 hb hg_ hnew_; clear hg_ hnew_; (first | rw [← Ny235.out] at ho83 | (simp only [Int.reduceToNat] at ho83; rw [← Ny235.out] at ho83)); have n0_ := Aside0.mk (Kd.R_lower ho83 (below_size Mark.h)); have n1_ := Aside0.mk (blk_below (g := gb222) (o := .cells #[.string (⟨#[]⟩ : ByteArray), .string (⟨#[]⟩ : ByteArray)] 31 (0, 0)) (Mark.b BK222) hb); have n2_ := Aside0.mk (blk_below (g := gb225) (o := .cells #[.string x226000_21, .string t224] 31 (0, 0)) (Mark.b BK225) hb); have n3_ := Aside0.mk (below_step Mark.h hb); clear BK222; clear BK225; clear HB; have HO237 := n0_; have BK222 := n1_; have BK225 := n2_; have HB := n3_; clear n0_ n1_ n2_ n3_; clear hb ho83; obtain ⟨Ao84, co84, eo84⟩ := Kd.R_slice HO237.out; subst eo84) | (go_at_call 39; (with_reducible refine (parallaxref1_All.calls kj21 x226000_21 _ _ y235 true _ ?side1 ?side2 A76.out).mono ?_); (case side1 => repeat (first | exact (Kd.R_reads' HO237.out).2.2 | (with_reducible refine Kd.C_alloc ?_ _) | (with_reducible refine Kd.C_drewN ?_ _) | (with_reducible refine Kd.C_drew ?_))); (case side2 => exact (Kd.R_reads' HO237.out).2.1); rintro e w' ⟨rfl, ⟨nd, rfl⟩⟩; (try (rw [drewN_self w82]; generalize hq_ : World.drewN w82 _ = w82; have n0_ : Aside0 (Kd.R (Kd.int .i64) 3 w82 w.heap.size (fun _ => True) (.slice Ao84 y235.length co84) y235) := ⟨by rw [← hq_]; exact (Mark.r HO237)⟩; have n1_ : Aside0 (w82.heap[gb222]? = some (.cells #[.string (⟨#[]⟩ : ByteArray), .string (⟨#[]⟩ : ByteArray)] 31 (0, 0))) := ⟨by rw [← hq_]; exact (Mark.b BK222)⟩; have n2_ : Aside0 (w82.heap[gb225]? = some (.cells #[.string x226000_21, .string t224] 31 (0, 0))) := ⟨by rw [← hq_]; exact (Mark.b BK225)⟩; have n3_ : Aside0 (Below w.heap.size w w82) := ⟨by rw [← hq_]; exact Mark.h⟩; clear HO237 BK222 BK225 HB hq_; have HO237 := n0_; have BK222 := n1_; have BK225 := n2_; have HB := n3_; clear n0_ n1_ n2_ n3_)); have hcz_15_gb222_0 : w82.cell? ⟨gb222, 0, none⟩ = some (.string (⟨#[]⟩ : ByteArray)) := (blk_cell BK222.out 0).trans rfl; have hfz_15_gb222_0 := blk_frozen BK222.out 0; have hcz_15_gb222_1 : w82.cell? ⟨gb222, 1, none⟩ = some (.string (⟨#[]⟩ : ByteArray)) := (blk_cell BK222.out 1).trans rfl; have hfz_15_gb222_1 := blk_frozen BK222.out 1; have hcz_15_gb225_0 : w82.cell? ⟨gb225, 0, none⟩ = some (.string x226000_21) := (blk_cell BK225.out 0).trans rfl; have hfz_15_gb225_0 := blk_frozen BK225.out 0; have hcz_15_gb225_1 : w82.cell? ⟨gb225, 1, none⟩ = some (.string t224) := (blk_cell BK225.out 1).trans rfl; have hfz_15_gb225_1 := blk_frozen BK225.out 1) | (go_at_call 36; (with_reducible refine (parallaxref4_Has.calls a1 14 true _ A78.out).mono ?_); rintro e w' ⟨rfl, ⟨nd, rfl⟩⟩; (try (rw [drewN_self w82]; generalize hq_ : World.drewN w82 _ = w82; have n0_ : Aside0 (Kd.R (Kd.int .i64) 3 w82 w.heap.size (fun _ => True) (.slice Ao84 y235.length co84) y235) := ⟨by rw [← hq_]; exact (Mark.r HO237)⟩; have n1_ : Aside0 (w82.heap[gb222]? = some (.cells #[.string (⟨#[]⟩ : ByteArray), .string (⟨#[]⟩ : ByteArray)] 31 (0, 0))) := ⟨by rw [← hq_]; exact (Mark.b BK222)⟩; have n2_ : Aside0 (w82.heap[gb225]? = some (.cells #[.string x226000_21, .string t224] 31 (0, 0))) := ⟨by rw [← hq_]; exact (Mark.b BK225)⟩; have n3_ : Aside0 (Below w.heap.size w w82) := ⟨by rw [← hq_]; exact Mark.h⟩; clear HO237 BK222 BK225 HB hq_; have HO237 := n0_; have BK222 := n1_; have BK225 := n2_; have HB := n3_; clear n0_ n1_ n2_ n3_)); have hcz85_0 : w82.cell? ⟨gb225, 0, none⟩ = some (.string x226000_21) := (blk_cell BK225.out 0).trans rfl; have hcz85_1 : w82.cell? ⟨gb225, 1, none⟩ = some (.string t224) := (blk_cell BK225.out 1).trans rfl; have hfz85_0 := blk_frozen BK225.out 0; have hfz85_1 := blk_frozen BK225.out 1; have hcz86_0 : w82.cell? ⟨gb222, 0, none⟩ = some (.string (⟨#[]⟩ : ByteArray)) := (blk_cell BK222.out 0).trans rfl; have hcz86_1 : w82.cell? ⟨gb222, 1, none⟩ = some (.string (⟨#[]⟩ : ByteArray)) := (blk_cell BK222.out 1).trans rfl; have hfz86_0 := blk_frozen BK222.out 0; have hfz86_1 := blk_frozen BK222.out 1))
                 refine bodyPost_ret (results_ctt rfl _ _ gb222 31 #[.string x226000_21, .string t224] (0, 0) _ rfl (by (with_reducible repeat (first | refine blk_drewN ?_ _ | refine blk_drew ?_ | refine blk_alloc ?_ _)); refine blk_put (cs := #[.string x226000_21, .string (⟨#[]⟩ : ByteArray)]) ?_ 1 _ rfl; (with_reducible repeat (first | refine blk_drewN ?_ _ | refine blk_drew ?_ | refine blk_alloc ?_ _)); refine blk_put (cs := #[.string (⟨#[]⟩ : ByteArray), .string (⟨#[]⟩ : ByteArray)]) ?_ 0 _ rfl; (with_reducible repeat (first | refine blk_drewN ?_ _ | refine blk_drew ?_ | refine blk_alloc ?_ _)); exact BK222.out) Tryd.underlying31 rfl (by kernel_rfl)) rfl ?_
                 exact ⟨by first | rfl | (simp [errW_none, errW_some] <;> rfl) | (simp only [← hji18]; first | rfl | (simp [errW_none, errW_some] <;> rfl)) | (simp [*, errW_none, errW_some] <;> rfl), Mark.h⟩
                ·replace c79 := Bool.eq_false_iff.mpr c79
                 subst c79
                 have H1 : ((parallaxref1_All.f kj21 t224 (([6] : List Int))).bind fun t243 => (if t243 = true then (some (x226000_21, t224, true, 0)) else (some ((⟨#[]⟩ : ByteArray), (⟨#[]⟩ : ByteArray), false, 400)))) = some (r1, r2, r3, r4) := by rw [if_neg (show ¬ (false = true) by decide)] at H; exact H
                 clear H
                 have H := H1
                 clear H1
                 obtain ⟨y240, hy240⟩ : ∃ y_ : List Int, y_ = (([6] : List Int)) := ⟨_, rfl⟩
                 replace H : ((parallaxref1_All.f kj21 t224 y240).bind fun t243 => (if t243 = true then (some (x226000_21, t224, true, 0)) else (some ((⟨#[]⟩ : ByteArray), (⟨#[]⟩ : ByteArray), false, 400)))) = some (r1, r2, r3, r4) := by first | (rw [hy240]; with_reducible exact H) | (have H2_ := (Option.bind_some _ _).symm.trans H; rw [hy240]; with_reducible exact H2_) | (have H2_ := (Option.bind_some _ _).symm.trans H; with_reducible exact H2_) | with_reducible exact H | (rw [hy240]; exact H) | exact H
                 have Ny240 := Aside0.mk hy240
                 clear hy240
                 replace H := Option.bind_eq_some_iff.mp H
                 obtain ⟨t243, A870, H⟩ := H
                 replace H : (if t243 = true then (some (x226000_21, t224, true, 0)) else (some ((⟨#[]⟩ : ByteArray), (⟨#[]⟩ : ByteArray), false, 400))) = some (r1, r2, r3, r4) := H
                 have A87 := Aside0.mk A870
                 clear A870
                 by_cases c88 : t243 = true
                 ·subst c88
                  have H1 : (some (x226000_21, t224, true, 0)) = some (r1, r2, r3, r4) := by rw [if_pos rfl] at H; exact H
                  clear H
                  have H := H1
                  clear H1
                  simp only [Option.some.injEq, Prod.mk.injEq] at H
                  obtain ⟨rfl, rfl, rfl, rfl⟩ := H
                  have hnb89 := NB225_222.out
                  have hnc89 := NB222_225.out
                  have hcz90_0 : wc.cell? ⟨gb225, 0, none⟩ = some (.string x226000_21) := (blk_cell BK225.out 0).trans rfl
                  have hcz90_1 : wc.cell? ⟨gb225, 1, none⟩ = some (.string t224) := (blk_cell BK225.out 1).trans rfl
                  have hfz90_0 := blk_frozen BK225.out 0
                  have hfz90_1 := blk_frozen BK225.out 1
                  go_wp2_with (first | ((with_reducible refine gate_callee (f := 36) rfl ?_); refine goesL_ (some 73) rfl rfl Tryd.func36 (by kernel_rfl) rfl #[.int .u32 a1, .int .i64 10] rfl (by (try simp only [List.map_toArray, List.map_cons, List.map_nil]); first | done | rfl | (simp only [List.length_drop, List.length_take]; rfl)) ?_; (with_reducible refine (parallaxref4_Has.calls a1 10 false _ A54.out).mono ?_); rintro e w' ⟨rfl, ⟨nd, rfl⟩⟩; refine ⟨_, rfl, ?_⟩; (try (rw [drewN_self wc]; generalize hq_ : World.drewN wc _ = wc; have n0_ : Aside0 (wc.heap[gb222]? = some (.cells #[.string (⟨#[]⟩ : ByteArray), .string (⟨#[]⟩ : ByteArray)] 31 (0, 0))) := ⟨by rw [← hq_]; exact (Mark.b BK222)⟩; have n1_ : Aside0 (wc.heap[gb225]? = some (.cells #[.string x226000_21, .string t224] 31 (0, 0))) := ⟨by rw [← hq_]; exact (Mark.b BK225)⟩; have n2_ : Aside0 (Below w.heap.size w wc) := ⟨by rw [← hq_]; exact Mark.h⟩; clear BK222 BK225 HB hq_; have BK222 := n0_; have BK225 := n1_; have HB := n2_; clear n0_ n1_ n2_)); have hcz_17_gb222_0 : wc.cell? ⟨gb222, 0, none⟩ = some (.string (⟨#[]⟩ : ByteArray)) := (blk_cell BK222.out 0).trans rfl; have hfz_17_gb222_0 := blk_frozen BK222.out 0; have hcz_17_gb222_1 : wc.cell? ⟨gb222, 1, none⟩ = some (.string (⟨#[]⟩ : ByteArray)) := (blk_cell BK222.out 1).trans rfl; have hfz_17_gb222_1 := blk_frozen BK222.out 1; have hcz_17_gb225_0 : wc.cell? ⟨gb225, 0, none⟩ = some (.string x226000_21) := (blk_cell BK225.out 0).trans rfl; have hfz_17_gb225_0 := blk_frozen BK225.out 0; have hcz_17_gb225_1 : wc.cell? ⟨gb225, 1, none⟩ = some (.string t224) := (blk_cell BK225.out 1).trans rfl; have hfz_17_gb225_1 := blk_frozen BK225.out 1) | ((with_reducible refine gate_dst (N := 78) rfl ?_); (try (refine gate_guard (by rfl) ?_; dsimp only)); refine Kd.R_lit (Kd.int .i64) _ 3 ?hg (N := 78) ?hd (xs := ([1] : List Int)) (inner := [.int .i64 1]) (ok := fun _ => True) (okp := fun _ => True) ?hr ?hp (fun _ hk => hk) trivial (Below.refl _ _) (Nat.le_refl _) (by simp) ?_; (case hd => rfl); (case hg => rfl); (case hr => first | (go_simp; done) | (go_simp; rfl)); (case hp => exact (Reps.one (show Kd.M (Kd.int .i64) _ _ _ 1 [.int .i64 1] from rfl) (Reps.none _ _))); intro v236 w91 ho92 hb hg_ hnew_; clear hg_ hnew_; (first | rw [← Ny235.out] at ho92 | (simp only [Int.reduceToNat] at ho92; rw [← Ny235.out] at ho92)); have n0_ := Aside0.mk (Kd.R_lower ho92 (below_size Mark.h)); have n1_ := Aside0.mk (blk_below (g := gb222) (o := .cells #[.string (⟨#[]⟩ : ByteArray), .string (⟨#[]⟩ : ByteArray)] 31 (0, 0)) (Mark.b BK222) hb); have n2_ := Aside0.mk (blk_below (g := gb225) (o := .cells #[.string x226000_21, .string t224] 31 (0, 0)) (Mark.b BK225) hb); have n3_ := Aside0.mk (below_step Mark.h hb); clear BK222; clear BK225; clear HB; have HO237 := n0_; have BK222 := n1_; have BK225 := n2_; have HB := n3_; clear n0_ n1_ n2_ n3_; clear hb ho92; obtain ⟨Ao93, co93, eo93⟩ := Kd.R_slice HO237.out; subst eo93) | (go_at_call 39; (with_reducible refine (parallaxref1_All.calls kj21 x226000_21 _ _ y235 true _ ?side1 ?side2 A76.out).mono ?_); (case side1 => repeat (first | exact (Kd.R_reads' HO237.out).2.2 | (with_reducible refine Kd.C_alloc ?_ _) | (with_reducible refine Kd.C_drewN ?_ _) | (with_reducible refine Kd.C_drew ?_))); (case side2 => exact (Kd.R_reads' HO237.out).2.1); rintro e w' ⟨rfl, ⟨nd, rfl⟩⟩; (try (rw [drewN_self w91]; generalize hq_ : World.drewN w91 _ = w91; have n0_ : Aside0 (Kd.R (Kd.int .i64) 3 w91 w.heap.size (fun _ => True) (.slice Ao93 y235.length co93) y235) := ⟨by rw [← hq_]; exact (Mark.r HO237)⟩; have n1_ : Aside0 (w91.heap[gb222]? = some (.cells #[.string (⟨#[]⟩ : ByteArray), .string (⟨#[]⟩ : ByteArray)] 31 (0, 0))) := ⟨by rw [← hq_]; exact (Mark.b BK222)⟩; have n2_ : Aside0 (w91.heap[gb225]? = some (.cells #[.string x226000_21, .string t224] 31 (0, 0))) := ⟨by rw [← hq_]; exact (Mark.b BK225)⟩; have n3_ : Aside0 (Below w.heap.size w w91) := ⟨by rw [← hq_]; exact Mark.h⟩; clear HO237 BK222 BK225 HB hq_; have HO237 := n0_; have BK222 := n1_; have BK225 := n2_; have HB := n3_; clear n0_ n1_ n2_ n3_)); have hcz_18_gb222_0 : w91.cell? ⟨gb222, 0, none⟩ = some (.string (⟨#[]⟩ : ByteArray)) := (blk_cell BK222.out 0).trans rfl; have hfz_18_gb222_0 := blk_frozen BK222.out 0; have hcz_18_gb222_1 : w91.cell? ⟨gb222, 1, none⟩ = some (.string (⟨#[]⟩ : ByteArray)) := (blk_cell BK222.out 1).trans rfl; have hfz_18_gb222_1 := blk_frozen BK222.out 1; have hcz_18_gb225_0 : w91.cell? ⟨gb225, 0, none⟩ = some (.string x226000_21) := (blk_cell BK225.out 0).trans rfl; have hfz_18_gb225_0 := blk_frozen BK225.out 0; have hcz_18_gb225_1 : w91.cell? ⟨gb225, 1, none⟩ = some (.string t224) := (blk_cell BK225.out 1).trans rfl; have hfz_18_gb225_1 := blk_frozen BK225.out 1) | (go_at_call 36; (with_reducible refine (parallaxref4_Has.calls a1 14 false _ A78.out).mono ?_); rintro e w' ⟨rfl, ⟨nd, rfl⟩⟩; (try (rw [drewN_self w91]; generalize hq_ : World.drewN w91 _ = w91; have n0_ : Aside0 (Kd.R (Kd.int .i64) 3 w91 w.heap.size (fun _ => True) (.slice Ao93 y235.length co93) y235) := ⟨by rw [← hq_]; exact (Mark.r HO237)⟩; have n1_ : Aside0 (w91.heap[gb222]? = some (.cells #[.string (⟨#[]⟩ : ByteArray), .string (⟨#[]⟩ : ByteArray)] 31 (0, 0))) := ⟨by rw [← hq_]; exact (Mark.b BK222)⟩; have n2_ : Aside0 (w91.heap[gb225]? = some (.cells #[.string x226000_21, .string t224] 31 (0, 0))) := ⟨by rw [← hq_]; exact (Mark.b BK225)⟩; have n3_ : Aside0 (Below w.heap.size w w91) := ⟨by rw [← hq_]; exact Mark.h⟩; clear HO237 BK222 BK225 HB hq_; have HO237 := n0_; have BK222 := n1_; have BK225 := n2_; have HB := n3_; clear n0_ n1_ n2_ n3_)); have hcz_19_gb222_0 : w91.cell? ⟨gb222, 0, none⟩ = some (.string (⟨#[]⟩ : ByteArray)) := (blk_cell BK222.out 0).trans rfl; have hfz_19_gb222_0 := blk_frozen BK222.out 0; have hcz_19_gb222_1 : w91.cell? ⟨gb222, 1, none⟩ = some (.string (⟨#[]⟩ : ByteArray)) := (blk_cell BK222.out 1).trans rfl; have hfz_19_gb222_1 := blk_frozen BK222.out 1; have hcz94_0 : w91.cell? ⟨gb225, 0, none⟩ = some (.string x226000_21) := (blk_cell BK225.out 0).trans rfl; have hcz94_1 : w91.cell? ⟨gb225, 1, none⟩ = some (.string t224) := (blk_cell BK225.out 1).trans rfl; have hfz94_0 := blk_frozen BK225.out 0; have hfz94_1 := blk_frozen BK225.out 1) | ((with_reducible refine gate_dst (N := 89) rfl ?_); (try (refine gate_guard (by rfl) ?_; dsimp only)); refine Kd.R_lit (Kd.int .i64) _ 3 ?hg (N := 89) ?hd (xs := ([6] : List Int)) (inner := [.int .i64 6]) (ok := fun _ => True) (okp := fun _ => True) ?hr ?hp (fun _ hk => hk) trivial (Below.refl _ _) (Nat.le_refl _) (by simp) ?_; (case hd => rfl); (case hg => rfl); (case hr => first | (go_simp; done) | (go_simp; rfl)); (case hp => exact (Reps.one (show Kd.M (Kd.int .i64) _ _ _ 6 [.int .i64 6] from rfl) (Reps.none _ _))); intro v241 w95 ho96 hb hg_ hnew_; clear hg_ hnew_; (first | rw [← Ny240.out] at ho96 | (simp only [Int.reduceToNat] at ho96; rw [← Ny240.out] at ho96)); have n0_ := Aside0.mk (Kd.R_elder' (Mark.r HO237) (Kd.R_base ho96) hb); have n1_ := Aside0.mk (Kd.R_lower (Kd.R_new' ho96 (Kd.R_lt (Mark.r HO237))) (below_size Mark.h)); have n2_ := Aside0.mk (blk_below (g := gb222) (o := .cells #[.string (⟨#[]⟩ : ByteArray), .string (⟨#[]⟩ : ByteArray)] 31 (0, 0)) (Mark.b BK222) hb); have n3_ := Aside0.mk (blk_below (g := gb225) (o := .cells #[.string x226000_21, .string t224] 31 (0, 0)) (Mark.b BK225) hb); have n4_ := Aside0.mk (below_step Mark.h hb); clear HO237; clear BK222; clear BK225; clear HB; have HO237 := n0_; have HO242 := n1_; have BK222 := n2_; have BK225 := n3_; have HB := n4_; clear n0_ n1_ n2_ n3_ n4_; clear hb ho96; obtain ⟨Ao97, co97, eo97⟩ := Kd.R_slice HO242.out; subst eo97) | (go_at_call 39; (with_reducible refine (parallaxref1_All.calls kj21 t224 _ _ y240 true _ ?side1 ?side2 A87.out).mono ?_); (case side1 => repeat (first | exact (Kd.R_reads' HO242.out).2.2 | (with_reducible refine Kd.C_alloc ?_ _) | (with_reducible refine Kd.C_drewN ?_ _) | (with_reducible refine Kd.C_drew ?_))); (case side2 => exact (Kd.R_reads' HO242.out).2.1); rintro e w' ⟨rfl, ⟨nd, rfl⟩⟩; (try (rw [drewN_self w95]; generalize hq_ : World.drewN w95 _ = w95; have n0_ : Aside0 (Kd.R (Kd.int .i64) 3 w95 w.heap.size (fun k_ => some k_ ≠ (.slice Ao97 y240.length co97 : Value).ownBlock) (.slice Ao93 y235.length co93) y235) := ⟨by rw [← hq_]; exact (by (with_reducible repeat (first | apply Kd.R_alloc | apply Kd.R_drewN | apply Kd.R_drew)); exact Kd.R_mono HO237.out Mark.K)⟩; have n1_ : Aside0 (Kd.R (Kd.int .i64) 3 w95 w.heap.size (fun k_ => some k_ ≠ (.slice Ao93 y235.length co93 : Value).ownBlock) (.slice Ao97 y240.length co97) y240) := ⟨by rw [← hq_]; exact (by (with_reducible repeat (first | apply Kd.R_alloc | apply Kd.R_drewN | apply Kd.R_drew)); exact Kd.R_mono HO242.out Mark.K)⟩; have n2_ : Aside0 (w95.heap[gb222]? = some (.cells #[.string (⟨#[]⟩ : ByteArray), .string (⟨#[]⟩ : ByteArray)] 31 (0, 0))) := ⟨by rw [← hq_]; exact (Mark.b BK222)⟩; have n3_ : Aside0 (w95.heap[gb225]? = some (.cells #[.string x226000_21, .string t224] 31 (0, 0))) := ⟨by rw [← hq_]; exact (Mark.b BK225)⟩; have n4_ : Aside0 (Below w.heap.size w w95) := ⟨by rw [← hq_]; exact Mark.h⟩; clear HO237 HO242 BK222 BK225 HB hq_; have HO237 := n0_; have HO242 := n1_; have BK222 := n2_; have BK225 := n3_; have HB := n4_; clear n0_ n1_ n2_ n3_ n4_)); have hcz98_0 : w95.cell? ⟨gb225, 0, none⟩ = some (.string x226000_21) := (blk_cell BK225.out 0).trans rfl; have hcz98_1 : w95.cell? ⟨gb225, 1, none⟩ = some (.string t224) := (blk_cell BK225.out 1).trans rfl; have hfz98_0 := blk_frozen BK225.out 0; have hfz98_1 := blk_frozen BK225.out 1; have hcz99_0 : w95.cell? ⟨gb222, 0, none⟩ = some (.string (⟨#[]⟩ : ByteArray)) := (blk_cell BK222.out 0).trans rfl; have hcz99_1 : w95.cell? ⟨gb222, 1, none⟩ = some (.string (⟨#[]⟩ : ByteArray)) := (blk_cell BK222.out 1).trans rfl; have hfz99_0 := blk_frozen BK222.out 0; have hfz99_1 := blk_frozen BK222.out 1))
                  refine bodyPost_ret (results_ctt rfl _ _ gb222 31 #[.string x226000_21, .string t224] (0, 0) _ rfl (by (with_reducible repeat (first | refine blk_drewN ?_ _ | refine blk_drew ?_ | refine blk_alloc ?_ _)); refine blk_put (cs := #[.string x226000_21, .string (⟨#[]⟩ : ByteArray)]) ?_ 1 _ rfl; (with_reducible repeat (first | refine blk_drewN ?_ _ | refine blk_drew ?_ | refine blk_alloc ?_ _)); refine blk_put (cs := #[.string (⟨#[]⟩ : ByteArray), .string (⟨#[]⟩ : ByteArray)]) ?_ 0 _ rfl; (with_reducible repeat (first | refine blk_drewN ?_ _ | refine blk_drew ?_ | refine blk_alloc ?_ _)); exact BK222.out) Tryd.underlying31 rfl (by kernel_rfl)) rfl ?_
                  exact ⟨by first | rfl | (simp [errW_none, errW_some] <;> rfl) | (simp only [← hji18]; first | rfl | (simp [errW_none, errW_some] <;> rfl)) | (simp [*, errW_none, errW_some] <;> rfl), Mark.h⟩
                 ·replace c88 := Bool.eq_false_iff.mpr c88
                  subst c88
                  have H1 : (some ((⟨#[]⟩ : ByteArray), (⟨#[]⟩ : ByteArray), false, 400)) = some (r1, r2, r3, r4) := by rw [if_neg (show ¬ (false = true) by decide)] at H; exact H
                  clear H
                  have H := H1
                  clear H1
                  simp only [Option.some.injEq, Prod.mk.injEq] at H
                  obtain ⟨rfl, rfl, rfl, rfl⟩ := H
                  have hnb100 := NB225_222.out
                  have hnc100 := NB222_225.out
                  have hcz101_0 : wc.cell? ⟨gb225, 0, none⟩ = some (.string x226000_21) := (blk_cell BK225.out 0).trans rfl
                  have hcz101_1 : wc.cell? ⟨gb225, 1, none⟩ = some (.string t224) := (blk_cell BK225.out 1).trans rfl
                  have hfz101_0 := blk_frozen BK225.out 0
                  have hfz101_1 := blk_frozen BK225.out 1
                  go_wp2_with (first | ((with_reducible refine gate_callee (f := 36) rfl ?_); refine goesL_ (some 73) rfl rfl Tryd.func36 (by kernel_rfl) rfl #[.int .u32 a1, .int .i64 10] rfl (by (try simp only [List.map_toArray, List.map_cons, List.map_nil]); first | done | rfl | (simp only [List.length_drop, List.length_take]; rfl)) ?_; (with_reducible refine (parallaxref4_Has.calls a1 10 false _ A54.out).mono ?_); rintro e w' ⟨rfl, ⟨nd, rfl⟩⟩; refine ⟨_, rfl, ?_⟩; (try (rw [drewN_self wc]; generalize hq_ : World.drewN wc _ = wc; have n0_ : Aside0 (wc.heap[gb222]? = some (.cells #[.string (⟨#[]⟩ : ByteArray), .string (⟨#[]⟩ : ByteArray)] 31 (0, 0))) := ⟨by rw [← hq_]; exact (Mark.b BK222)⟩; have n1_ : Aside0 (wc.heap[gb225]? = some (.cells #[.string x226000_21, .string t224] 31 (0, 0))) := ⟨by rw [← hq_]; exact (Mark.b BK225)⟩; have n2_ : Aside0 (Below w.heap.size w wc) := ⟨by rw [← hq_]; exact Mark.h⟩; clear BK222 BK225 HB hq_; have BK222 := n0_; have BK225 := n1_; have HB := n2_; clear n0_ n1_ n2_)); have hcz_21_gb222_0 : wc.cell? ⟨gb222, 0, none⟩ = some (.string (⟨#[]⟩ : ByteArray)) := (blk_cell BK222.out 0).trans rfl; have hfz_21_gb222_0 := blk_frozen BK222.out 0; have hcz_21_gb222_1 : wc.cell? ⟨gb222, 1, none⟩ = some (.string (⟨#[]⟩ : ByteArray)) := (blk_cell BK222.out 1).trans rfl; have hfz_21_gb222_1 := blk_frozen BK222.out 1; have hcz_21_gb225_0 : wc.cell? ⟨gb225, 0, none⟩ = some (.string x226000_21) := (blk_cell BK225.out 0).trans rfl; have hfz_21_gb225_0 := blk_frozen BK225.out 0; have hcz_21_gb225_1 : wc.cell? ⟨gb225, 1, none⟩ = some (.string t224) := (blk_cell BK225.out 1).trans rfl; have hfz_21_gb225_1 := blk_frozen BK225.out 1) | ((with_reducible refine gate_dst (N := 78) rfl ?_); (try (refine gate_guard (by rfl) ?_; dsimp only)); refine Kd.R_lit (Kd.int .i64) _ 3 ?hg (N := 78) ?hd (xs := ([1] : List Int)) (inner := [.int .i64 1]) (ok := fun _ => True) (okp := fun _ => True) ?hr ?hp (fun _ hk => hk) trivial (Below.refl _ _) (Nat.le_refl _) (by simp) ?_; (case hd => rfl); (case hg => rfl); (case hr => first | (go_simp; done) | (go_simp; rfl)); (case hp => exact (Reps.one (show Kd.M (Kd.int .i64) _ _ _ 1 [.int .i64 1] from rfl) (Reps.none _ _))); intro v236 w102 ho103 hb hg_ hnew_; clear hg_ hnew_; (first | rw [← Ny235.out] at ho103 | (simp only [Int.reduceToNat] at ho103; rw [← Ny235.out] at ho103)); have n0_ := Aside0.mk (Kd.R_lower ho103 (below_size Mark.h)); have n1_ := Aside0.mk (blk_below (g := gb222) (o := .cells #[.string (⟨#[]⟩ : ByteArray), .string (⟨#[]⟩ : ByteArray)] 31 (0, 0)) (Mark.b BK222) hb); have n2_ := Aside0.mk (blk_below (g := gb225) (o := .cells #[.string x226000_21, .string t224] 31 (0, 0)) (Mark.b BK225) hb); have n3_ := Aside0.mk (below_step Mark.h hb); clear BK222; clear BK225; clear HB; have HO237 := n0_; have BK222 := n1_; have BK225 := n2_; have HB := n3_; clear n0_ n1_ n2_ n3_; clear hb ho103; obtain ⟨Ao104, co104, eo104⟩ := Kd.R_slice HO237.out; subst eo104) | (go_at_call 39; (with_reducible refine (parallaxref1_All.calls kj21 x226000_21 _ _ y235 true _ ?side1 ?side2 A76.out).mono ?_); (case side1 => repeat (first | exact (Kd.R_reads' HO237.out).2.2 | (with_reducible refine Kd.C_alloc ?_ _) | (with_reducible refine Kd.C_drewN ?_ _) | (with_reducible refine Kd.C_drew ?_))); (case side2 => exact (Kd.R_reads' HO237.out).2.1); rintro e w' ⟨rfl, ⟨nd, rfl⟩⟩; (try (rw [drewN_self w102]; generalize hq_ : World.drewN w102 _ = w102; have n0_ : Aside0 (Kd.R (Kd.int .i64) 3 w102 w.heap.size (fun _ => True) (.slice Ao104 y235.length co104) y235) := ⟨by rw [← hq_]; exact (Mark.r HO237)⟩; have n1_ : Aside0 (w102.heap[gb222]? = some (.cells #[.string (⟨#[]⟩ : ByteArray), .string (⟨#[]⟩ : ByteArray)] 31 (0, 0))) := ⟨by rw [← hq_]; exact (Mark.b BK222)⟩; have n2_ : Aside0 (w102.heap[gb225]? = some (.cells #[.string x226000_21, .string t224] 31 (0, 0))) := ⟨by rw [← hq_]; exact (Mark.b BK225)⟩; have n3_ : Aside0 (Below w.heap.size w w102) := ⟨by rw [← hq_]; exact Mark.h⟩; clear HO237 BK222 BK225 HB hq_; have HO237 := n0_; have BK222 := n1_; have BK225 := n2_; have HB := n3_; clear n0_ n1_ n2_ n3_)); have hcz_22_gb222_0 : w102.cell? ⟨gb222, 0, none⟩ = some (.string (⟨#[]⟩ : ByteArray)) := (blk_cell BK222.out 0).trans rfl; have hfz_22_gb222_0 := blk_frozen BK222.out 0; have hcz_22_gb222_1 : w102.cell? ⟨gb222, 1, none⟩ = some (.string (⟨#[]⟩ : ByteArray)) := (blk_cell BK222.out 1).trans rfl; have hfz_22_gb222_1 := blk_frozen BK222.out 1; have hcz_22_gb225_0 : w102.cell? ⟨gb225, 0, none⟩ = some (.string x226000_21) := (blk_cell BK225.out 0).trans rfl; have hfz_22_gb225_0 := blk_frozen BK225.out 0; have hcz_22_gb225_1 : w102.cell? ⟨gb225, 1, none⟩ = some (.string t224) := (blk_cell BK225.out 1).trans rfl; have hfz_22_gb225_1 := blk_frozen BK225.out 1) | (go_at_call 36; (with_reducible refine (parallaxref4_Has.calls a1 14 false _ A78.out).mono ?_); rintro e w' ⟨rfl, ⟨nd, rfl⟩⟩; (try (rw [drewN_self w102]; generalize hq_ : World.drewN w102 _ = w102; have n0_ : Aside0 (Kd.R (Kd.int .i64) 3 w102 w.heap.size (fun _ => True) (.slice Ao104 y235.length co104) y235) := ⟨by rw [← hq_]; exact (Mark.r HO237)⟩; have n1_ : Aside0 (w102.heap[gb222]? = some (.cells #[.string (⟨#[]⟩ : ByteArray), .string (⟨#[]⟩ : ByteArray)] 31 (0, 0))) := ⟨by rw [← hq_]; exact (Mark.b BK222)⟩; have n2_ : Aside0 (w102.heap[gb225]? = some (.cells #[.string x226000_21, .string t224] 31 (0, 0))) := ⟨by rw [← hq_]; exact (Mark.b BK225)⟩; have n3_ : Aside0 (Below w.heap.size w w102) := ⟨by rw [← hq_]; exact Mark.h⟩; clear HO237 BK222 BK225 HB hq_; have HO237 := n0_; have BK222 := n1_; have BK225 := n2_; have HB := n3_; clear n0_ n1_ n2_ n3_)); have hcz_23_gb222_0 : w102.cell? ⟨gb222, 0, none⟩ = some (.string (⟨#[]⟩ : ByteArray)) := (blk_cell BK222.out 0).trans rfl; have hfz_23_gb222_0 := blk_frozen BK222.out 0; have hcz_23_gb222_1 : w102.cell? ⟨gb222, 1, none⟩ = some (.string (⟨#[]⟩ : ByteArray)) := (blk_cell BK222.out 1).trans rfl; have hfz_23_gb222_1 := blk_frozen BK222.out 1; have hcz105_0 : w102.cell? ⟨gb225, 0, none⟩ = some (.string x226000_21) := (blk_cell BK225.out 0).trans rfl; have hcz105_1 : w102.cell? ⟨gb225, 1, none⟩ = some (.string t224) := (blk_cell BK225.out 1).trans rfl; have hfz105_0 := blk_frozen BK225.out 0; have hfz105_1 := blk_frozen BK225.out 1) | ((with_reducible refine gate_dst (N := 89) rfl ?_); (try (refine gate_guard (by rfl) ?_; dsimp only)); refine Kd.R_lit (Kd.int .i64) _ 3 ?hg (N := 89) ?hd (xs := ([6] : List Int)) (inner := [.int .i64 6]) (ok := fun _ => True) (okp := fun _ => True) ?hr ?hp (fun _ hk => hk) trivial (Below.refl _ _) (Nat.le_refl _) (by simp) ?_; (case hd => rfl); (case hg => rfl); (case hr => first | (go_simp; done) | (go_simp; rfl)); (case hp => exact (Reps.one (show Kd.M (Kd.int .i64) _ _ _ 6 [.int .i64 6] from rfl) (Reps.none _ _))); intro v241 w106 ho107 hb hg_ hnew_; clear hg_ hnew_; (first | rw [← Ny240.out] at ho107 | (simp only [Int.reduceToNat] at ho107; rw [← Ny240.out] at ho107)); have n0_ := Aside0.mk (Kd.R_elder' (Mark.r HO237) (Kd.R_base ho107) hb); have n1_ := Aside0.mk (Kd.R_lower (Kd.R_new' ho107 (Kd.R_lt (Mark.r HO237))) (below_size Mark.h)); have n2_ := Aside0.mk (blk_below (g := gb222) (o := .cells #[.string (⟨#[]⟩ : ByteArray), .string (⟨#[]⟩ : ByteArray)] 31 (0, 0)) (Mark.b BK222) hb); have n3_ := Aside0.mk (blk_below (g := gb225) (o := .cells #[.string x226000_21, .string t224] 31 (0, 0)) (Mark.b BK225) hb); have n4_ := Aside0.mk (below_step Mark.h hb); clear HO237; clear BK222; clear BK225; clear HB; have HO237 := n0_; have HO242 := n1_; have BK222 := n2_; have BK225 := n3_; have HB := n4_; clear n0_ n1_ n2_ n3_ n4_; clear hb ho107; obtain ⟨Ao108, co108, eo108⟩ := Kd.R_slice HO242.out; subst eo108) | (go_at_call 39; (with_reducible refine (parallaxref1_All.calls kj21 t224 _ _ y240 false _ ?side1 ?side2 A87.out).mono ?_); (case side1 => repeat (first | exact (Kd.R_reads' HO242.out).2.2 | (with_reducible refine Kd.C_alloc ?_ _) | (with_reducible refine Kd.C_drewN ?_ _) | (with_reducible refine Kd.C_drew ?_))); (case side2 => exact (Kd.R_reads' HO242.out).2.1); rintro e w' ⟨rfl, ⟨nd, rfl⟩⟩; (try (rw [drewN_self w106]; generalize hq_ : World.drewN w106 _ = w106; have n0_ : Aside0 (Kd.R (Kd.int .i64) 3 w106 w.heap.size (fun k_ => some k_ ≠ (.slice Ao108 y240.length co108 : Value).ownBlock) (.slice Ao104 y235.length co104) y235) := ⟨by rw [← hq_]; exact (by (with_reducible repeat (first | apply Kd.R_alloc | apply Kd.R_drewN | apply Kd.R_drew)); exact Kd.R_mono HO237.out Mark.K)⟩; have n1_ : Aside0 (Kd.R (Kd.int .i64) 3 w106 w.heap.size (fun k_ => some k_ ≠ (.slice Ao104 y235.length co104 : Value).ownBlock) (.slice Ao108 y240.length co108) y240) := ⟨by rw [← hq_]; exact (by (with_reducible repeat (first | apply Kd.R_alloc | apply Kd.R_drewN | apply Kd.R_drew)); exact Kd.R_mono HO242.out Mark.K)⟩; have n2_ : Aside0 (w106.heap[gb222]? = some (.cells #[.string (⟨#[]⟩ : ByteArray), .string (⟨#[]⟩ : ByteArray)] 31 (0, 0))) := ⟨by rw [← hq_]; exact (Mark.b BK222)⟩; have n3_ : Aside0 (w106.heap[gb225]? = some (.cells #[.string x226000_21, .string t224] 31 (0, 0))) := ⟨by rw [← hq_]; exact (Mark.b BK225)⟩; have n4_ : Aside0 (Below w.heap.size w w106) := ⟨by rw [← hq_]; exact Mark.h⟩; clear HO237 HO242 BK222 BK225 HB hq_; have HO237 := n0_; have HO242 := n1_; have BK222 := n2_; have BK225 := n3_; have HB := n4_; clear n0_ n1_ n2_ n3_ n4_)); have hcz_24_gb225_0 : w106.cell? ⟨gb225, 0, none⟩ = some (.string x226000_21) := (blk_cell BK225.out 0).trans rfl; have hfz_24_gb225_0 := blk_frozen BK225.out 0; have hcz_24_gb225_1 : w106.cell? ⟨gb225, 1, none⟩ = some (.string t224) := (blk_cell BK225.out 1).trans rfl; have hfz_24_gb225_1 := blk_frozen BK225.out 1; have hcz109_0 : w106.cell? ⟨gb222, 0, none⟩ = some (.string (⟨#[]⟩ : ByteArray)) := (blk_cell BK222.out 0).trans rfl; have hcz109_1 : w106.cell? ⟨gb222, 1, none⟩ = some (.string (⟨#[]⟩ : ByteArray)) := (blk_cell BK222.out 1).trans rfl; have hfz109_0 := blk_frozen BK222.out 0; have hfz109_1 := blk_frozen BK222.out 1))
                  refine bodyPost_ret (results_ctt rfl _ _ gb222 31 #[.string (⟨#[]⟩ : ByteArray), .string (⟨#[]⟩ : ByteArray)] (0, 0) _ rfl (by (with_reducible repeat (first | refine blk_drewN ?_ _ | refine blk_drew ?_ | refine blk_alloc ?_ _)); refine blk_put (cs := #[.string (⟨#[]⟩ : ByteArray), .string (⟨#[]⟩ : ByteArray)]) ?_ 1 _ rfl; (with_reducible repeat (first | refine blk_drewN ?_ _ | refine blk_drew ?_ | refine blk_alloc ?_ _)); refine blk_put (cs := #[.string (⟨#[]⟩ : ByteArray), .string (⟨#[]⟩ : ByteArray)]) ?_ 0 _ rfl; (with_reducible repeat (first | refine blk_drewN ?_ _ | refine blk_drew ?_ | refine blk_alloc ?_ _)); exact BK222.out) Tryd.underlying31 rfl (by kernel_rfl)) rfl ?_
                  exact ⟨by first | rfl | (simp [errW_none, errW_some] <;> rfl) | (simp only [← hji18]; first | rfl | (simp [errW_none, errW_some] <;> rfl)) | (simp [*, errW_none, errW_some] <;> rfl), Mark.h⟩
               ·replace c77 := Bool.eq_false_iff.mpr c77
                subst c77
                have H1 : (some ((⟨#[]⟩ : ByteArray), (⟨#[]⟩ : ByteArray), false, 400)) = some (r1, r2, r3, r4) := by rw [if_neg (show ¬ (false = true) by decide)] at H; exact H
                clear H
                have H := H1
                clear H1
                simp only [Option.some.injEq, Prod.mk.injEq] at H
                obtain ⟨rfl, rfl, rfl, rfl⟩ := H
                have hnb110 := NB225_222.out
                have hnc110 := NB222_225.out
                have hcz111_0 : wc.cell? ⟨gb225, 0, none⟩ = some (.string x226000_21) := (blk_cell BK225.out 0).trans rfl
                have hcz111_1 : wc.cell? ⟨gb225, 1, none⟩ = some (.string t224) := (blk_cell BK225.out 1).trans rfl
                have hfz111_0 := blk_frozen BK225.out 0
                have hfz111_1 := blk_frozen BK225.out 1
                go_wp2_with (first | ((with_reducible refine gate_callee (f := 36) rfl ?_); refine goesL_ (some 73) rfl rfl Tryd.func36 (by kernel_rfl) rfl #[.int .u32 a1, .int .i64 10] rfl (by (try simp only [List.map_toArray, List.map_cons, List.map_nil]); first | done | rfl | (simp only [List.length_drop, List.length_take]; rfl)) ?_; (with_reducible refine (parallaxref4_Has.calls a1 10 false _ A54.out).mono ?_); rintro e w' ⟨rfl, ⟨nd, rfl⟩⟩; refine ⟨_, rfl, ?_⟩; (try (rw [drewN_self wc]; generalize hq_ : World.drewN wc _ = wc; have n0_ : Aside0 (wc.heap[gb222]? = some (.cells #[.string (⟨#[]⟩ : ByteArray), .string (⟨#[]⟩ : ByteArray)] 31 (0, 0))) := ⟨by rw [← hq_]; exact (Mark.b BK222)⟩; have n1_ : Aside0 (wc.heap[gb225]? = some (.cells #[.string x226000_21, .string t224] 31 (0, 0))) := ⟨by rw [← hq_]; exact (Mark.b BK225)⟩; have n2_ : Aside0 (Below w.heap.size w wc) := ⟨by rw [← hq_]; exact Mark.h⟩; clear BK222 BK225 HB hq_; have BK222 := n0_; have BK225 := n1_; have HB := n2_; clear n0_ n1_ n2_)); have hcz_25_gb222_0 : wc.cell? ⟨gb222, 0, none⟩ = some (.string (⟨#[]⟩ : ByteArray)) := (blk_cell BK222.out 0).trans rfl; have hfz_25_gb222_0 := blk_frozen BK222.out 0; have hcz_25_gb222_1 : wc.cell? ⟨gb222, 1, none⟩ = some (.string (⟨#[]⟩ : ByteArray)) := (blk_cell BK222.out 1).trans rfl; have hfz_25_gb222_1 := blk_frozen BK222.out 1; have hcz_25_gb225_0 : wc.cell? ⟨gb225, 0, none⟩ = some (.string x226000_21) := (blk_cell BK225.out 0).trans rfl; have hfz_25_gb225_0 := blk_frozen BK225.out 0; have hcz_25_gb225_1 : wc.cell? ⟨gb225, 1, none⟩ = some (.string t224) := (blk_cell BK225.out 1).trans rfl; have hfz_25_gb225_1 := blk_frozen BK225.out 1) | ((with_reducible refine gate_dst (N := 78) rfl ?_); (try (refine gate_guard (by rfl) ?_; dsimp only)); refine Kd.R_lit (Kd.int .i64) _ 3 ?hg (N := 78) ?hd (xs := ([1] : List Int)) (inner := [.int .i64 1]) (ok := fun _ => True) (okp := fun _ => True) ?hr ?hp (fun _ hk => hk) trivial (Below.refl _ _) (Nat.le_refl _) (by simp) ?_; (case hd => rfl); (case hg => rfl); (case hr => first | (go_simp; done) | (go_simp; rfl)); (case hp => exact (Reps.one (show Kd.M (Kd.int .i64) _ _ _ 1 [.int .i64 1] from rfl) (Reps.none _ _))); intro v236 w112 ho113 hb hg_ hnew_; clear hg_ hnew_; (first | rw [← Ny235.out] at ho113 | (simp only [Int.reduceToNat] at ho113; rw [← Ny235.out] at ho113)); have n0_ := Aside0.mk (Kd.R_lower ho113 (below_size Mark.h)); have n1_ := Aside0.mk (blk_below (g := gb222) (o := .cells #[.string (⟨#[]⟩ : ByteArray), .string (⟨#[]⟩ : ByteArray)] 31 (0, 0)) (Mark.b BK222) hb); have n2_ := Aside0.mk (blk_below (g := gb225) (o := .cells #[.string x226000_21, .string t224] 31 (0, 0)) (Mark.b BK225) hb); have n3_ := Aside0.mk (below_step Mark.h hb); clear BK222; clear BK225; clear HB; have HO237 := n0_; have BK222 := n1_; have BK225 := n2_; have HB := n3_; clear n0_ n1_ n2_ n3_; clear hb ho113; obtain ⟨Ao114, co114, eo114⟩ := Kd.R_slice HO237.out; subst eo114) | (go_at_call 39; (with_reducible refine (parallaxref1_All.calls kj21 x226000_21 _ _ y235 false _ ?side1 ?side2 A76.out).mono ?_); (case side1 => repeat (first | exact (Kd.R_reads' HO237.out).2.2 | (with_reducible refine Kd.C_alloc ?_ _) | (with_reducible refine Kd.C_drewN ?_ _) | (with_reducible refine Kd.C_drew ?_))); (case side2 => exact (Kd.R_reads' HO237.out).2.1); rintro e w' ⟨rfl, ⟨nd, rfl⟩⟩; (try (rw [drewN_self w112]; generalize hq_ : World.drewN w112 _ = w112; have n0_ : Aside0 (Kd.R (Kd.int .i64) 3 w112 w.heap.size (fun _ => True) (.slice Ao114 y235.length co114) y235) := ⟨by rw [← hq_]; exact (Mark.r HO237)⟩; have n1_ : Aside0 (w112.heap[gb222]? = some (.cells #[.string (⟨#[]⟩ : ByteArray), .string (⟨#[]⟩ : ByteArray)] 31 (0, 0))) := ⟨by rw [← hq_]; exact (Mark.b BK222)⟩; have n2_ : Aside0 (w112.heap[gb225]? = some (.cells #[.string x226000_21, .string t224] 31 (0, 0))) := ⟨by rw [← hq_]; exact (Mark.b BK225)⟩; have n3_ : Aside0 (Below w.heap.size w w112) := ⟨by rw [← hq_]; exact Mark.h⟩; clear HO237 BK222 BK225 HB hq_; have HO237 := n0_; have BK222 := n1_; have BK225 := n2_; have HB := n3_; clear n0_ n1_ n2_ n3_)); have hcz_26_gb225_0 : w112.cell? ⟨gb225, 0, none⟩ = some (.string x226000_21) := (blk_cell BK225.out 0).trans rfl; have hfz_26_gb225_0 := blk_frozen BK225.out 0; have hcz_26_gb225_1 : w112.cell? ⟨gb225, 1, none⟩ = some (.string t224) := (blk_cell BK225.out 1).trans rfl; have hfz_26_gb225_1 := blk_frozen BK225.out 1; have hcz115_0 : w112.cell? ⟨gb222, 0, none⟩ = some (.string (⟨#[]⟩ : ByteArray)) := (blk_cell BK222.out 0).trans rfl; have hcz115_1 : w112.cell? ⟨gb222, 1, none⟩ = some (.string (⟨#[]⟩ : ByteArray)) := (blk_cell BK222.out 1).trans rfl; have hfz115_0 := blk_frozen BK222.out 0; have hfz115_1 := blk_frozen BK222.out 1))
                refine bodyPost_ret (results_ctt rfl _ _ gb222 31 #[.string (⟨#[]⟩ : ByteArray), .string (⟨#[]⟩ : ByteArray)] (0, 0) _ rfl (by (with_reducible repeat (first | refine blk_drewN ?_ _ | refine blk_drew ?_ | refine blk_alloc ?_ _)); refine blk_put (cs := #[.string (⟨#[]⟩ : ByteArray), .string (⟨#[]⟩ : ByteArray)]) ?_ 1 _ rfl; (with_reducible repeat (first | refine blk_drewN ?_ _ | refine blk_drew ?_ | refine blk_alloc ?_ _)); refine blk_put (cs := #[.string (⟨#[]⟩ : ByteArray), .string (⟨#[]⟩ : ByteArray)]) ?_ 0 _ rfl; (with_reducible repeat (first | refine blk_drewN ?_ _ | refine blk_drew ?_ | refine blk_alloc ?_ _)); exact BK222.out) Tryd.underlying31 rfl (by kernel_rfl)) rfl ?_
                exact ⟨by first | rfl | (simp [errW_none, errW_some] <;> rfl) | (simp only [← hji18]; first | rfl | (simp [errW_none, errW_some] <;> rfl)) | (simp [*, errW_none, errW_some] <;> rfl), Mark.h⟩
          ·rw [if_neg c20] at H
           exact absurd H (by simp)
         ·rw [if_neg c19] at H
          exact absurd H (by simp)
        ·rw [if_neg c17] at H
         exact absurd H (by simp)
       ·rw [if_neg c16] at H
        exact absurd H (by simp)

end Go.Proofs.YtomofacchnmepaaDoor.PRecordCopies
