-- Written by a program of this session (wip/tools/myprint.sh)
import Derived.Test.YtnnehbbfokoklaaPTargetFormsx0
import Derived.Test.YtnnehbbfokoklaaPTargetFormsx1
import Derived.Test.YtnnehbbfokoklaaPTargetFormsx4
import Derived.Test.YtnnehbbfokoklaaPTargetFormsx5
import Derived.Test.YtnnehbbfokoklaaPTargetFormsx6
namespace Go.Proofs.Ytnnehbbfokoklaa.PTargetForms
open Go.RowKit Go.Proofs.YtnnehbbfokoklaaW.PrintWords Go.Proofs.YtnnehbbfokoklaaW.PrintLast Go.Proofs.YtnnehbbfokoklaaW.PrintMore
attribute [local go_sem] max2_int min2_int max_two min_two max_three min_three max_four min_four   -- for this text's walks alone
set_option linter.unusedVariables false
set_option linter.unusedSimpArgs false

attribute [local go_sem high] eqA27
/-! ### parallaxlaw7_TargetForms: function 6 -/
mutual
def parallaxlaw7_TargetForms.j0 : Nat → List Int → ByteArray → Bool → Int → Bool → Option (Bool)
 | 0, _, _, _, _, _ => none
 | k + 1, x0, x1, x2, x3, x35 => if x35 = true then (some true) else (parallaxlaw7_TargetForms.l0 k x0 x1 x2 x3 (⟨#[47]⟩ : ByteArray) 0)
def parallaxlaw7_TargetForms.l0 : Nat → List Int → ByteArray → Bool → Int → ByteArray → Int → Option (Bool)
 | 0, _, _, _, _, _, _ => none
 | k + 1, x0, x1, x2, x3, x9, x10 => if x10 < (x0.length : Int) then ((some (([(⟨#[97]⟩ : ByteArray), (⟨#[98, 47]⟩ : ByteArray), (⟨#[37, 52, 49]⟩ : ByteArray), (⟨#[46]⟩ : ByteArray), (⟨#[120, 61, 49]⟩ : ByteArray), (⟨#[58]⟩ : ByteArray)] : List ByteArray) : List ByteArray)).bind fun y210 => (if 0 ≤ x10 then (if 0 ≤ (Int.tmod (rd x0 x10) 6) then (if (Int.tmod (rd x0 x10) 6) < (y210.length : Int) then (if x9.size + (rdOf ByteArray.empty y210 (Int.tmod (rd x0 x10) 6)).size ≤ 9223372036854775807 then (parallaxlaw7_TargetForms.l0 k x0 x1 x2 x3 (x9 ++ (rdOf ByteArray.empty y210 (Int.tmod (rd x0 x10) 6))) (wrap64 (x10 + 1))) else (none)) else (none)) else (none)) else (none))) else ((target_Query.f k x1).bind fun t215 => (if t215 = true then (parallaxlaw7_TargetForms.j2 k x1 x2 x3 x9) else (parallaxlaw7_TargetForms.j2 k (⟨#[113]⟩ : ByteArray) x2 x3 x9)))
def parallaxlaw7_TargetForms.j2 : Nat → ByteArray → Bool → Int → ByteArray → Option (Bool)
 | 0, _, _, _, _ => none
 | k + 1, x1, x2, x3, x9 => (some (([(⟨#[71, 69, 84]⟩ : ByteArray), (⟨#[80, 79, 83, 84]⟩ : ByteArray), (⟨#[79, 80, 84, 73, 79, 78, 83]⟩ : ByteArray), (⟨#[72, 69, 65, 68]⟩ : ByteArray)] : List ByteArray) : List ByteArray)).bind fun y216 => (if 0 ≤ (Int.tmod x3 4) then (if (Int.tmod x3 4) < (y216.length : Int) then (if x2 = true then (parallaxlaw7_TargetForms.j3 k (rdOf ByteArray.empty y216 (Int.tmod x3 4)) 1 (⟨#[]⟩ : ByteArray) x9 x1 true) else (parallaxlaw7_TargetForms.j3 k (rdOf ByteArray.empty y216 (Int.tmod x3 4)) 1 (⟨#[]⟩ : ByteArray) x9 (⟨#[]⟩ : ByteArray) false)) else (none)) else (none))
def parallaxlaw7_TargetForms.j3 : Nat → ByteArray → Int → ByteArray → ByteArray → ByteArray → Bool → Option (Bool)
 | 0, _, _, _, _, _, _ => none
 | k + 1, x11, x221000, x221001, x221002, x221003, x221004 => (target_Put.f k x221000 x221001 x221002 x221003 x221004).bind fun t222 => ((target_Parse.f k x11 t222).bind fun bt223 => ((target_Put.f k 2 (⟨#[104, 46, 111, 114, 103, 58, 56]⟩ : ByteArray) x221002 x221003 x221004).bind fun t230 => ((target_Parse.f k x11 t230).bind fun bt231 => ((target_Parse.f k (⟨#[67, 79, 78, 78, 69, 67, 84]⟩ : ByteArray) (⟨#[104, 46, 111, 114, 103, 58, 56]⟩ : ByteArray)).bind fun bt238 => ((target_Put.f k x221000 x221001 x221002 x221003 x221004).bind fun t245 => ((target_Parse.f k (⟨#[67, 79, 78, 78, 69, 67, 84]⟩ : ByteArray) t245).bind fun bt246 => ((target_Parse.f k x11 (⟨#[104, 46, 111, 114, 103, 58, 56]⟩ : ByteArray)).bind fun bt253 => ((target_Parse.f k x11 (⟨#[42]⟩ : ByteArray)).bind fun bt260 => (if bt223.2.2.2.2.2 = 0 then (if (bt223.1 == x221000 && (bt223.2.1.toList == x221001.toList && (bt223.2.2.1.toList == x221002.toList && (bt223.2.2.2.1.toList == x221003.toList && (bt223.2.2.2.2.1 == x221004))))) = true then (if bt231.2.2.2.2.2 = 0 then (if (bt231.1 == 2 && (bt231.2.1.toList == ([104, 46, 111, 114, 103, 58, 56] : List UInt8) && (bt231.2.2.1.toList == x221002.toList && (bt231.2.2.2.1.toList == x221003.toList && (bt231.2.2.2.2.1 == x221004))))) = true then (if bt238.2.2.2.2.2 = 0 then (if (bt238.1 == 3 && (bt238.2.1.toList == ([104, 46, 111, 114, 103, 58, 56] : List UInt8) && (bt238.2.2.1.toList == ([] : List UInt8) && (bt238.2.2.2.1.toList == ([] : List UInt8) && (!bt238.2.2.2.2.1))))) = true then (if bt246.2.2.2.2.2 = 400 then (if bt253.2.2.2.2.2 = 400 then (if ((bt260.2.2.2.2.2 == 0) == (x11.toList == ([79, 80, 84, 73, 79, 78, 83] : List UInt8))) = true then (if bt260.2.2.2.2.2 = 0 then (parallaxlaw7_TargetForms.j4 k (bt260.1 == 4)) else (parallaxlaw7_TargetForms.j4 k true)) else (parallaxlaw7_TargetForms.j4 k false)) else (parallaxlaw7_TargetForms.j4 k false)) else (parallaxlaw7_TargetForms.j4 k false)) else (parallaxlaw7_TargetForms.j4 k false)) else (parallaxlaw7_TargetForms.j4 k false)) else (parallaxlaw7_TargetForms.j4 k false)) else (parallaxlaw7_TargetForms.j4 k false)) else (parallaxlaw7_TargetForms.j4 k false)) else (parallaxlaw7_TargetForms.j4 k false))))))))))
def parallaxlaw7_TargetForms.j4 : Nat → Bool → Option (Bool)
 | 0, _ => none
 | k + 1, x8 => some x8
end
def parallaxlaw7_TargetForms.f (k : Nat) (l0 : List Int) (a1 : ByteArray) (a2 : Bool) (a3 : Int) : Option (Bool) := (parallaxlaw7_known.f k).bind fun t209 => (if t209 = true then (if (l0.length : Int) > 8 then (parallaxlaw7_TargetForms.j0 k l0 a1 a2 a3 true) else (parallaxlaw7_TargetForms.j0 k l0 a1 a2 a3 (decide ((a1.size : Int) > 30)))) else (some false))
theorem parallaxlaw7_TargetForms.j4_no {k : Nat} {r : Bool} (h : parallaxlaw7_TargetForms.j4 k false = some r) (hr : r = true) : False := by
  subst hr
  cases k with
  | zero => simp [parallaxlaw7_TargetForms.j4] at h
  | succ k => simp [parallaxlaw7_TargetForms.j4] at h
theorem parallaxlaw7_TargetForms.mono_l : ∀ k, (∀ y0 y1 y2 y3 y4, LeO (parallaxlaw7_TargetForms.j0 k y0 y1 y2 y3 y4) (parallaxlaw7_TargetForms.j0 (k + 1) y0 y1 y2 y3 y4)) ∧ (∀ y0 y1 y2 y3 y4 y5, LeO (parallaxlaw7_TargetForms.l0 k y0 y1 y2 y3 y4 y5) (parallaxlaw7_TargetForms.l0 (k + 1) y0 y1 y2 y3 y4 y5)) ∧ (∀ y0 y1 y2 y3, LeO (parallaxlaw7_TargetForms.j2 k y0 y1 y2 y3) (parallaxlaw7_TargetForms.j2 (k + 1) y0 y1 y2 y3)) ∧ (∀ y0 y1 y2 y3 y4 y5, LeO (parallaxlaw7_TargetForms.j3 k y0 y1 y2 y3 y4 y5) (parallaxlaw7_TargetForms.j3 (k + 1) y0 y1 y2 y3 y4 y5)) ∧ (∀ y0, LeO (parallaxlaw7_TargetForms.j4 k y0) (parallaxlaw7_TargetForms.j4 (k + 1) y0))
 | 0 => ⟨fun _ _ _ _ _ r h => by simp [parallaxlaw7_TargetForms.j0] at h, fun _ _ _ _ _ _ r h => by simp [parallaxlaw7_TargetForms.l0] at h, fun _ _ _ _ r h => by simp [parallaxlaw7_TargetForms.j2] at h, fun _ _ _ _ _ _ r h => by simp [parallaxlaw7_TargetForms.j3] at h, fun _ r h => by simp [parallaxlaw7_TargetForms.j4] at h⟩
 | k + 1 => by
  obtain ⟨ih0, ih1, ih2, ih3, ih4⟩ := parallaxlaw7_TargetForms.mono_l k
  refine ⟨?_, ?_, ?_, ?_, ?_⟩
  ·intro y0 y1 y2 y3 y4
   unfold parallaxlaw7_TargetForms.j0
   repeat' first
   | (with_reducible exact ih0 _ _ _ _ _)
   | (with_reducible exact ih1 _ _ _ _ _ _)
   | (with_reducible exact ih2 _ _ _ _)
   | (with_reducible exact ih3 _ _ _ _ _ _)
   | (with_reducible exact ih4 _)
   | (with_reducible exact parallaxlaw7_known.mono _)
   | (with_reducible exact target_Parse.mono _ _ _)
   | (with_reducible exact target_Put.mono _ _ _ _ _ _)
   | (with_reducible exact target_Query.mono _ _)
   | (with_reducible exact LeO.refl _)
   | (with_reducible exact LeO.none _)
   | (with_reducible refine LeO.ite ?_ ?_)
   | (with_reducible refine LeO.bind ?_ (fun _ => ?_))
   | exact ih0 _ _ _ _ _
   | exact ih1 _ _ _ _ _ _
   | exact ih2 _ _ _ _
   | exact ih3 _ _ _ _ _ _
   | exact ih4 _
   | exact parallaxlaw7_known.mono _
   | exact target_Parse.mono _ _ _
   | exact target_Put.mono _ _ _ _ _ _
   | exact target_Query.mono _ _
   | exact LeO.none _
   | refine LeO.ite ?_ ?_
   | refine LeO.bind ?_ (fun _ => ?_)
  ·intro y0 y1 y2 y3 y4 y5
   unfold parallaxlaw7_TargetForms.l0
   repeat' first
   | (with_reducible exact ih0 _ _ _ _ _)
   | (with_reducible exact ih1 _ _ _ _ _ _)
   | (with_reducible exact ih2 _ _ _ _)
   | (with_reducible exact ih3 _ _ _ _ _ _)
   | (with_reducible exact ih4 _)
   | (with_reducible exact parallaxlaw7_known.mono _)
   | (with_reducible exact target_Parse.mono _ _ _)
   | (with_reducible exact target_Put.mono _ _ _ _ _ _)
   | (with_reducible exact target_Query.mono _ _)
   | (with_reducible exact LeO.refl _)
   | (with_reducible exact LeO.none _)
   | (with_reducible refine LeO.ite ?_ ?_)
   | (with_reducible refine LeO.bind ?_ (fun _ => ?_))
   | exact ih0 _ _ _ _ _
   | exact ih1 _ _ _ _ _ _
   | exact ih2 _ _ _ _
   | exact ih3 _ _ _ _ _ _
   | exact ih4 _
   | exact parallaxlaw7_known.mono _
   | exact target_Parse.mono _ _ _
   | exact target_Put.mono _ _ _ _ _ _
   | exact target_Query.mono _ _
   | exact LeO.none _
   | refine LeO.ite ?_ ?_
   | refine LeO.bind ?_ (fun _ => ?_)
  ·intro y0 y1 y2 y3
   unfold parallaxlaw7_TargetForms.j2
   repeat' first
   | (with_reducible exact ih0 _ _ _ _ _)
   | (with_reducible exact ih1 _ _ _ _ _ _)
   | (with_reducible exact ih2 _ _ _ _)
   | (with_reducible exact ih3 _ _ _ _ _ _)
   | (with_reducible exact ih4 _)
   | (with_reducible exact parallaxlaw7_known.mono _)
   | (with_reducible exact target_Parse.mono _ _ _)
   | (with_reducible exact target_Put.mono _ _ _ _ _ _)
   | (with_reducible exact target_Query.mono _ _)
   | (with_reducible exact LeO.refl _)
   | (with_reducible exact LeO.none _)
   | (with_reducible refine LeO.ite ?_ ?_)
   | (with_reducible refine LeO.bind ?_ (fun _ => ?_))
   | exact ih0 _ _ _ _ _
   | exact ih1 _ _ _ _ _ _
   | exact ih2 _ _ _ _
   | exact ih3 _ _ _ _ _ _
   | exact ih4 _
   | exact parallaxlaw7_known.mono _
   | exact target_Parse.mono _ _ _
   | exact target_Put.mono _ _ _ _ _ _
   | exact target_Query.mono _ _
   | exact LeO.none _
   | refine LeO.ite ?_ ?_
   | refine LeO.bind ?_ (fun _ => ?_)
  ·intro y0 y1 y2 y3 y4 y5
   unfold parallaxlaw7_TargetForms.j3
   repeat' first
   | (with_reducible exact ih0 _ _ _ _ _)
   | (with_reducible exact ih1 _ _ _ _ _ _)
   | (with_reducible exact ih2 _ _ _ _)
   | (with_reducible exact ih3 _ _ _ _ _ _)
   | (with_reducible exact ih4 _)
   | (with_reducible exact parallaxlaw7_known.mono _)
   | (with_reducible exact target_Parse.mono _ _ _)
   | (with_reducible exact target_Put.mono _ _ _ _ _ _)
   | (with_reducible exact target_Query.mono _ _)
   | (with_reducible exact LeO.refl _)
   | (with_reducible exact LeO.none _)
   | (with_reducible refine LeO.ite ?_ ?_)
   | (with_reducible refine LeO.bind ?_ (fun _ => ?_))
   | exact ih0 _ _ _ _ _
   | exact ih1 _ _ _ _ _ _
   | exact ih2 _ _ _ _
   | exact ih3 _ _ _ _ _ _
   | exact ih4 _
   | exact parallaxlaw7_known.mono _
   | exact target_Parse.mono _ _ _
   | exact target_Put.mono _ _ _ _ _ _
   | exact target_Query.mono _ _
   | exact LeO.none _
   | refine LeO.ite ?_ ?_
   | refine LeO.bind ?_ (fun _ => ?_)
  ·intro y0
   unfold parallaxlaw7_TargetForms.j4
   repeat' first
   | (with_reducible exact ih0 _ _ _ _ _)
   | (with_reducible exact ih1 _ _ _ _ _ _)
   | (with_reducible exact ih2 _ _ _ _)
   | (with_reducible exact ih3 _ _ _ _ _ _)
   | (with_reducible exact ih4 _)
   | (with_reducible exact parallaxlaw7_known.mono _)
   | (with_reducible exact target_Parse.mono _ _ _)
   | (with_reducible exact target_Put.mono _ _ _ _ _ _)
   | (with_reducible exact target_Query.mono _ _)
   | (with_reducible exact LeO.refl _)
   | (with_reducible exact LeO.none _)
   | (with_reducible refine LeO.ite ?_ ?_)
   | (with_reducible refine LeO.bind ?_ (fun _ => ?_))
   | exact ih0 _ _ _ _ _
   | exact ih1 _ _ _ _ _ _
   | exact ih2 _ _ _ _
   | exact ih3 _ _ _ _ _ _
   | exact ih4 _
   | exact parallaxlaw7_known.mono _
   | exact target_Parse.mono _ _ _
   | exact target_Put.mono _ _ _ _ _ _
   | exact target_Query.mono _ _
   | exact LeO.none _
   | refine LeO.ite ?_ ?_
   | refine LeO.bind ?_ (fun _ => ?_)
theorem parallaxlaw7_TargetForms.mono : ∀ a0 a1 a2 a3 k, LeO (parallaxlaw7_TargetForms.f k a0 a1 a2 a3) (parallaxlaw7_TargetForms.f (k + 1) a0 a1 a2 a3) := by
 intro a0 a1 a2 a3 k
 obtain ⟨ih0, ih1, ih2, ih3, ih4⟩ := parallaxlaw7_TargetForms.mono_l k
 unfold parallaxlaw7_TargetForms.f
 repeat' first
   | (with_reducible exact ih0 _ _ _ _ _)
   | (with_reducible exact ih1 _ _ _ _ _ _)
   | (with_reducible exact ih2 _ _ _ _)
   | (with_reducible exact ih3 _ _ _ _ _ _)
   | (with_reducible exact ih4 _)
   | (with_reducible exact parallaxlaw7_known.mono _)
   | (with_reducible exact target_Parse.mono _ _ _)
   | (with_reducible exact target_Put.mono _ _ _ _ _ _)
   | (with_reducible exact target_Query.mono _ _)
   | (with_reducible exact LeO.refl _)
   | (with_reducible exact LeO.none _)
   | (with_reducible refine LeO.ite ?_ ?_)
   | (with_reducible refine LeO.bind ?_ (fun _ => ?_))
   | exact ih0 _ _ _ _ _
   | exact ih1 _ _ _ _ _ _
   | exact ih2 _ _ _ _
   | exact ih3 _ _ _ _ _ _
   | exact ih4 _
   | exact parallaxlaw7_known.mono _
   | exact target_Parse.mono _ _ _
   | exact target_Put.mono _ _ _ _ _ _
   | exact target_Query.mono _ _
   | exact LeO.none _
   | refine LeO.ite ?_ ?_
   | refine LeO.bind ?_ (fun _ => ?_)
set_option maxHeartbeats 40000000 in
set_option maxRecDepth 100000 in
theorem parallaxlaw7_TargetForms.calls (k : Nat) (A0 : Option Addr) (c0 : Nat) (l0 : List Int) (a1 : ByteArray) (a2 : Bool) (a3 : Int) (r : Bool) (w : World) (hr0 : Kd.C (Kd.int .u8) w A0 l0.length l0) (hc0 : l0.length ≤ c0) (hq3 : (Lit.int .u8 a3).wf = true) (hT : r = true) (h : parallaxlaw7_TargetForms.f k l0 a1 a2 a3 = some r) :
  Calls Try.prog 6 #[.slice A0 l0.length c0, .string a1, .bool a2, .int .u8 a3] w fun e w' => e = .returned (.bool r) ∧ Below w.heap.size w w' := by
 have hu27 := Try.underlying27
 have HQ3 := Aside0.mk hq3
 clear hq3
 have HT := Aside0.mk hT
 clear hT
 have HR0 := Aside0.mk hr0
 have HC0 := Aside0.mk hc0
 clear hr0 hc0
 have HB := Aside0.mk (Below.refl w.heap.size w)
 have H : ((parallaxlaw7_known.f k).bind fun t209 => (if t209 = true then (if (l0.length : Int) > 8 then (parallaxlaw7_TargetForms.j0 k l0 a1 a2 a3 true) else (parallaxlaw7_TargetForms.j0 k l0 a1 a2 a3 (decide ((a1.size : Int) > 30)))) else (some false))) = some r := h
 clear h
 replace H := Option.bind_eq_some_iff.mp H
 obtain ⟨t209, A50, H⟩ := H
 (try dsimp only at H)
 have A5 := Aside0.mk A50
 clear A50
 by_cases c6 : t209 = true
 ·subst c6
  rw [if_pos rfl] at H
  have HC7 := Aside0.mk H
  clear H
  go_enter Try.func6, Try.ntmps6
  go_upto_region 3 with (first | ((with_reducible refine gate_callee (f := 7) rfl ?_); refine goesL_ (some 26) rfl rfl Try.func7 (by kernel_rfl) rfl #[] rfl (by (try simp only [List.map_toArray, List.map_cons, List.map_nil]); first | done | rfl | (simp only [List.length_drop, List.length_take]; rfl)) ?_; (with_reducible refine (parallaxlaw7_known.calls k  true _ rfl A5.out).mono ?_); rintro e w8 ⟨rfl, hb⟩; refine ⟨_, rfl, ?_⟩; have n0_ := Aside0.mk (below_step (by repeat (first | (with_reducible first | exact HB.out | apply below_alloc | apply pw_below_drewN | apply below_drew1) | exact HB.out)) hb); clear HB; have HB := n0_; clear n0_; (try clear hb); (try clear hb2); (try clear hk); (try clear hi)))
  (try simp only [Act.put, List.setIfInBounds_toArray, List.set_cons_zero, List.set_cons_succ])
  go_cut [35] (fun v35 wc => ∃ (kq : Nat) (x35_6 : Bool), v35 = .bool x35_6 ∧ Aside0 (parallaxlaw7_TargetForms.j0 kq l0 a1 a2 a3 x35_6 = some r) ∧ Aside0 (kq ≤ k) ∧ Aside0 (Below w.heap.size w wc))
  case first =>
   have H := HC7.out
   clear HC7
   by_cases c9 : (l0.length : Int) > 8
   ·rw [if_pos c9] at H
    have c9b0 : decide (8 < (l0.length : Int)) = true := decide_eq_true c9
    have c9b1 : decide (8 < l0.length) = true := decide_eq_true (by omega)
    clear c9
    (first | rw [c9b0] | (simp only [i64_w, i32_w]; rw [c9b0]) | skip)
    have H' := Aside0.mk H
    clear H
    go_wp2
    (try any_goals (exfalso; have h_ := ‹some undef = some (Value.bool _)›; revert h_; simp [undef]; done))
    go_meet
    case rel => exact ⟨_, (true), (by first | rfl | (simp; done) | (simp [*]; done)), H', ⟨by first | omega | exact Nat.le_refl _⟩, ⟨by repeat (first | (with_reducible first | exact HB.out | apply below_alloc | apply pw_below_drewN | apply below_drew1) | exact HB.out)⟩⟩
   ·rw [if_neg c9] at H
    have c9b0 : decide (8 < (l0.length : Int)) = false := decide_eq_false c9
    have c9b1 : decide (8 < l0.length) = false := decide_eq_false (by omega)
    clear c9
    (first | rw [c9b0] | (simp only [i64_w, i32_w]; rw [c9b0]) | skip)
    have H' := Aside0.mk H
    clear H
    go_wp2
    (try any_goals (exfalso; have h_ := ‹some undef = some (Value.bool _)›; revert h_; simp [undef]; done))
    go_meet
    case rel => exact ⟨_, (decide ((a1.size : Int) > 30)), (by first | rfl | (simp; done) | (simp [*]; done)), H', ⟨by first | omega | exact Nat.le_refl _⟩, ⟨by repeat (first | (with_reducible first | exact HB.out | apply below_alloc | apply pw_below_drewN | apply below_drew1) | exact HB.out)⟩⟩
  case rest =>
   clear HC7
   try clear p2
   try clear q3
   try clear c6
   try clear c7
   try clear c9
   try clear c9b0
   try clear c9b1
   obtain ⟨kq, x35_6, rfl, HA, HJ6, HB⟩ := hcut
   cases kq with
   | zero => exact absurd HA.out (by simp [parallaxlaw7_TargetForms.j0])
   | succ kj6 =>
    have H := HA.out
    clear HA
    simp only [parallaxlaw7_TargetForms.j0] at H
    by_cases c10 : x35_6 = true
    ·subst c10
     rw [if_pos rfl] at H
     obtain rfl := Option.some.inj H
     go_wp2
     (try any_goals (exfalso; have h_ := ‹some undef = some (Value.bool _)›; revert h_; simp [undef]; done))
     go_ret
     exact ⟨by first | rfl | (simp [errW_none, errW_some] <;> rfl) | (simp [*, errW_none, errW_some] <;> rfl), by repeat (first | (with_reducible first | exact HB.out | apply below_alloc | apply pw_below_drewN | apply below_drew1) | exact HB.out)⟩
    ·replace c10 := Bool.eq_false_iff.mpr c10
     subst c10
     rw [if_neg (show ¬ (false = true) by decide)] at H
     have H' := Aside0.mk H
     clear H
     go_wp2
     (try any_goals (exfalso; have h_ := ‹some undef = some (Value.bool _)›; revert h_; simp [undef]; done))
     go_loopg [9, 10] kj6 (fun kq v9 v10 w' => ∃ (x9_2 : ByteArray) (x10_2 : Int), v9 = .string x9_2 ∧ v10 = .int .i64 x10_2 ∧ Aside0 (parallaxlaw7_TargetForms.l0 kq l0 a1 a2 a3 x9_2 x10_2 = some r) ∧ Aside0 (kq ≤ kj6) ∧ Aside0 (Below w.heap.size w w'))
     case atStart => exact ⟨((⟨#[47]⟩ : ByteArray)), (0), (by first | rfl | (simp; done) | (simp [*]; done)), (by first | rfl | (simp; done) | (simp [*]; done)), H', ⟨Nat.le_refl _⟩, ⟨by repeat (first | (with_reducible first | exact HB.out | apply below_alloc | apply pw_below_drewN | apply below_drew1) | exact HB.out)⟩⟩
     case round =>
      clear H'
      try clear c1
      try clear p2
      try clear q3
      try clear c6
      try clear c7
      try clear c9
      try clear c9b0
      try clear c9b1
      try clear c10
      try clear p2
      try clear q3
      obtain ⟨x9_2, x10_2, rfl, rfl, HA, HK2, HB⟩ := hrel
      cases gk with
      | zero => exact absurd HA.out (by simp [parallaxlaw7_TargetForms.l0])
      | succ k2 =>
       have H := HA.out
       clear HA
       simp only [parallaxlaw7_TargetForms.l0] at H
       by_cases c11 : x10_2 < (l0.length : Int)
       ·rw [if_pos c11] at H
        have c11b0 : decide (x10_2 < (l0.length : Int)) = true := decide_eq_true c11
        clear c11
        obtain ⟨y210, hy210⟩ : ∃ y_ : List ByteArray, y_ = (([(⟨#[97]⟩ : ByteArray), (⟨#[98, 47]⟩ : ByteArray), (⟨#[37, 52, 49]⟩ : ByteArray), (⟨#[46]⟩ : ByteArray), (⟨#[120, 61, 49]⟩ : ByteArray), (⟨#[58]⟩ : ByteArray)] : List ByteArray)) := ⟨_, rfl⟩
        replace H : (if 0 ≤ x10_2 then (if 0 ≤ (Int.tmod (rd l0 x10_2) 6) then (if (Int.tmod (rd l0 x10_2) 6) < (y210.length : Int) then (if x9_2.size + (rdOf ByteArray.empty y210 (Int.tmod (rd l0 x10_2) 6)).size ≤ 9223372036854775807 then (parallaxlaw7_TargetForms.l0 k2 l0 a1 a2 a3 (x9_2 ++ (rdOf ByteArray.empty y210 (Int.tmod (rd l0 x10_2) 6))) (wrap64 (x10_2 + 1))) else (none)) else (none)) else (none)) else (none)) = some r := by first | (rw [hy210]; with_reducible exact H) | (have H2_ := (Option.bind_some _ _).symm.trans H; rw [hy210]; with_reducible exact H2_) | (have H2_ := (Option.bind_some _ _).symm.trans H; with_reducible exact H2_) | with_reducible exact H | (rw [hy210]; exact H) | exact H
        have Ny210 := Aside0.mk hy210
        clear hy210
        by_cases c12 : 0 ≤ x10_2
        ·rw [if_pos c12] at H
         have c12b0 : decide (0 ≤ x10_2) = true := decide_eq_true c12
         clear c12
         obtain ⟨ji13, hji13⟩ : ∃ j_ : Int, (Int.tmod (rd l0 x10_2) 6) = j_ := ⟨_, rfl⟩
         replace H : (if 0 ≤ (ji13) then (if (ji13) < (y210.length : Int) then (if x9_2.size + (rdOf ByteArray.empty y210 (ji13)).size ≤ 9223372036854775807 then (parallaxlaw7_TargetForms.l0 k2 l0 a1 a2 a3 (x9_2 ++ (rdOf ByteArray.empty y210 (ji13))) (wrap64 (x10_2 + 1))) else (none)) else (none)) else (none)) = some r := by first | (rw [hji13] at H; exact H) | (simp only [hji13] at H ⊢; exact H)
         by_cases c14 : 0 ≤ (ji13)
         ·rw [if_pos c14] at H
          have c14b0 : decide (0 ≤ (ji13)) = true := decide_eq_true c14
          clear c14
          by_cases c15 : (ji13) < (y210.length : Int)
          ·rw [if_pos c15] at H
           have c15b0 : decide ((ji13) < (y210.length : Int)) = true := decide_eq_true c15
           clear c15
           by_cases c16 : x9_2.size + (rdOf ByteArray.empty y210 (ji13)).size ≤ 9223372036854775807
           ·rw [if_pos c16] at H
            have c16b0 := eq_true c16
            have c16b1 : decide (x9_2.size + (rdOf ByteArray.empty y210 (ji13)).size ≤ 9223372036854775807) = true := decide_eq_true c16
            try have c16b2 : (9223372036854775807 < x9_2.size + (rdOf ByteArray.empty y210 (ji13)).size) = False := eq_false (Nat.not_lt.2 c16)
            have H' := Aside0.mk H
            clear H
            go_wp2_with (first | ((with_reducible refine gate_dst (N := 43) rfl ?_); (try (refine gate_guard (by rfl) ?_; dsimp only)); refine Kd.R_lit Kd.string _ 9 ?hg (N := 43) ?hd (xs := ([(⟨#[97]⟩ : ByteArray), (⟨#[98, 47]⟩ : ByteArray), (⟨#[37, 52, 49]⟩ : ByteArray), (⟨#[46]⟩ : ByteArray), (⟨#[120, 61, 49]⟩ : ByteArray), (⟨#[58]⟩ : ByteArray)] : List ByteArray)) (inner := [.string (⟨#[97]⟩ : ByteArray), .string (⟨#[98, 47]⟩ : ByteArray), .string (⟨#[37, 52, 49]⟩ : ByteArray), .string (⟨#[46]⟩ : ByteArray), .string (⟨#[120, 61, 49]⟩ : ByteArray), .string (⟨#[58]⟩ : ByteArray)]) (ok := fun _ => True) (okp := fun _ => True) ?hr ?hp (fun _ hk => hk) trivial (Below.refl _ _) (Nat.le_refl _) (by simp) ?_; (case hd => rfl); (case hg => rfl); (case hr => first | (go_simp; done) | (go_simp; rfl)); (case hp => exact (Reps.one (show Kd.M Kd.string _ _ _ (⟨#[97]⟩ : ByteArray) [.string (⟨#[97]⟩ : ByteArray)] from rfl) (Reps.one (show Kd.M Kd.string _ _ _ (⟨#[98, 47]⟩ : ByteArray) [.string (⟨#[98, 47]⟩ : ByteArray)] from rfl) (Reps.one (show Kd.M Kd.string _ _ _ (⟨#[37, 52, 49]⟩ : ByteArray) [.string (⟨#[37, 52, 49]⟩ : ByteArray)] from rfl) (Reps.one (show Kd.M Kd.string _ _ _ (⟨#[46]⟩ : ByteArray) [.string (⟨#[46]⟩ : ByteArray)] from rfl) (Reps.one (show Kd.M Kd.string _ _ _ (⟨#[120, 61, 49]⟩ : ByteArray) [.string (⟨#[120, 61, 49]⟩ : ByteArray)] from rfl) (Reps.one (show Kd.M Kd.string _ _ _ (⟨#[58]⟩ : ByteArray) [.string (⟨#[58]⟩ : ByteArray)] from rfl) (Reps.none _ _)))))))); intro v211 w17 ho18 hb hg_ hnew_; clear hg_ hnew_; (first | rw [← Ny210.out] at ho18 | (simp only [Int.reduceToNat] at ho18; rw [← Ny210.out] at ho18)); have n0_ := Aside0.mk (Kd.R_lower ho18 (below_size (by repeat (first | (with_reducible first | exact HB.out | apply below_alloc | apply pw_below_drewN | apply below_drew1) | exact HB.out)))); have n1_ := Aside0.mk (below_step (by repeat (first | (with_reducible first | exact HB.out | apply below_alloc | apply pw_below_drewN | apply below_drew1) | exact HB.out)) hb); clear HB; have HO212 := n0_; have HB := n1_; clear n0_ n1_; clear hb ho18; have p213 : 0 ≤ (x10_2 : Int) := of_decide_eq_true (by first | (with_reducible assumption) | assumption); have q213 : x10_2 < (l0.length : Int) := of_decide_eq_true (by first | (with_reducible assumption) | assumption); obtain ⟨ad213, e213, hx213_0⟩ := Kd.at_int HR0.out x10_2 p213 q213; cases e213; replace hx213_0 := (HB.out.cell (World.block_lt_of_cell? w _ hx213_0)).trans hx213_0; replace p213 := eq_true p213; replace q213 := eq_true q213; obtain ⟨Ao19, co19, eo19⟩ := Kd.R_slice HO212.out; subst eo19; have p214 : 0 ≤ ((ji13) : Int) := of_decide_eq_true (by first | (with_reducible assumption) | assumption); have q214 : (ji13) < (y210.length : Int) := of_decide_eq_true (by first | (with_reducible assumption) | assumption); obtain ⟨ad214, e214, hx214_0⟩ := Kd.at_string (Kd.R_reads' HO212.out).2.2 (ji13) p214 q214; cases e214; replace p214 := eq_true p214; replace q214 := eq_true q214))
            (try any_goals (exfalso; have h_ := ‹some undef = some (Value.bool _)›; revert h_; simp [undef]; done))
            go_roundg k2
            case measure => have := HJ6.out; have := HK2.out; omega
            case rel => exact ⟨(x9_2 ++ (rdOf ByteArray.empty y210 (ji13))), (wrap64 (x10_2 + 1)), (by first | rfl | (simp; done) | (simp only [← hji13] <;> (first | rfl | simp)) | (simp [*]; done)), (by first | rfl | (simp; done) | (simp [*]; done)), H', ⟨by have := HJ6.out; have := HK2.out; omega⟩, ⟨by repeat (first | (with_reducible first | exact HB.out | apply below_alloc | apply pw_below_drewN | apply below_drew1) | exact HB.out)⟩⟩
           ·rw [if_neg c16] at H
            exact absurd H (by simp)
          ·rw [if_neg c15] at H
           exact absurd H (by simp)
         ·rw [if_neg c14] at H
          exact absurd H (by simp)
        ·rw [if_neg c12] at H
         exact absurd H (by simp)
       ·rw [if_neg c11] at H
        have c11b0 : decide (x10_2 < (l0.length : Int)) = false := decide_eq_false c11
        clear c11
        replace H := Option.bind_eq_some_iff.mp H
        obtain ⟨t215, A200, H⟩ := H
        (try dsimp only at H)
        have A20 := Aside0.mk A200
        clear A200
        have HC21 := Aside0.mk H
        clear H
        go_upto_if 54 with (first | ((with_reducible refine gate_callee (f := 17) rfl ?_); refine goesL_ (some 53) rfl rfl Try.func17 (by kernel_rfl) rfl #[.string a1] rfl (by (try simp only [List.map_toArray, List.map_cons, List.map_nil]); first | done | rfl | (simp only [List.length_drop, List.length_take]; rfl)) ?_; (with_reducible refine (target_Query.calls k2 a1 t215 _ A20.out).mono ?_); rintro e w22 ⟨rfl, hb⟩; refine ⟨_, rfl, ?_⟩; have n0_ := Aside0.mk (below_step (by repeat (first | (with_reducible first | exact HB.out | apply below_alloc | apply pw_below_drewN | apply below_drew1) | exact HB.out)) hb); clear HB; have HB := n0_; clear n0_; (try clear hb); (try clear hb2); (try clear hk); (try clear hi)))
        (try simp only [Act.put, List.setIfInBounds_toArray, List.set_cons_zero, List.set_cons_succ])
        go_cut [1] (fun v1 wc => ∃ (kq : Nat) (x1_20 : ByteArray), v1 = .string x1_20 ∧ Aside0 (parallaxlaw7_TargetForms.j2 kq x1_20 a2 a3 x9_2 = some r) ∧ Aside0 (kq ≤ k2) ∧ Aside0 (Below w.heap.size w wc))
        case first =>
         have H := HC21.out
         clear HC21
         by_cases c23 : t215 = true
         ·subst c23
          rw [if_pos rfl] at H
          have H' := Aside0.mk H
          clear H
          go_wp2
          (try any_goals (exfalso; have h_ := ‹some undef = some (Value.bool _)›; revert h_; simp [undef]; done))
          go_meet
          case rel => exact ⟨_, (a1), (by first | rfl | (simp; done) | (simp [*]; done)), H', ⟨by have := HJ6.out; have := HK2.out; first | omega | exact Nat.le_refl _⟩, ⟨by repeat (first | (with_reducible first | exact HB.out | apply below_alloc | apply pw_below_drewN | apply below_drew1) | exact HB.out)⟩⟩
         ·replace c23 := Bool.eq_false_iff.mpr c23
          subst c23
          rw [if_neg (show ¬ (false = true) by decide)] at H
          have H' := Aside0.mk H
          clear H
          go_wp2
          (try any_goals (exfalso; have h_ := ‹some undef = some (Value.bool _)›; revert h_; simp [undef]; done))
          go_meet
          case rel => exact ⟨_, ((⟨#[113]⟩ : ByteArray)), (by first | rfl | (simp; done) | (simp [*]; done)), H', ⟨by have := HJ6.out; have := HK2.out; first | omega | exact Nat.le_refl _⟩, ⟨by repeat (first | (with_reducible first | exact HB.out | apply below_alloc | apply pw_below_drewN | apply below_drew1) | exact HB.out)⟩⟩
        case rest =>
         clear HC21
         try clear c1
         try clear c2
         try clear p2
         try clear q2
         try clear hx2
         try clear q3
         try clear c6
         try clear p6
         try clear c7
         try clear c9
         try clear c9b0
         try clear c9b1
         try clear c10
         try clear c11
         try clear c11b0
         try clear c12
         try clear c12b0
         try clear c14
         try clear c14b0
         try clear c15
         try clear c15b0
         try clear c16
         try clear c16b0
         try clear c16b1
         try clear c16b2
         try clear c17
         try clear p21
         try clear q21
         try clear hx21
         try clear c23
         try clear hx213_0
         try clear hx214_0
         try clear p2
         try clear p213
         try clear p214
         try clear q213
         try clear q214
         try clear q3
         obtain ⟨kq, x1_20, rfl, HA, HJ20, HB⟩ := hcut
         cases kq with
         | zero => exact absurd HA.out (by simp [parallaxlaw7_TargetForms.j2])
         | succ kj20 =>
          have H := HA.out
          clear HA
          simp only [parallaxlaw7_TargetForms.j2] at H
          obtain ⟨y216, hy216⟩ : ∃ y_ : List ByteArray, y_ = (([(⟨#[71, 69, 84]⟩ : ByteArray), (⟨#[80, 79, 83, 84]⟩ : ByteArray), (⟨#[79, 80, 84, 73, 79, 78, 83]⟩ : ByteArray), (⟨#[72, 69, 65, 68]⟩ : ByteArray)] : List ByteArray)) := ⟨_, rfl⟩
          replace H : (if 0 ≤ (Int.tmod a3 4) then (if (Int.tmod a3 4) < (y216.length : Int) then (if a2 = true then (parallaxlaw7_TargetForms.j3 kj20 (rdOf ByteArray.empty y216 (Int.tmod a3 4)) 1 (⟨#[]⟩ : ByteArray) x9_2 x1_20 true) else (parallaxlaw7_TargetForms.j3 kj20 (rdOf ByteArray.empty y216 (Int.tmod a3 4)) 1 (⟨#[]⟩ : ByteArray) x9_2 (⟨#[]⟩ : ByteArray) false)) else (none)) else (none)) = some r := by first | (rw [hy216]; with_reducible exact H) | (have H2_ := (Option.bind_some _ _).symm.trans H; rw [hy216]; with_reducible exact H2_) | (have H2_ := (Option.bind_some _ _).symm.trans H; with_reducible exact H2_) | with_reducible exact H | (rw [hy216]; exact H) | exact H
          have Ny216 := Aside0.mk hy216
          clear hy216
          obtain ⟨ji24, hji24⟩ : ∃ j_ : Int, (Int.tmod a3 4) = j_ := ⟨_, rfl⟩
          replace H : (if 0 ≤ (ji24) then (if (ji24) < (y216.length : Int) then (if a2 = true then (parallaxlaw7_TargetForms.j3 kj20 (rdOf ByteArray.empty y216 (ji24)) 1 (⟨#[]⟩ : ByteArray) x9_2 x1_20 true) else (parallaxlaw7_TargetForms.j3 kj20 (rdOf ByteArray.empty y216 (ji24)) 1 (⟨#[]⟩ : ByteArray) x9_2 (⟨#[]⟩ : ByteArray) false)) else (none)) else (none)) = some r := by first | (rw [hji24] at H; exact H) | (simp only [hji24] at H ⊢; exact H)
          by_cases c25 : 0 ≤ (ji24)
          ·rw [if_pos c25] at H
           have c25b0 : decide (0 ≤ (ji24)) = true := decide_eq_true c25
           clear c25
           by_cases c26 : (ji24) < (y216.length : Int)
           ·rw [if_pos c26] at H
            have c26b0 : decide ((ji24) < (y216.length : Int)) = true := decide_eq_true c26
            clear c26
            have HC27 := Aside0.mk H
            clear H
            go_upto_if 62 with (first | ((with_reducible refine gate_dst (N := 55) rfl ?_); (try (refine gate_guard (by rfl) ?_; dsimp only)); refine Kd.R_lit Kd.string _ 9 ?hg (N := 55) ?hd (xs := ([(⟨#[71, 69, 84]⟩ : ByteArray), (⟨#[80, 79, 83, 84]⟩ : ByteArray), (⟨#[79, 80, 84, 73, 79, 78, 83]⟩ : ByteArray), (⟨#[72, 69, 65, 68]⟩ : ByteArray)] : List ByteArray)) (inner := [.string (⟨#[71, 69, 84]⟩ : ByteArray), .string (⟨#[80, 79, 83, 84]⟩ : ByteArray), .string (⟨#[79, 80, 84, 73, 79, 78, 83]⟩ : ByteArray), .string (⟨#[72, 69, 65, 68]⟩ : ByteArray)]) (ok := fun _ => True) (okp := fun _ => True) ?hr ?hp (fun _ hk => hk) trivial (Below.refl _ _) (Nat.le_refl _) (by simp) ?_; (case hd => rfl); (case hg => rfl); (case hr => first | (go_simp; done) | (go_simp; rfl)); (case hp => exact (Reps.one (show Kd.M Kd.string _ _ _ (⟨#[71, 69, 84]⟩ : ByteArray) [.string (⟨#[71, 69, 84]⟩ : ByteArray)] from rfl) (Reps.one (show Kd.M Kd.string _ _ _ (⟨#[80, 79, 83, 84]⟩ : ByteArray) [.string (⟨#[80, 79, 83, 84]⟩ : ByteArray)] from rfl) (Reps.one (show Kd.M Kd.string _ _ _ (⟨#[79, 80, 84, 73, 79, 78, 83]⟩ : ByteArray) [.string (⟨#[79, 80, 84, 73, 79, 78, 83]⟩ : ByteArray)] from rfl) (Reps.one (show Kd.M Kd.string _ _ _ (⟨#[72, 69, 65, 68]⟩ : ByteArray) [.string (⟨#[72, 69, 65, 68]⟩ : ByteArray)] from rfl) (Reps.none _ _)))))); intro v217 w28 ho29 hb hg_ hnew_; clear hg_ hnew_; (first | rw [← Ny216.out] at ho29 | (simp only [Int.reduceToNat] at ho29; rw [← Ny216.out] at ho29)); have n0_ := Aside0.mk (Kd.R_lower ho29 (below_size (by repeat (first | (with_reducible first | exact HB.out | apply below_alloc | apply pw_below_drewN | apply below_drew1) | exact HB.out)))); have n1_ := Aside0.mk (below_step (by repeat (first | (with_reducible first | exact HB.out | apply below_alloc | apply pw_below_drewN | apply below_drew1) | exact HB.out)) hb); clear HB; have HO218 := n0_; have HB := n1_; clear n0_ n1_; clear hb ho29; obtain ⟨Ao30, co30, eo30⟩ := Kd.R_slice HO218.out; subst eo30; have p219 : 0 ≤ ((ji24) : Int) := of_decide_eq_true (by first | (with_reducible assumption) | assumption); have q219 : (ji24) < (y216.length : Int) := of_decide_eq_true (by first | (with_reducible assumption) | assumption); obtain ⟨ad219, e219, hx219_0⟩ := Kd.at_string (Kd.R_reads' HO218.out).2.2 (ji24) p219 q219; cases e219; replace p219 := eq_true p219; replace q219 := eq_true q219) | ((with_reducible refine gate_dst (N := 12) rfl ?_); (try (refine gate_guard (by rfl) ?_; dsimp only)); refine box_event ?hg (N := 12) ?hd (cs := #[.int .i64 0, .string (⟨#[]⟩ : ByteArray), .string (⟨#[]⟩ : ByteArray), .string (⟨#[]⟩ : ByteArray), .bool false]) (t := 27) ?hr ?_; (case hd => rfl); (case hg => rfl); (case hr => first | (go_simp; done) | (go_simp; rfl)); intro gb220 hg w31 hbox hb; have n0_ := Aside0.mk (Kd.R_below (by (with_reducible repeat (first | apply Kd.R_alloc | apply Kd.R_drewN | apply Kd.R_drew)); exact HO218.out) hb); have n1_ := Aside0.mk (below_step (by repeat (first | (with_reducible first | exact HB.out | apply below_alloc | apply pw_below_drewN | apply below_drew1) | exact HB.out)) hb); have n2_ := Aside0.mk (hbox); have n3_ := Aside0.mk ((by rw [hg]; exact (below_size (by repeat (first | (with_reducible first | exact HB.out | apply below_alloc | apply pw_below_drewN | apply below_drew1) | exact HB.out))) : w.heap.size ≤ gb220)); have n4_ := Aside0.mk ((by rw [hg]; exact (below_size (by repeat (first | (with_reducible first | exact HB.out | apply below_alloc | apply pw_below_drewN | apply below_drew1) | exact HB.out))) : w.heap.size ≤ gb220)); clear HO218; clear HB; have HO218 := n0_; have HB := n1_; have BK220 := n2_; have GW220 := n3_; have GE220 := n4_; clear n0_ n1_ n2_ n3_ n4_; clear hb hbox hg; have hcz32_0 : w31.cell? ⟨gb220, 0, none⟩ = some (.int .i64 0) := (blk_cell BK220.out 0).trans rfl; have hcz32_1 : w31.cell? ⟨gb220, 1, none⟩ = some (.string (⟨#[]⟩ : ByteArray)) := (blk_cell BK220.out 1).trans rfl; have hcz32_2 : w31.cell? ⟨gb220, 2, none⟩ = some (.string (⟨#[]⟩ : ByteArray)) := (blk_cell BK220.out 2).trans rfl; have hcz32_3 : w31.cell? ⟨gb220, 3, none⟩ = some (.string (⟨#[]⟩ : ByteArray)) := (blk_cell BK220.out 3).trans rfl; have hcz32_4 : w31.cell? ⟨gb220, 4, none⟩ = some (.bool false) := (blk_cell BK220.out 4).trans rfl; have hfz32_0 := blk_frozen BK220.out 0; have hfz32_1 := blk_frozen BK220.out 1; have hfz32_2 := blk_frozen BK220.out 2; have hfz32_3 := blk_frozen BK220.out 3; have hfz32_4 := blk_frozen BK220.out 4))
            (try simp only [Act.put, List.setIfInBounds_toArray, List.set_cons_zero, List.set_cons_succ])
            go_cut [] (fun wc => ∃ (kq : Nat) (x221003_26 : ByteArray) (x221004_26 : Bool), Aside0 (parallaxlaw7_TargetForms.j3 kq (rdOf ByteArray.empty y216 (ji24)) 1 (⟨#[]⟩ : ByteArray) x9_2 x221003_26 x221004_26 = some r) ∧ Aside0 (kq ≤ kj20) ∧ Aside0 (wc.heap[gb220]? = some (.cells #[.int .i64 1, .string (⟨#[]⟩ : ByteArray), .string x9_2, .string x221003_26, .bool x221004_26] 27 (0, 0))) ∧ Aside0 (Below w.heap.size w wc))
            case first =>
             have H := HC27.out
             clear HC27
             by_cases c33 : a2 = true
             ·subst c33
              rw [if_pos rfl] at H
              have H' := Aside0.mk H
              clear H
              have hcz34_0 : w31.cell? ⟨gb220, 0, none⟩ = some (.int .i64 0) := (blk_cell BK220.out 0).trans rfl
              have hcz34_1 : w31.cell? ⟨gb220, 1, none⟩ = some (.string (⟨#[]⟩ : ByteArray)) := (blk_cell BK220.out 1).trans rfl
              have hcz34_2 : w31.cell? ⟨gb220, 2, none⟩ = some (.string (⟨#[]⟩ : ByteArray)) := (blk_cell BK220.out 2).trans rfl
              have hcz34_3 : w31.cell? ⟨gb220, 3, none⟩ = some (.string (⟨#[]⟩ : ByteArray)) := (blk_cell BK220.out 3).trans rfl
              have hcz34_4 : w31.cell? ⟨gb220, 4, none⟩ = some (.bool false) := (blk_cell BK220.out 4).trans rfl
              have hfz34_0 := blk_frozen BK220.out 0
              have hfz34_1 := blk_frozen BK220.out 1
              have hfz34_2 := blk_frozen BK220.out 2
              have hfz34_3 := blk_frozen BK220.out 3
              have hfz34_4 := blk_frozen BK220.out 4
              go_wp2
              (try any_goals (exfalso; have h_ := ‹some undef = some (Value.bool _)›; revert h_; simp [undef]; done))
              go_meet
              case rel => exact ⟨_, (x1_20), (true), H', ⟨by have := HJ6.out; have := HK2.out; have := HJ20.out; first | omega | exact Nat.le_refl _⟩, ⟨by (with_reducible repeat (first | refine blk_drewN ?_ _ | refine blk_drew ?_ | refine blk_alloc ?_ _)); refine blk_put (cs := #[.int .i64 1, .string (⟨#[]⟩ : ByteArray), .string x9_2, .string x1_20, .bool false]) ?_ 4 _ rfl; (with_reducible repeat (first | refine blk_drewN ?_ _ | refine blk_drew ?_ | refine blk_alloc ?_ _)); refine blk_put (cs := #[.int .i64 1, .string (⟨#[]⟩ : ByteArray), .string x9_2, .string (⟨#[]⟩ : ByteArray), .bool false]) ?_ 3 _ rfl; (with_reducible repeat (first | refine blk_drewN ?_ _ | refine blk_drew ?_ | refine blk_alloc ?_ _)); refine blk_put (cs := #[.int .i64 1, .string (⟨#[]⟩ : ByteArray), .string x9_2, .string (⟨#[]⟩ : ByteArray), .bool false]) ?_ 4 _ rfl; (with_reducible repeat (first | refine blk_drewN ?_ _ | refine blk_drew ?_ | refine blk_alloc ?_ _)); refine blk_put (cs := #[.int .i64 1, .string (⟨#[]⟩ : ByteArray), .string x9_2, .string (⟨#[]⟩ : ByteArray), .bool false]) ?_ 3 _ rfl; (with_reducible repeat (first | refine blk_drewN ?_ _ | refine blk_drew ?_ | refine blk_alloc ?_ _)); refine blk_put (cs := #[.int .i64 1, .string (⟨#[]⟩ : ByteArray), .string (⟨#[]⟩ : ByteArray), .string (⟨#[]⟩ : ByteArray), .bool false]) ?_ 2 _ rfl; (with_reducible repeat (first | refine blk_drewN ?_ _ | refine blk_drew ?_ | refine blk_alloc ?_ _)); refine blk_put (cs := #[.int .i64 1, .string (⟨#[]⟩ : ByteArray), .string (⟨#[]⟩ : ByteArray), .string (⟨#[]⟩ : ByteArray), .bool false]) ?_ 1 _ rfl; (with_reducible repeat (first | refine blk_drewN ?_ _ | refine blk_drew ?_ | refine blk_alloc ?_ _)); refine blk_put (cs := #[.int .i64 0, .string (⟨#[]⟩ : ByteArray), .string (⟨#[]⟩ : ByteArray), .string (⟨#[]⟩ : ByteArray), .bool false]) ?_ 0 _ rfl; (with_reducible repeat (first | refine blk_drewN ?_ _ | refine blk_drew ?_ | refine blk_alloc ?_ _)); exact BK220.out⟩, ⟨by repeat (first | (with_reducible first | exact HB.out | apply below_alloc | apply pw_below_drewN | apply below_drew1 | refine below_set ?_ GE220.out) | exact HB.out)⟩⟩
             ·replace c33 := Bool.eq_false_iff.mpr c33
              subst c33
              rw [if_neg (show ¬ (false = true) by decide)] at H
              have H' := Aside0.mk H
              clear H
              go_wp2
              (try any_goals (exfalso; have h_ := ‹some undef = some (Value.bool _)›; revert h_; simp [undef]; done))
              go_meet
              case rel => exact ⟨_, ((⟨#[]⟩ : ByteArray)), (false), H', ⟨by have := HJ6.out; have := HK2.out; have := HJ20.out; first | omega | exact Nat.le_refl _⟩, ⟨by (with_reducible repeat (first | refine blk_drewN ?_ _ | refine blk_drew ?_ | refine blk_alloc ?_ _)); refine blk_put (cs := #[.int .i64 1, .string (⟨#[]⟩ : ByteArray), .string x9_2, .string (⟨#[]⟩ : ByteArray), .bool false]) ?_ 4 _ rfl; (with_reducible repeat (first | refine blk_drewN ?_ _ | refine blk_drew ?_ | refine blk_alloc ?_ _)); refine blk_put (cs := #[.int .i64 1, .string (⟨#[]⟩ : ByteArray), .string x9_2, .string (⟨#[]⟩ : ByteArray), .bool false]) ?_ 3 _ rfl; (with_reducible repeat (first | refine blk_drewN ?_ _ | refine blk_drew ?_ | refine blk_alloc ?_ _)); refine blk_put (cs := #[.int .i64 1, .string (⟨#[]⟩ : ByteArray), .string (⟨#[]⟩ : ByteArray), .string (⟨#[]⟩ : ByteArray), .bool false]) ?_ 2 _ rfl; (with_reducible repeat (first | refine blk_drewN ?_ _ | refine blk_drew ?_ | refine blk_alloc ?_ _)); refine blk_put (cs := #[.int .i64 1, .string (⟨#[]⟩ : ByteArray), .string (⟨#[]⟩ : ByteArray), .string (⟨#[]⟩ : ByteArray), .bool false]) ?_ 1 _ rfl; (with_reducible repeat (first | refine blk_drewN ?_ _ | refine blk_drew ?_ | refine blk_alloc ?_ _)); refine blk_put (cs := #[.int .i64 0, .string (⟨#[]⟩ : ByteArray), .string (⟨#[]⟩ : ByteArray), .string (⟨#[]⟩ : ByteArray), .bool false]) ?_ 0 _ rfl; (with_reducible repeat (first | refine blk_drewN ?_ _ | refine blk_drew ?_ | refine blk_alloc ?_ _)); exact BK220.out⟩, ⟨by repeat (first | (with_reducible first | exact HB.out | apply below_alloc | apply pw_below_drewN | apply below_drew1 | refine below_set ?_ GE220.out) | exact HB.out)⟩⟩
            case rest =>
             clear HC27
             try clear c1
             try clear c2
             try clear p2
             try clear q2
             try clear hx2
             try clear c3
             try clear q3
             try clear c6
             try clear p6
             try clear c7
             try clear c9
             try clear c9b0
             try clear c9b1
             try clear c10
             try clear c11
             try clear c11b0
             try clear c12
             try clear c12b0
             try clear c14
             try clear c14b0
             try clear c15
             try clear c15b0
             try clear c16
             try clear c16b0
             try clear c16b1
             try clear c16b2
             try clear c17
             try clear p21
             try clear q21
             try clear hx21
             try clear c23
             try clear c25
             try clear c25b0
             try clear c26
             try clear c26b0
             try clear c33
             try clear hcz32_0
             try clear hcz32_1
             try clear hcz32_2
             try clear hcz32_3
             try clear hcz32_4
             try clear hcz34_0
             try clear hcz34_1
             try clear hcz34_2
             try clear hcz34_3
             try clear hcz34_4
             try clear hfz32_0
             try clear hfz32_1
             try clear hfz32_2
             try clear hfz32_3
             try clear hfz32_4
             try clear hfz34_0
             try clear hfz34_1
             try clear hfz34_2
             try clear hfz34_3
             try clear hfz34_4
             try clear hx213_0
             try clear hx214_0
             try clear hx219_0
             try clear p2
             try clear p21
             try clear p213
             try clear p214
             try clear p219
             try clear p6
             try clear q2
             try clear q21
             try clear q213
             try clear q214
             try clear q219
             try clear q3
             obtain ⟨kq, x221003_26, x221004_26, HA, HJ26, BK220, HB⟩ := hcut
             cases kq with
             | zero => exact absurd HA.out (by simp [parallaxlaw7_TargetForms.j3])
             | succ kj26 =>
              have H := HA.out
              clear HA
              simp only [parallaxlaw7_TargetForms.j3] at H
              replace H := Option.bind_eq_some_iff.mp H
              obtain ⟨t222, A350, H⟩ := H
              (try dsimp only at H)
              have A35 := Aside0.mk A350
              clear A350
              replace H := Option.bind_eq_some_iff.mp H
              obtain ⟨⟨t223, t224, t225, t226, t227, t228⟩, A360, H⟩ := H
              (try dsimp only at H)
              have A36 := Aside0.mk A360
              clear A360
              replace H := Option.bind_eq_some_iff.mp H
              obtain ⟨t230, A370, H⟩ := H
              (try dsimp only at H)
              have A37 := Aside0.mk A370
              clear A370
              replace H := Option.bind_eq_some_iff.mp H
              obtain ⟨⟨t231, t232, t233, t234, t235, t236⟩, A380, H⟩ := H
              (try dsimp only at H)
              have A38 := Aside0.mk A380
              clear A380
              replace H := Option.bind_eq_some_iff.mp H
              obtain ⟨⟨t238, t239, t240, t241, t242, t243⟩, A390, H⟩ := H
              (try dsimp only at H)
              have A39 := Aside0.mk A390
              clear A390
              replace H := Option.bind_eq_some_iff.mp H
              obtain ⟨t245, A400, H⟩ := H
              have E_ : t222 = t245 := Option.some.inj (A35.out.symm.trans A400)
              subst E_
              (try dsimp only at H)
              have A40 := Aside0.mk A400
              clear A400
              replace H := Option.bind_eq_some_iff.mp H
              obtain ⟨⟨t246, t247, t248, t249, t250, t251⟩, A410, H⟩ := H
              (try dsimp only at H)
              have A41 := Aside0.mk A410
              clear A410
              replace H := Option.bind_eq_some_iff.mp H
              obtain ⟨⟨t253, t254, t255, t256, t257, t258⟩, A420, H⟩ := H
              (try dsimp only at H)
              have A42 := Aside0.mk A420
              clear A420
              replace H := Option.bind_eq_some_iff.mp H
              obtain ⟨⟨t260, t261, t262, t263, t264, t265⟩, A430, H⟩ := H
              (try dsimp only at H)
              have A43 := Aside0.mk A430
              clear A430
              have HC44 := Aside0.mk H
              clear H
              have hcz45_0 : wc.cell? ⟨gb220, 0, none⟩ = some (.int .i64 1) := (blk_cell BK220.out 0).trans rfl
              have hcz45_1 : wc.cell? ⟨gb220, 1, none⟩ = some (.string (⟨#[]⟩ : ByteArray)) := (blk_cell BK220.out 1).trans rfl
              have hcz45_2 : wc.cell? ⟨gb220, 2, none⟩ = some (.string x9_2) := (blk_cell BK220.out 2).trans rfl
              have hcz45_3 : wc.cell? ⟨gb220, 3, none⟩ = some (.string x221003_26) := (blk_cell BK220.out 3).trans rfl
              have hcz45_4 : wc.cell? ⟨gb220, 4, none⟩ = some (.bool x221004_26) := (blk_cell BK220.out 4).trans rfl
              have hfz45_0 := blk_frozen BK220.out 0
              have hfz45_1 := blk_frozen BK220.out 1
              have hfz45_2 := blk_frozen BK220.out 2
              have hfz45_3 := blk_frozen BK220.out 3
              have hfz45_4 := blk_frozen BK220.out 4
              go_upto_region 24 with (first | ((with_reducible refine gate_dst (N := 13) rfl ?_); (try (refine gate_guard (by rfl) ?_; dsimp only)); refine box_event ?hg (N := 13) ?hd (cs := #[.int .i64 0, .string (⟨#[]⟩ : ByteArray), .string (⟨#[]⟩ : ByteArray), .string (⟨#[]⟩ : ByteArray), .bool false]) (t := 27) ?hr ?_; (case hd => rfl); (case hg => rfl); (case hr => first | (go_simp; done) | (go_simp; rfl)); intro gb221 hg w46 hbox hb; have n0_ := Aside0.mk (blk_below (g := gb220) (o := .cells #[.int .i64 1, .string (⟨#[]⟩ : ByteArray), .string x9_2, .string x221003_26, .bool x221004_26] 27 (0, 0)) (by (with_reducible repeat (first | refine blk_drewN ?_ _ | refine blk_drew ?_ | refine blk_alloc ?_ _)); exact BK220.out) hb); have n1_ := Aside0.mk (below_step (by repeat (first | (with_reducible first | exact HB.out | apply below_alloc | apply pw_below_drewN | apply below_drew1 | refine below_set ?_ GE220.out) | exact HB.out)) hb); have n2_ := Aside0.mk (hbox); have n3_ := Aside0.mk ((by rw [hg]; exact (below_size (by repeat (first | (with_reducible first | exact HB.out | apply below_alloc | apply pw_below_drewN | apply below_drew1 | refine below_set ?_ GE220.out) | exact HB.out))) : w.heap.size ≤ gb221)); have n4_ := Aside0.mk ((by rw [hg]; exact (below_size (by repeat (first | (with_reducible first | exact HB.out | apply below_alloc | apply pw_below_drewN | apply below_drew1 | refine below_set ?_ GE220.out) | exact HB.out))) : w.heap.size ≤ gb221)); have n5_ := Aside0.mk ((by rw [hg]; exact Nat.ne_of_lt (blk_lt (g := gb220) (o := .cells #[.int .i64 1, .string (⟨#[]⟩ : ByteArray), .string x9_2, .string x221003_26, .bool x221004_26] 27 (0, 0)) (by (with_reducible repeat (first | refine blk_drewN ?_ _ | refine blk_drew ?_ | refine blk_alloc ?_ _)); exact BK220.out)) : gb220 ≠ gb221)); have n6_ := Aside0.mk ((by rw [hg]; exact Nat.ne_of_gt (blk_lt (g := gb220) (o := .cells #[.int .i64 1, .string (⟨#[]⟩ : ByteArray), .string x9_2, .string x221003_26, .bool x221004_26] 27 (0, 0)) (by (with_reducible repeat (first | refine blk_drewN ?_ _ | refine blk_drew ?_ | refine blk_alloc ?_ _)); exact BK220.out)) : gb221 ≠ gb220)); clear BK220; clear HB; have BK220 := n0_; have HB := n1_; have BK221 := n2_; have GW221 := n3_; have GE221 := n4_; have NB220_221 := n5_; have NB221_220 := n6_; clear n0_ n1_ n2_ n3_ n4_ n5_ n6_; clear hb hbox hg; have hnb47 := NB221_220.out; have hnc47 := NB220_221.out; have hcz48_0 : w46.cell? ⟨gb221, 0, none⟩ = some (.int .i64 0) := (blk_cell BK221.out 0).trans rfl; have hcz48_1 : w46.cell? ⟨gb221, 1, none⟩ = some (.string (⟨#[]⟩ : ByteArray)) := (blk_cell BK221.out 1).trans rfl; have hcz48_2 : w46.cell? ⟨gb221, 2, none⟩ = some (.string (⟨#[]⟩ : ByteArray)) := (blk_cell BK221.out 2).trans rfl; have hcz48_3 : w46.cell? ⟨gb221, 3, none⟩ = some (.string (⟨#[]⟩ : ByteArray)) := (blk_cell BK221.out 3).trans rfl; have hcz48_4 : w46.cell? ⟨gb221, 4, none⟩ = some (.bool false) := (blk_cell BK221.out 4).trans rfl; have hfz48_0 := blk_frozen BK221.out 0; have hfz48_1 := blk_frozen BK221.out 1; have hfz48_2 := blk_frozen BK221.out 2; have hfz48_3 := blk_frozen BK221.out 3; have hfz48_4 := blk_frozen BK221.out 4; have hcz49_0 : w46.cell? ⟨gb220, 0, none⟩ = some (.int .i64 1) := (blk_cell BK220.out 0).trans rfl; have hcz49_1 : w46.cell? ⟨gb220, 1, none⟩ = some (.string (⟨#[]⟩ : ByteArray)) := (blk_cell BK220.out 1).trans rfl; have hcz49_2 : w46.cell? ⟨gb220, 2, none⟩ = some (.string x9_2) := (blk_cell BK220.out 2).trans rfl; have hcz49_3 : w46.cell? ⟨gb220, 3, none⟩ = some (.string x221003_26) := (blk_cell BK220.out 3).trans rfl; have hcz49_4 : w46.cell? ⟨gb220, 4, none⟩ = some (.bool x221004_26) := (blk_cell BK220.out 4).trans rfl; have hfz49_0 := blk_frozen BK220.out 0; have hfz49_1 := blk_frozen BK220.out 1; have hfz49_2 := blk_frozen BK220.out 2; have hfz49_3 := blk_frozen BK220.out 3; have hfz49_4 := blk_frozen BK220.out 4) | ((with_reducible refine gate_callee (f := 11) rfl ?_); refine goesL_ (some 72) rfl rfl Try.func11 (by kernel_rfl) rfl #[.agg #[.int .i64 1, .string (⟨#[]⟩ : ByteArray), .string x9_2, .string x221003_26, .bool x221004_26]] rfl (by (try simp only [List.map_toArray, List.map_cons, List.map_nil]); first | done | rfl | (simp only [List.length_drop, List.length_take]; rfl)) ?_; (with_reducible refine (target_Put.calls kj26 1 (⟨#[]⟩ : ByteArray) x9_2 x221003_26 x221004_26 t222 _ A35.out).mono ?_); rintro e w50 ⟨rfl, hb⟩; refine ⟨_, rfl, ?_⟩; have n0_ := Aside0.mk (blk_below (g := gb220) (o := .cells #[.int .i64 1, .string (⟨#[]⟩ : ByteArray), .string x9_2, .string x221003_26, .bool x221004_26] 27 (0, 0)) (by (repeat ((with_reducible repeat (first | refine blk_drewN ?_ _ | refine blk_drew ?_ | refine blk_alloc ?_ _)); refine blk_far ?_ NB220_221.out _)); (with_reducible repeat (first | refine blk_drewN ?_ _ | refine blk_drew ?_ | refine blk_alloc ?_ _)); exact BK220.out) hb); have n1_ := Aside0.mk (blk_below (g := gb221) (o := .cells #[.int .i64 2, .string (⟨#[104, 46, 111, 114, 103, 58, 56]⟩ : ByteArray), .string x9_2, .string x221003_26, .bool x221004_26] 27 (0, 0)) (by (with_reducible repeat (first | refine blk_drewN ?_ _ | refine blk_drew ?_ | refine blk_alloc ?_ _)); refine blk_put (cs := #[.int .i64 2, .string (⟨#[]⟩ : ByteArray), .string x9_2, .string x221003_26, .bool x221004_26]) ?_ 1 _ rfl; (with_reducible repeat (first | refine blk_drewN ?_ _ | refine blk_drew ?_ | refine blk_alloc ?_ _)); refine blk_put (cs := #[.int .i64 1, .string (⟨#[]⟩ : ByteArray), .string x9_2, .string x221003_26, .bool x221004_26]) ?_ 0 _ rfl; (with_reducible repeat (first | refine blk_drewN ?_ _ | refine blk_drew ?_ | refine blk_alloc ?_ _)); refine blk_put (cs := #[.int .i64 1, .string (⟨#[]⟩ : ByteArray), .string x9_2, .string x221003_26, .bool false]) ?_ 4 _ rfl; (with_reducible repeat (first | refine blk_drewN ?_ _ | refine blk_drew ?_ | refine blk_alloc ?_ _)); refine blk_put (cs := #[.int .i64 1, .string (⟨#[]⟩ : ByteArray), .string x9_2, .string (⟨#[]⟩ : ByteArray), .bool false]) ?_ 3 _ rfl; (with_reducible repeat (first | refine blk_drewN ?_ _ | refine blk_drew ?_ | refine blk_alloc ?_ _)); refine blk_put (cs := #[.int .i64 1, .string (⟨#[]⟩ : ByteArray), .string (⟨#[]⟩ : ByteArray), .string (⟨#[]⟩ : ByteArray), .bool false]) ?_ 2 _ rfl; (with_reducible repeat (first | refine blk_drewN ?_ _ | refine blk_drew ?_ | refine blk_alloc ?_ _)); refine blk_put (cs := #[.int .i64 1, .string (⟨#[]⟩ : ByteArray), .string (⟨#[]⟩ : ByteArray), .string (⟨#[]⟩ : ByteArray), .bool false]) ?_ 1 _ rfl; (with_reducible repeat (first | refine blk_drewN ?_ _ | refine blk_drew ?_ | refine blk_alloc ?_ _)); refine blk_put (cs := #[.int .i64 0, .string (⟨#[]⟩ : ByteArray), .string (⟨#[]⟩ : ByteArray), .string (⟨#[]⟩ : ByteArray), .bool false]) ?_ 0 _ rfl; (with_reducible repeat (first | refine blk_drewN ?_ _ | refine blk_drew ?_ | refine blk_alloc ?_ _)); exact BK221.out) hb); have n2_ := Aside0.mk (below_step (by repeat (first | (with_reducible first | exact HB.out | apply below_alloc | apply pw_below_drewN | apply below_drew1 | refine below_set ?_ GE220.out | refine below_set ?_ GE221.out) | exact HB.out)) hb); clear BK220; clear BK221; clear HB; have BK220 := n0_; have BK221 := n1_; have HB := n2_; clear n0_ n1_ n2_; (try clear hb); (try clear hb2); (try clear hk); (try clear hi)) | ((with_reducible refine gate_callee (f := 9) rfl ?_); refine goesL_ (some 73) rfl rfl Try.func9 (by kernel_rfl) rfl #[.string (rdOf ByteArray.empty y216 (ji24)), .string t222] rfl (by (try simp only [List.map_toArray, List.map_cons, List.map_nil]); first | done | (simp only [hji24]; rfl) | rfl | (simp only [List.length_drop, List.length_take]; rfl)) ?_; (with_reducible refine (target_Parse.calls kj26 (rdOf ByteArray.empty y216 (ji24)) t222 t223 t224 t225 t226 t227 t228 _ A36.out).mono ?_); rintro e w51 ⟨rfl, hb⟩; refine ⟨_, rfl, ?_⟩; have n0_ := Aside0.mk (blk_below (g := gb220) (o := .cells #[.int .i64 1, .string (⟨#[]⟩ : ByteArray), .string x9_2, .string x221003_26, .bool x221004_26] 27 (0, 0)) (by (with_reducible repeat (first | refine blk_drewN ?_ _ | refine blk_drew ?_ | refine blk_alloc ?_ _)); exact BK220.out) hb); have n1_ := Aside0.mk (blk_below (g := gb221) (o := .cells #[.int .i64 2, .string (⟨#[104, 46, 111, 114, 103, 58, 56]⟩ : ByteArray), .string x9_2, .string x221003_26, .bool x221004_26] 27 (0, 0)) (by (with_reducible repeat (first | refine blk_drewN ?_ _ | refine blk_drew ?_ | refine blk_alloc ?_ _)); exact BK221.out) hb); have n2_ := Aside0.mk (below_step (by repeat (first | (with_reducible first | exact HB.out | apply below_alloc | apply pw_below_drewN | apply below_drew1 | refine below_set ?_ GE220.out | refine below_set ?_ GE221.out) | exact HB.out)) hb); clear BK220; clear BK221; clear HB; have BK220 := n0_; have BK221 := n1_; have HB := n2_; clear n0_ n1_ n2_; (try clear hb); (try clear hb2); (try clear hk); (try clear hi)) | ((with_reducible refine gate_dst (N := 14) rfl ?_); (try (refine gate_guard (by rfl) ?_; dsimp only)); refine box_event ?hg (N := 14) ?hd (cs := #[.int .i64 0, .string (⟨#[]⟩ : ByteArray), .string (⟨#[]⟩ : ByteArray), .string (⟨#[]⟩ : ByteArray), .bool false]) (t := 27) ?hr ?_; (case hd => rfl); (case hg => rfl); (case hr => first | (go_simp; done) | (go_simp; rfl)); intro gb229 hg w52 hbox hb; have n0_ := Aside0.mk (blk_below (g := gb220) (o := .cells #[.int .i64 1, .string (⟨#[]⟩ : ByteArray), .string x9_2, .string x221003_26, .bool x221004_26] 27 (0, 0)) (by (with_reducible repeat (first | refine blk_drewN ?_ _ | refine blk_drew ?_ | refine blk_alloc ?_ _)); exact BK220.out) hb); have n1_ := Aside0.mk (blk_below (g := gb221) (o := .cells #[.int .i64 2, .string (⟨#[104, 46, 111, 114, 103, 58, 56]⟩ : ByteArray), .string x9_2, .string x221003_26, .bool x221004_26] 27 (0, 0)) (by (with_reducible repeat (first | refine blk_drewN ?_ _ | refine blk_drew ?_ | refine blk_alloc ?_ _)); exact BK221.out) hb); have n2_ := Aside0.mk (below_step (by repeat (first | (with_reducible first | exact HB.out | apply below_alloc | apply pw_below_drewN | apply below_drew1 | refine below_set ?_ GE220.out | refine below_set ?_ GE221.out) | exact HB.out)) hb); have n3_ := Aside0.mk (hbox); have n4_ := Aside0.mk ((by rw [hg]; exact (below_size (by repeat (first | (with_reducible first | exact HB.out | apply below_alloc | apply pw_below_drewN | apply below_drew1 | refine below_set ?_ GE220.out | refine below_set ?_ GE221.out) | exact HB.out))) : w.heap.size ≤ gb229)); have n5_ := Aside0.mk ((by rw [hg]; exact (below_size (by repeat (first | (with_reducible first | exact HB.out | apply below_alloc | apply pw_below_drewN | apply below_drew1 | refine below_set ?_ GE220.out | refine below_set ?_ GE221.out) | exact HB.out))) : w.heap.size ≤ gb229)); have n6_ := Aside0.mk ((by rw [hg]; exact Nat.ne_of_lt (blk_lt (g := gb220) (o := .cells #[.int .i64 1, .string (⟨#[]⟩ : ByteArray), .string x9_2, .string x221003_26, .bool x221004_26] 27 (0, 0)) (by (with_reducible repeat (first | refine blk_drewN ?_ _ | refine blk_drew ?_ | refine blk_alloc ?_ _)); exact BK220.out)) : gb220 ≠ gb229)); have n7_ := Aside0.mk ((by rw [hg]; exact Nat.ne_of_gt (blk_lt (g := gb220) (o := .cells #[.int .i64 1, .string (⟨#[]⟩ : ByteArray), .string x9_2, .string x221003_26, .bool x221004_26] 27 (0, 0)) (by (with_reducible repeat (first | refine blk_drewN ?_ _ | refine blk_drew ?_ | refine blk_alloc ?_ _)); exact BK220.out)) : gb229 ≠ gb220)); have n8_ := Aside0.mk ((by rw [hg]; exact Nat.ne_of_lt (blk_lt (g := gb221) (o := .cells #[.int .i64 2, .string (⟨#[104, 46, 111, 114, 103, 58, 56]⟩ : ByteArray), .string x9_2, .string x221003_26, .bool x221004_26] 27 (0, 0)) (by (with_reducible repeat (first | refine blk_drewN ?_ _ | refine blk_drew ?_ | refine blk_alloc ?_ _)); exact BK221.out)) : gb221 ≠ gb229)); have n9_ := Aside0.mk ((by rw [hg]; exact Nat.ne_of_gt (blk_lt (g := gb221) (o := .cells #[.int .i64 2, .string (⟨#[104, 46, 111, 114, 103, 58, 56]⟩ : ByteArray), .string x9_2, .string x221003_26, .bool x221004_26] 27 (0, 0)) (by (with_reducible repeat (first | refine blk_drewN ?_ _ | refine blk_drew ?_ | refine blk_alloc ?_ _)); exact BK221.out)) : gb229 ≠ gb221)); clear BK220; clear BK221; clear HB; have BK220 := n0_; have BK221 := n1_; have HB := n2_; have BK229 := n3_; have GW229 := n4_; have GE229 := n5_; have NB220_229 := n6_; have NB229_220 := n7_; have NB221_229 := n8_; have NB229_221 := n9_; clear n0_ n1_ n2_ n3_ n4_ n5_ n6_ n7_ n8_ n9_; clear hb hbox hg; have hnb53 := NB229_220.out; have hnc53 := NB220_229.out; have hnb54 := NB229_221.out; have hnc54 := NB221_229.out; have hcz55_0 : w52.cell? ⟨gb229, 0, none⟩ = some (.int .i64 0) := (blk_cell BK229.out 0).trans rfl; have hcz55_1 : w52.cell? ⟨gb229, 1, none⟩ = some (.string (⟨#[]⟩ : ByteArray)) := (blk_cell BK229.out 1).trans rfl; have hcz55_2 : w52.cell? ⟨gb229, 2, none⟩ = some (.string (⟨#[]⟩ : ByteArray)) := (blk_cell BK229.out 2).trans rfl; have hcz55_3 : w52.cell? ⟨gb229, 3, none⟩ = some (.string (⟨#[]⟩ : ByteArray)) := (blk_cell BK229.out 3).trans rfl; have hcz55_4 : w52.cell? ⟨gb229, 4, none⟩ = some (.bool false) := (blk_cell BK229.out 4).trans rfl; have hfz55_0 := blk_frozen BK229.out 0; have hfz55_1 := blk_frozen BK229.out 1; have hfz55_2 := blk_frozen BK229.out 2; have hfz55_3 := blk_frozen BK229.out 3; have hfz55_4 := blk_frozen BK229.out 4; have hcz56_0 : w52.cell? ⟨gb221, 0, none⟩ = some (.int .i64 2) := (blk_cell BK221.out 0).trans rfl; have hcz56_1 : w52.cell? ⟨gb221, 1, none⟩ = some (.string (⟨#[104, 46, 111, 114, 103, 58, 56]⟩ : ByteArray)) := (blk_cell BK221.out 1).trans rfl; have hcz56_2 : w52.cell? ⟨gb221, 2, none⟩ = some (.string x9_2) := (blk_cell BK221.out 2).trans rfl; have hcz56_3 : w52.cell? ⟨gb221, 3, none⟩ = some (.string x221003_26) := (blk_cell BK221.out 3).trans rfl; have hcz56_4 : w52.cell? ⟨gb221, 4, none⟩ = some (.bool x221004_26) := (blk_cell BK221.out 4).trans rfl; have hfz56_0 := blk_frozen BK221.out 0; have hfz56_1 := blk_frozen BK221.out 1; have hfz56_2 := blk_frozen BK221.out 2; have hfz56_3 := blk_frozen BK221.out 3; have hfz56_4 := blk_frozen BK221.out 4) | ((with_reducible refine gate_callee (f := 11) rfl ?_); refine goesL_ (some 79) rfl rfl Try.func11 (by kernel_rfl) rfl #[.agg #[.int .i64 2, .string (⟨#[104, 46, 111, 114, 103, 58, 56]⟩ : ByteArray), .string x9_2, .string x221003_26, .bool x221004_26]] rfl (by (try simp only [List.map_toArray, List.map_cons, List.map_nil]); first | done | rfl | (simp only [List.length_drop, List.length_take]; rfl)) ?_; (with_reducible refine (target_Put.calls kj26 2 (⟨#[104, 46, 111, 114, 103, 58, 56]⟩ : ByteArray) x9_2 x221003_26 x221004_26 t230 _ A37.out).mono ?_); rintro e w57 ⟨rfl, hb⟩; refine ⟨_, rfl, ?_⟩; have n0_ := Aside0.mk (blk_below (g := gb220) (o := .cells #[.int .i64 1, .string (⟨#[]⟩ : ByteArray), .string x9_2, .string x221003_26, .bool x221004_26] 27 (0, 0)) (by (repeat ((with_reducible repeat (first | refine blk_drewN ?_ _ | refine blk_drew ?_ | refine blk_alloc ?_ _)); refine blk_far ?_ NB220_229.out _)); (with_reducible repeat (first | refine blk_drewN ?_ _ | refine blk_drew ?_ | refine blk_alloc ?_ _)); exact BK220.out) hb); have n1_ := Aside0.mk (blk_below (g := gb221) (o := .cells #[.int .i64 2, .string (⟨#[104, 46, 111, 114, 103, 58, 56]⟩ : ByteArray), .string x9_2, .string x221003_26, .bool x221004_26] 27 (0, 0)) (by (repeat ((with_reducible repeat (first | refine blk_drewN ?_ _ | refine blk_drew ?_ | refine blk_alloc ?_ _)); refine blk_far ?_ NB221_229.out _)); (with_reducible repeat (first | refine blk_drewN ?_ _ | refine blk_drew ?_ | refine blk_alloc ?_ _)); exact BK221.out) hb); have n2_ := Aside0.mk (blk_below (g := gb229) (o := .cells #[.int .i64 t223, .string t224, .string t225, .string t226, .bool t227] 27 (0, 0)) (by (with_reducible repeat (first | refine blk_drewN ?_ _ | refine blk_drew ?_ | refine blk_alloc ?_ _)); refine blk_put (cs := #[.int .i64 t223, .string t224, .string t225, .string t226, .bool false]) ?_ 4 _ rfl; (with_reducible repeat (first | refine blk_drewN ?_ _ | refine blk_drew ?_ | refine blk_alloc ?_ _)); refine blk_put (cs := #[.int .i64 t223, .string t224, .string t225, .string (⟨#[]⟩ : ByteArray), .bool false]) ?_ 3 _ rfl; (with_reducible repeat (first | refine blk_drewN ?_ _ | refine blk_drew ?_ | refine blk_alloc ?_ _)); refine blk_put (cs := #[.int .i64 t223, .string t224, .string (⟨#[]⟩ : ByteArray), .string (⟨#[]⟩ : ByteArray), .bool false]) ?_ 2 _ rfl; (with_reducible repeat (first | refine blk_drewN ?_ _ | refine blk_drew ?_ | refine blk_alloc ?_ _)); refine blk_put (cs := #[.int .i64 t223, .string (⟨#[]⟩ : ByteArray), .string (⟨#[]⟩ : ByteArray), .string (⟨#[]⟩ : ByteArray), .bool false]) ?_ 1 _ rfl; (with_reducible repeat (first | refine blk_drewN ?_ _ | refine blk_drew ?_ | refine blk_alloc ?_ _)); refine blk_put (cs := #[.int .i64 0, .string (⟨#[]⟩ : ByteArray), .string (⟨#[]⟩ : ByteArray), .string (⟨#[]⟩ : ByteArray), .bool false]) ?_ 0 _ rfl; (with_reducible repeat (first | refine blk_drewN ?_ _ | refine blk_drew ?_ | refine blk_alloc ?_ _)); exact BK229.out) hb); have n3_ := Aside0.mk (below_step (by repeat (first | (with_reducible first | exact HB.out | apply below_alloc | apply pw_below_drewN | apply below_drew1 | refine below_set ?_ GE220.out | refine below_set ?_ GE221.out | refine below_set ?_ GE229.out) | exact HB.out)) hb); clear BK220; clear BK221; clear BK229; clear HB; have BK220 := n0_; have BK221 := n1_; have BK229 := n2_; have HB := n3_; clear n0_ n1_ n2_ n3_; (try clear hb); (try clear hb2); (try clear hk); (try clear hi)) | ((with_reducible refine gate_callee (f := 9) rfl ?_); refine goesL_ (some 80) rfl rfl Try.func9 (by kernel_rfl) rfl #[.string (rdOf ByteArray.empty y216 (ji24)), .string t230] rfl (by (try simp only [List.map_toArray, List.map_cons, List.map_nil]); first | done | (simp only [hji24]; rfl) | rfl | (simp only [List.length_drop, List.length_take]; rfl)) ?_; (with_reducible refine (target_Parse.calls kj26 (rdOf ByteArray.empty y216 (ji24)) t230 t231 t232 t233 t234 t235 t236 _ A38.out).mono ?_); rintro e w58 ⟨rfl, hb⟩; refine ⟨_, rfl, ?_⟩; have n0_ := Aside0.mk (blk_below (g := gb220) (o := .cells #[.int .i64 1, .string (⟨#[]⟩ : ByteArray), .string x9_2, .string x221003_26, .bool x221004_26] 27 (0, 0)) (by (with_reducible repeat (first | refine blk_drewN ?_ _ | refine blk_drew ?_ | refine blk_alloc ?_ _)); exact BK220.out) hb); have n1_ := Aside0.mk (blk_below (g := gb221) (o := .cells #[.int .i64 2, .string (⟨#[104, 46, 111, 114, 103, 58, 56]⟩ : ByteArray), .string x9_2, .string x221003_26, .bool x221004_26] 27 (0, 0)) (by (with_reducible repeat (first | refine blk_drewN ?_ _ | refine blk_drew ?_ | refine blk_alloc ?_ _)); exact BK221.out) hb); have n2_ := Aside0.mk (blk_below (g := gb229) (o := .cells #[.int .i64 t223, .string t224, .string t225, .string t226, .bool t227] 27 (0, 0)) (by (with_reducible repeat (first | refine blk_drewN ?_ _ | refine blk_drew ?_ | refine blk_alloc ?_ _)); exact BK229.out) hb); have n3_ := Aside0.mk (below_step (by repeat (first | (with_reducible first | exact HB.out | apply below_alloc | apply pw_below_drewN | apply below_drew1 | refine below_set ?_ GE220.out | refine below_set ?_ GE221.out | refine below_set ?_ GE229.out) | exact HB.out)) hb); clear BK220; clear BK221; clear BK229; clear HB; have BK220 := n0_; have BK221 := n1_; have BK229 := n2_; have HB := n3_; clear n0_ n1_ n2_ n3_; (try clear hb); (try clear hb2); (try clear hk); (try clear hi)) | ((with_reducible refine gate_dst (N := 16) rfl ?_); (try (refine gate_guard (by rfl) ?_; dsimp only)); refine box_event ?hg (N := 16) ?hd (cs := #[.int .i64 0, .string (⟨#[]⟩ : ByteArray), .string (⟨#[]⟩ : ByteArray), .string (⟨#[]⟩ : ByteArray), .bool false]) (t := 27) ?hr ?_; (case hd => rfl); (case hg => rfl); (case hr => first | (go_simp; done) | (go_simp; rfl)); intro gb237 hg w59 hbox hb; have n0_ := Aside0.mk (blk_below (g := gb220) (o := .cells #[.int .i64 1, .string (⟨#[]⟩ : ByteArray), .string x9_2, .string x221003_26, .bool x221004_26] 27 (0, 0)) (by (with_reducible repeat (first | refine blk_drewN ?_ _ | refine blk_drew ?_ | refine blk_alloc ?_ _)); exact BK220.out) hb); have n1_ := Aside0.mk (blk_below (g := gb221) (o := .cells #[.int .i64 2, .string (⟨#[104, 46, 111, 114, 103, 58, 56]⟩ : ByteArray), .string x9_2, .string x221003_26, .bool x221004_26] 27 (0, 0)) (by (with_reducible repeat (first | refine blk_drewN ?_ _ | refine blk_drew ?_ | refine blk_alloc ?_ _)); exact BK221.out) hb); have n2_ := Aside0.mk (blk_below (g := gb229) (o := .cells #[.int .i64 t223, .string t224, .string t225, .string t226, .bool t227] 27 (0, 0)) (by (with_reducible repeat (first | refine blk_drewN ?_ _ | refine blk_drew ?_ | refine blk_alloc ?_ _)); exact BK229.out) hb); have n3_ := Aside0.mk (below_step (by repeat (first | (with_reducible first | exact HB.out | apply below_alloc | apply pw_below_drewN | apply below_drew1 | refine below_set ?_ GE220.out | refine below_set ?_ GE221.out | refine below_set ?_ GE229.out) | exact HB.out)) hb); have n4_ := Aside0.mk (hbox); have n5_ := Aside0.mk ((by rw [hg]; exact (below_size (by repeat (first | (with_reducible first | exact HB.out | apply below_alloc | apply pw_below_drewN | apply below_drew1 | refine below_set ?_ GE220.out | refine below_set ?_ GE221.out | refine below_set ?_ GE229.out) | exact HB.out))) : w.heap.size ≤ gb237)); have n6_ := Aside0.mk ((by rw [hg]; exact (below_size (by repeat (first | (with_reducible first | exact HB.out | apply below_alloc | apply pw_below_drewN | apply below_drew1 | refine below_set ?_ GE220.out | refine below_set ?_ GE221.out | refine below_set ?_ GE229.out) | exact HB.out))) : w.heap.size ≤ gb237)); have n7_ := Aside0.mk ((by rw [hg]; exact Nat.ne_of_lt (blk_lt (g := gb220) (o := .cells #[.int .i64 1, .string (⟨#[]⟩ : ByteArray), .string x9_2, .string x221003_26, .bool x221004_26] 27 (0, 0)) (by (with_reducible repeat (first | refine blk_drewN ?_ _ | refine blk_drew ?_ | refine blk_alloc ?_ _)); exact BK220.out)) : gb220 ≠ gb237)); have n8_ := Aside0.mk ((by rw [hg]; exact Nat.ne_of_gt (blk_lt (g := gb220) (o := .cells #[.int .i64 1, .string (⟨#[]⟩ : ByteArray), .string x9_2, .string x221003_26, .bool x221004_26] 27 (0, 0)) (by (with_reducible repeat (first | refine blk_drewN ?_ _ | refine blk_drew ?_ | refine blk_alloc ?_ _)); exact BK220.out)) : gb237 ≠ gb220)); have n9_ := Aside0.mk ((by rw [hg]; exact Nat.ne_of_lt (blk_lt (g := gb221) (o := .cells #[.int .i64 2, .string (⟨#[104, 46, 111, 114, 103, 58, 56]⟩ : ByteArray), .string x9_2, .string x221003_26, .bool x221004_26] 27 (0, 0)) (by (with_reducible repeat (first | refine blk_drewN ?_ _ | refine blk_drew ?_ | refine blk_alloc ?_ _)); exact BK221.out)) : gb221 ≠ gb237)); have n10_ := Aside0.mk ((by rw [hg]; exact Nat.ne_of_gt (blk_lt (g := gb221) (o := .cells #[.int .i64 2, .string (⟨#[104, 46, 111, 114, 103, 58, 56]⟩ : ByteArray), .string x9_2, .string x221003_26, .bool x221004_26] 27 (0, 0)) (by (with_reducible repeat (first | refine blk_drewN ?_ _ | refine blk_drew ?_ | refine blk_alloc ?_ _)); exact BK221.out)) : gb237 ≠ gb221)); have n11_ := Aside0.mk ((by rw [hg]; exact Nat.ne_of_lt (blk_lt (g := gb229) (o := .cells #[.int .i64 t223, .string t224, .string t225, .string t226, .bool t227] 27 (0, 0)) (by (with_reducible repeat (first | refine blk_drewN ?_ _ | refine blk_drew ?_ | refine blk_alloc ?_ _)); exact BK229.out)) : gb229 ≠ gb237)); have n12_ := Aside0.mk ((by rw [hg]; exact Nat.ne_of_gt (blk_lt (g := gb229) (o := .cells #[.int .i64 t223, .string t224, .string t225, .string t226, .bool t227] 27 (0, 0)) (by (with_reducible repeat (first | refine blk_drewN ?_ _ | refine blk_drew ?_ | refine blk_alloc ?_ _)); exact BK229.out)) : gb237 ≠ gb229)); clear BK220; clear BK221; clear BK229; clear HB; have BK220 := n0_; have BK221 := n1_; have BK229 := n2_; have HB := n3_; have BK237 := n4_; have GW237 := n5_; have GE237 := n6_; have NB220_237 := n7_; have NB237_220 := n8_; have NB221_237 := n9_; have NB237_221 := n10_; have NB229_237 := n11_; have NB237_229 := n12_; clear n0_ n1_ n2_ n3_ n4_ n5_ n6_ n7_ n8_ n9_ n10_ n11_ n12_; clear hb hbox hg; have hnb60 := NB237_220.out; have hnc60 := NB220_237.out; have hnb61 := NB237_221.out; have hnc61 := NB221_237.out; have hnb62 := NB237_229.out; have hnc62 := NB229_237.out; have hcz63_0 : w59.cell? ⟨gb237, 0, none⟩ = some (.int .i64 0) := (blk_cell BK237.out 0).trans rfl; have hcz63_1 : w59.cell? ⟨gb237, 1, none⟩ = some (.string (⟨#[]⟩ : ByteArray)) := (blk_cell BK237.out 1).trans rfl; have hcz63_2 : w59.cell? ⟨gb237, 2, none⟩ = some (.string (⟨#[]⟩ : ByteArray)) := (blk_cell BK237.out 2).trans rfl; have hcz63_3 : w59.cell? ⟨gb237, 3, none⟩ = some (.string (⟨#[]⟩ : ByteArray)) := (blk_cell BK237.out 3).trans rfl; have hcz63_4 : w59.cell? ⟨gb237, 4, none⟩ = some (.bool false) := (blk_cell BK237.out 4).trans rfl; have hfz63_0 := blk_frozen BK237.out 0; have hfz63_1 := blk_frozen BK237.out 1; have hfz63_2 := blk_frozen BK237.out 2; have hfz63_3 := blk_frozen BK237.out 3; have hfz63_4 := blk_frozen BK237.out 4) | ((with_reducible refine gate_callee (f := 9) rfl ?_); refine goesL_ (some 84) rfl rfl Try.func9 (by kernel_rfl) rfl #[.string (⟨#[67, 79, 78, 78, 69, 67, 84]⟩ : ByteArray), .string (⟨#[104, 46, 111, 114, 103, 58, 56]⟩ : ByteArray)] rfl (by (try simp only [List.map_toArray, List.map_cons, List.map_nil]); first | done | rfl | (simp only [List.length_drop, List.length_take]; rfl)) ?_; (with_reducible refine (target_Parse.calls kj26 (⟨#[67, 79, 78, 78, 69, 67, 84]⟩ : ByteArray) (⟨#[104, 46, 111, 114, 103, 58, 56]⟩ : ByteArray) t238 t239 t240 t241 t242 t243 _ A39.out).mono ?_); rintro e w64 ⟨rfl, hb⟩; refine ⟨_, rfl, ?_⟩; have n0_ := Aside0.mk (blk_below (g := gb220) (o := .cells #[.int .i64 1, .string (⟨#[]⟩ : ByteArray), .string x9_2, .string x221003_26, .bool x221004_26] 27 (0, 0)) (by (repeat ((with_reducible repeat (first | refine blk_drewN ?_ _ | refine blk_drew ?_ | refine blk_alloc ?_ _)); refine blk_far ?_ NB220_237.out _)); (with_reducible repeat (first | refine blk_drewN ?_ _ | refine blk_drew ?_ | refine blk_alloc ?_ _)); exact BK220.out) hb); have n1_ := Aside0.mk (blk_below (g := gb221) (o := .cells #[.int .i64 2, .string (⟨#[104, 46, 111, 114, 103, 58, 56]⟩ : ByteArray), .string x9_2, .string x221003_26, .bool x221004_26] 27 (0, 0)) (by (repeat ((with_reducible repeat (first | refine blk_drewN ?_ _ | refine blk_drew ?_ | refine blk_alloc ?_ _)); refine blk_far ?_ NB221_237.out _)); (with_reducible repeat (first | refine blk_drewN ?_ _ | refine blk_drew ?_ | refine blk_alloc ?_ _)); exact BK221.out) hb); have n2_ := Aside0.mk (blk_below (g := gb229) (o := .cells #[.int .i64 t223, .string t224, .string t225, .string t226, .bool t227] 27 (0, 0)) (by (repeat ((with_reducible repeat (first | refine blk_drewN ?_ _ | refine blk_drew ?_ | refine blk_alloc ?_ _)); refine blk_far ?_ NB229_237.out _)); (with_reducible repeat (first | refine blk_drewN ?_ _ | refine blk_drew ?_ | refine blk_alloc ?_ _)); exact BK229.out) hb); have n3_ := Aside0.mk (blk_below (g := gb237) (o := .cells #[.int .i64 t231, .string t232, .string t233, .string t234, .bool t235] 27 (0, 0)) (by (with_reducible repeat (first | refine blk_drewN ?_ _ | refine blk_drew ?_ | refine blk_alloc ?_ _)); refine blk_put (cs := #[.int .i64 t231, .string t232, .string t233, .string t234, .bool false]) ?_ 4 _ rfl; (with_reducible repeat (first | refine blk_drewN ?_ _ | refine blk_drew ?_ | refine blk_alloc ?_ _)); refine blk_put (cs := #[.int .i64 t231, .string t232, .string t233, .string (⟨#[]⟩ : ByteArray), .bool false]) ?_ 3 _ rfl; (with_reducible repeat (first | refine blk_drewN ?_ _ | refine blk_drew ?_ | refine blk_alloc ?_ _)); refine blk_put (cs := #[.int .i64 t231, .string t232, .string (⟨#[]⟩ : ByteArray), .string (⟨#[]⟩ : ByteArray), .bool false]) ?_ 2 _ rfl; (with_reducible repeat (first | refine blk_drewN ?_ _ | refine blk_drew ?_ | refine blk_alloc ?_ _)); refine blk_put (cs := #[.int .i64 t231, .string (⟨#[]⟩ : ByteArray), .string (⟨#[]⟩ : ByteArray), .string (⟨#[]⟩ : ByteArray), .bool false]) ?_ 1 _ rfl; (with_reducible repeat (first | refine blk_drewN ?_ _ | refine blk_drew ?_ | refine blk_alloc ?_ _)); refine blk_put (cs := #[.int .i64 0, .string (⟨#[]⟩ : ByteArray), .string (⟨#[]⟩ : ByteArray), .string (⟨#[]⟩ : ByteArray), .bool false]) ?_ 0 _ rfl; (with_reducible repeat (first | refine blk_drewN ?_ _ | refine blk_drew ?_ | refine blk_alloc ?_ _)); exact BK237.out) hb); have n4_ := Aside0.mk (below_step (by repeat (first | (with_reducible first | exact HB.out | apply below_alloc | apply pw_below_drewN | apply below_drew1 | refine below_set ?_ GE220.out | refine below_set ?_ GE221.out | refine below_set ?_ GE229.out | refine below_set ?_ GE237.out) | exact HB.out)) hb); clear BK220; clear BK221; clear BK229; clear BK237; clear HB; have BK220 := n0_; have BK221 := n1_; have BK229 := n2_; have BK237 := n3_; have HB := n4_; clear n0_ n1_ n2_ n3_ n4_; (try clear hb); (try clear hb2); (try clear hk); (try clear hi)) | ((with_reducible refine gate_dst (N := 18) rfl ?_); (try (refine gate_guard (by rfl) ?_; dsimp only)); refine box_event ?hg (N := 18) ?hd (cs := #[.int .i64 0, .string (⟨#[]⟩ : ByteArray), .string (⟨#[]⟩ : ByteArray), .string (⟨#[]⟩ : ByteArray), .bool false]) (t := 27) ?hr ?_; (case hd => rfl); (case hg => rfl); (case hr => first | (go_simp; done) | (go_simp; rfl)); intro gb244 hg w65 hbox hb; have n0_ := Aside0.mk (blk_below (g := gb220) (o := .cells #[.int .i64 1, .string (⟨#[]⟩ : ByteArray), .string x9_2, .string x221003_26, .bool x221004_26] 27 (0, 0)) (by (with_reducible repeat (first | refine blk_drewN ?_ _ | refine blk_drew ?_ | refine blk_alloc ?_ _)); exact BK220.out) hb); have n1_ := Aside0.mk (blk_below (g := gb221) (o := .cells #[.int .i64 2, .string (⟨#[104, 46, 111, 114, 103, 58, 56]⟩ : ByteArray), .string x9_2, .string x221003_26, .bool x221004_26] 27 (0, 0)) (by (with_reducible repeat (first | refine blk_drewN ?_ _ | refine blk_drew ?_ | refine blk_alloc ?_ _)); exact BK221.out) hb); have n2_ := Aside0.mk (blk_below (g := gb229) (o := .cells #[.int .i64 t223, .string t224, .string t225, .string t226, .bool t227] 27 (0, 0)) (by (with_reducible repeat (first | refine blk_drewN ?_ _ | refine blk_drew ?_ | refine blk_alloc ?_ _)); exact BK229.out) hb); have n3_ := Aside0.mk (blk_below (g := gb237) (o := .cells #[.int .i64 t231, .string t232, .string t233, .string t234, .bool t235] 27 (0, 0)) (by (with_reducible repeat (first | refine blk_drewN ?_ _ | refine blk_drew ?_ | refine blk_alloc ?_ _)); exact BK237.out) hb); have n4_ := Aside0.mk (below_step (by repeat (first | (with_reducible first | exact HB.out | apply below_alloc | apply pw_below_drewN | apply below_drew1 | refine below_set ?_ GE220.out | refine below_set ?_ GE221.out | refine below_set ?_ GE229.out | refine below_set ?_ GE237.out) | exact HB.out)) hb); have n5_ := Aside0.mk (hbox); have n6_ := Aside0.mk ((by rw [hg]; exact (below_size (by repeat (first | (with_reducible first | exact HB.out | apply below_alloc | apply pw_below_drewN | apply below_drew1 | refine below_set ?_ GE220.out | refine below_set ?_ GE221.out | refine below_set ?_ GE229.out | refine below_set ?_ GE237.out) | exact HB.out))) : w.heap.size ≤ gb244)); have n7_ := Aside0.mk ((by rw [hg]; exact (below_size (by repeat (first | (with_reducible first | exact HB.out | apply below_alloc | apply pw_below_drewN | apply below_drew1 | refine below_set ?_ GE220.out | refine below_set ?_ GE221.out | refine below_set ?_ GE229.out | refine below_set ?_ GE237.out) | exact HB.out))) : w.heap.size ≤ gb244)); have n8_ := Aside0.mk ((by rw [hg]; exact Nat.ne_of_lt (blk_lt (g := gb220) (o := .cells #[.int .i64 1, .string (⟨#[]⟩ : ByteArray), .string x9_2, .string x221003_26, .bool x221004_26] 27 (0, 0)) (by (with_reducible repeat (first | refine blk_drewN ?_ _ | refine blk_drew ?_ | refine blk_alloc ?_ _)); exact BK220.out)) : gb220 ≠ gb244)); have n9_ := Aside0.mk ((by rw [hg]; exact Nat.ne_of_gt (blk_lt (g := gb220) (o := .cells #[.int .i64 1, .string (⟨#[]⟩ : ByteArray), .string x9_2, .string x221003_26, .bool x221004_26] 27 (0, 0)) (by (with_reducible repeat (first | refine blk_drewN ?_ _ | refine blk_drew ?_ | refine blk_alloc ?_ _)); exact BK220.out)) : gb244 ≠ gb220)); have n10_ := Aside0.mk ((by rw [hg]; exact Nat.ne_of_lt (blk_lt (g := gb221) (o := .cells #[.int .i64 2, .string (⟨#[104, 46, 111, 114, 103, 58, 56]⟩ : ByteArray), .string x9_2, .string x221003_26, .bool x221004_26] 27 (0, 0)) (by (with_reducible repeat (first | refine blk_drewN ?_ _ | refine blk_drew ?_ | refine blk_alloc ?_ _)); exact BK221.out)) : gb221 ≠ gb244)); have n11_ := Aside0.mk ((by rw [hg]; exact Nat.ne_of_gt (blk_lt (g := gb221) (o := .cells #[.int .i64 2, .string (⟨#[104, 46, 111, 114, 103, 58, 56]⟩ : ByteArray), .string x9_2, .string x221003_26, .bool x221004_26] 27 (0, 0)) (by (with_reducible repeat (first | refine blk_drewN ?_ _ | refine blk_drew ?_ | refine blk_alloc ?_ _)); exact BK221.out)) : gb244 ≠ gb221)); have n12_ := Aside0.mk ((by rw [hg]; exact Nat.ne_of_lt (blk_lt (g := gb229) (o := .cells #[.int .i64 t223, .string t224, .string t225, .string t226, .bool t227] 27 (0, 0)) (by (with_reducible repeat (first | refine blk_drewN ?_ _ | refine blk_drew ?_ | refine blk_alloc ?_ _)); exact BK229.out)) : gb229 ≠ gb244)); have n13_ := Aside0.mk ((by rw [hg]; exact Nat.ne_of_gt (blk_lt (g := gb229) (o := .cells #[.int .i64 t223, .string t224, .string t225, .string t226, .bool t227] 27 (0, 0)) (by (with_reducible repeat (first | refine blk_drewN ?_ _ | refine blk_drew ?_ | refine blk_alloc ?_ _)); exact BK229.out)) : gb244 ≠ gb229)); have n14_ := Aside0.mk ((by rw [hg]; exact Nat.ne_of_lt (blk_lt (g := gb237) (o := .cells #[.int .i64 t231, .string t232, .string t233, .string t234, .bool t235] 27 (0, 0)) (by (with_reducible repeat (first | refine blk_drewN ?_ _ | refine blk_drew ?_ | refine blk_alloc ?_ _)); exact BK237.out)) : gb237 ≠ gb244)); have n15_ := Aside0.mk ((by rw [hg]; exact Nat.ne_of_gt (blk_lt (g := gb237) (o := .cells #[.int .i64 t231, .string t232, .string t233, .string t234, .bool t235] 27 (0, 0)) (by (with_reducible repeat (first | refine blk_drewN ?_ _ | refine blk_drew ?_ | refine blk_alloc ?_ _)); exact BK237.out)) : gb244 ≠ gb237)); clear BK220; clear BK221; clear BK229; clear BK237; clear HB; have BK220 := n0_; have BK221 := n1_; have BK229 := n2_; have BK237 := n3_; have HB := n4_; have BK244 := n5_; have GW244 := n6_; have GE244 := n7_; have NB220_244 := n8_; have NB244_220 := n9_; have NB221_244 := n10_; have NB244_221 := n11_; have NB229_244 := n12_; have NB244_229 := n13_; have NB237_244 := n14_; have NB244_237 := n15_; clear n0_ n1_ n2_ n3_ n4_ n5_ n6_ n7_ n8_ n9_ n10_ n11_ n12_ n13_ n14_ n15_; clear hb hbox hg; have hnb66 := NB244_220.out; have hnc66 := NB220_244.out; have hnb67 := NB244_221.out; have hnc67 := NB221_244.out; have hnb68 := NB244_229.out; have hnc68 := NB229_244.out; have hnb69 := NB244_237.out; have hnc69 := NB237_244.out; have hcz70_0 : w65.cell? ⟨gb244, 0, none⟩ = some (.int .i64 0) := (blk_cell BK244.out 0).trans rfl; have hcz70_1 : w65.cell? ⟨gb244, 1, none⟩ = some (.string (⟨#[]⟩ : ByteArray)) := (blk_cell BK244.out 1).trans rfl; have hcz70_2 : w65.cell? ⟨gb244, 2, none⟩ = some (.string (⟨#[]⟩ : ByteArray)) := (blk_cell BK244.out 2).trans rfl; have hcz70_3 : w65.cell? ⟨gb244, 3, none⟩ = some (.string (⟨#[]⟩ : ByteArray)) := (blk_cell BK244.out 3).trans rfl; have hcz70_4 : w65.cell? ⟨gb244, 4, none⟩ = some (.bool false) := (blk_cell BK244.out 4).trans rfl; have hfz70_0 := blk_frozen BK244.out 0; have hfz70_1 := blk_frozen BK244.out 1; have hfz70_2 := blk_frozen BK244.out 2; have hfz70_3 := blk_frozen BK244.out 3; have hfz70_4 := blk_frozen BK244.out 4; have hcz71_0 : w65.cell? ⟨gb220, 0, none⟩ = some (.int .i64 1) := (blk_cell BK220.out 0).trans rfl; have hcz71_1 : w65.cell? ⟨gb220, 1, none⟩ = some (.string (⟨#[]⟩ : ByteArray)) := (blk_cell BK220.out 1).trans rfl; have hcz71_2 : w65.cell? ⟨gb220, 2, none⟩ = some (.string x9_2) := (blk_cell BK220.out 2).trans rfl; have hcz71_3 : w65.cell? ⟨gb220, 3, none⟩ = some (.string x221003_26) := (blk_cell BK220.out 3).trans rfl; have hcz71_4 : w65.cell? ⟨gb220, 4, none⟩ = some (.bool x221004_26) := (blk_cell BK220.out 4).trans rfl; have hfz71_0 := blk_frozen BK220.out 0; have hfz71_1 := blk_frozen BK220.out 1; have hfz71_2 := blk_frozen BK220.out 2; have hfz71_3 := blk_frozen BK220.out 3; have hfz71_4 := blk_frozen BK220.out 4) | ((with_reducible refine gate_callee (f := 11) rfl ?_); refine goesL_ (some 89) rfl rfl Try.func11 (by kernel_rfl) rfl #[.agg #[.int .i64 1, .string (⟨#[]⟩ : ByteArray), .string x9_2, .string x221003_26, .bool x221004_26]] rfl (by (try simp only [List.map_toArray, List.map_cons, List.map_nil]); first | done | rfl | (simp only [List.length_drop, List.length_take]; rfl)) ?_; (with_reducible refine (target_Put.calls kj26 1 (⟨#[]⟩ : ByteArray) x9_2 x221003_26 x221004_26 t222 _ A40.out).mono ?_); rintro e w72 ⟨rfl, hb⟩; refine ⟨_, rfl, ?_⟩; have n0_ := Aside0.mk (blk_below (g := gb220) (o := .cells #[.int .i64 1, .string (⟨#[]⟩ : ByteArray), .string x9_2, .string x221003_26, .bool x221004_26] 27 (0, 0)) (by (repeat ((with_reducible repeat (first | refine blk_drewN ?_ _ | refine blk_drew ?_ | refine blk_alloc ?_ _)); refine blk_far ?_ NB220_244.out _)); (with_reducible repeat (first | refine blk_drewN ?_ _ | refine blk_drew ?_ | refine blk_alloc ?_ _)); exact BK220.out) hb); have n1_ := Aside0.mk (blk_below (g := gb221) (o := .cells #[.int .i64 2, .string (⟨#[104, 46, 111, 114, 103, 58, 56]⟩ : ByteArray), .string x9_2, .string x221003_26, .bool x221004_26] 27 (0, 0)) (by (repeat ((with_reducible repeat (first | refine blk_drewN ?_ _ | refine blk_drew ?_ | refine blk_alloc ?_ _)); refine blk_far ?_ NB221_244.out _)); (with_reducible repeat (first | refine blk_drewN ?_ _ | refine blk_drew ?_ | refine blk_alloc ?_ _)); exact BK221.out) hb); have n2_ := Aside0.mk (blk_below (g := gb229) (o := .cells #[.int .i64 t223, .string t224, .string t225, .string t226, .bool t227] 27 (0, 0)) (by (repeat ((with_reducible repeat (first | refine blk_drewN ?_ _ | refine blk_drew ?_ | refine blk_alloc ?_ _)); refine blk_far ?_ NB229_244.out _)); (with_reducible repeat (first | refine blk_drewN ?_ _ | refine blk_drew ?_ | refine blk_alloc ?_ _)); exact BK229.out) hb); have n3_ := Aside0.mk (blk_below (g := gb237) (o := .cells #[.int .i64 t231, .string t232, .string t233, .string t234, .bool t235] 27 (0, 0)) (by (repeat ((with_reducible repeat (first | refine blk_drewN ?_ _ | refine blk_drew ?_ | refine blk_alloc ?_ _)); refine blk_far ?_ NB237_244.out _)); (with_reducible repeat (first | refine blk_drewN ?_ _ | refine blk_drew ?_ | refine blk_alloc ?_ _)); exact BK237.out) hb); have n4_ := Aside0.mk (blk_below (g := gb244) (o := .cells #[.int .i64 t238, .string t239, .string t240, .string t241, .bool t242] 27 (0, 0)) (by (with_reducible repeat (first | refine blk_drewN ?_ _ | refine blk_drew ?_ | refine blk_alloc ?_ _)); refine blk_put (cs := #[.int .i64 t238, .string t239, .string t240, .string t241, .bool false]) ?_ 4 _ rfl; (with_reducible repeat (first | refine blk_drewN ?_ _ | refine blk_drew ?_ | refine blk_alloc ?_ _)); refine blk_put (cs := #[.int .i64 t238, .string t239, .string t240, .string (⟨#[]⟩ : ByteArray), .bool false]) ?_ 3 _ rfl; (with_reducible repeat (first | refine blk_drewN ?_ _ | refine blk_drew ?_ | refine blk_alloc ?_ _)); refine blk_put (cs := #[.int .i64 t238, .string t239, .string (⟨#[]⟩ : ByteArray), .string (⟨#[]⟩ : ByteArray), .bool false]) ?_ 2 _ rfl; (with_reducible repeat (first | refine blk_drewN ?_ _ | refine blk_drew ?_ | refine blk_alloc ?_ _)); refine blk_put (cs := #[.int .i64 t238, .string (⟨#[]⟩ : ByteArray), .string (⟨#[]⟩ : ByteArray), .string (⟨#[]⟩ : ByteArray), .bool false]) ?_ 1 _ rfl; (with_reducible repeat (first | refine blk_drewN ?_ _ | refine blk_drew ?_ | refine blk_alloc ?_ _)); refine blk_put (cs := #[.int .i64 0, .string (⟨#[]⟩ : ByteArray), .string (⟨#[]⟩ : ByteArray), .string (⟨#[]⟩ : ByteArray), .bool false]) ?_ 0 _ rfl; (with_reducible repeat (first | refine blk_drewN ?_ _ | refine blk_drew ?_ | refine blk_alloc ?_ _)); exact BK244.out) hb); have n5_ := Aside0.mk (below_step (by repeat (first | (with_reducible first | exact HB.out | apply below_alloc | apply pw_below_drewN | apply below_drew1 | refine below_set ?_ GE220.out | refine below_set ?_ GE221.out | refine below_set ?_ GE229.out | refine below_set ?_ GE237.out | refine below_set ?_ GE244.out) | exact HB.out)) hb); clear BK220; clear BK221; clear BK229; clear BK237; clear BK244; clear HB; have BK220 := n0_; have BK221 := n1_; have BK229 := n2_; have BK237 := n3_; have BK244 := n4_; have HB := n5_; clear n0_ n1_ n2_ n3_ n4_ n5_; (try clear hb); (try clear hb2); (try clear hk); (try clear hi)) | ((with_reducible refine gate_callee (f := 9) rfl ?_); refine goesL_ (some 90) rfl rfl Try.func9 (by kernel_rfl) rfl #[.string (⟨#[67, 79, 78, 78, 69, 67, 84]⟩ : ByteArray), .string t222] rfl (by (try simp only [List.map_toArray, List.map_cons, List.map_nil]); first | done | rfl | (simp only [List.length_drop, List.length_take]; rfl)) ?_; (with_reducible refine (target_Parse.calls kj26 (⟨#[67, 79, 78, 78, 69, 67, 84]⟩ : ByteArray) t222 t246 t247 t248 t249 t250 t251 _ A41.out).mono ?_); rintro e w73 ⟨rfl, hb⟩; refine ⟨_, rfl, ?_⟩; have n0_ := Aside0.mk (blk_below (g := gb220) (o := .cells #[.int .i64 1, .string (⟨#[]⟩ : ByteArray), .string x9_2, .string x221003_26, .bool x221004_26] 27 (0, 0)) (by (with_reducible repeat (first | refine blk_drewN ?_ _ | refine blk_drew ?_ | refine blk_alloc ?_ _)); exact BK220.out) hb); have n1_ := Aside0.mk (blk_below (g := gb221) (o := .cells #[.int .i64 2, .string (⟨#[104, 46, 111, 114, 103, 58, 56]⟩ : ByteArray), .string x9_2, .string x221003_26, .bool x221004_26] 27 (0, 0)) (by (with_reducible repeat (first | refine blk_drewN ?_ _ | refine blk_drew ?_ | refine blk_alloc ?_ _)); exact BK221.out) hb); have n2_ := Aside0.mk (blk_below (g := gb229) (o := .cells #[.int .i64 t223, .string t224, .string t225, .string t226, .bool t227] 27 (0, 0)) (by (with_reducible repeat (first | refine blk_drewN ?_ _ | refine blk_drew ?_ | refine blk_alloc ?_ _)); exact BK229.out) hb); have n3_ := Aside0.mk (blk_below (g := gb237) (o := .cells #[.int .i64 t231, .string t232, .string t233, .string t234, .bool t235] 27 (0, 0)) (by (with_reducible repeat (first | refine blk_drewN ?_ _ | refine blk_drew ?_ | refine blk_alloc ?_ _)); exact BK237.out) hb); have n4_ := Aside0.mk (blk_below (g := gb244) (o := .cells #[.int .i64 t238, .string t239, .string t240, .string t241, .bool t242] 27 (0, 0)) (by (with_reducible repeat (first | refine blk_drewN ?_ _ | refine blk_drew ?_ | refine blk_alloc ?_ _)); exact BK244.out) hb); have n5_ := Aside0.mk (below_step (by repeat (first | (with_reducible first | exact HB.out | apply below_alloc | apply pw_below_drewN | apply below_drew1 | refine below_set ?_ GE220.out | refine below_set ?_ GE221.out | refine below_set ?_ GE229.out | refine below_set ?_ GE237.out | refine below_set ?_ GE244.out) | exact HB.out)) hb); clear BK220; clear BK221; clear BK229; clear BK237; clear BK244; clear HB; have BK220 := n0_; have BK221 := n1_; have BK229 := n2_; have BK237 := n3_; have BK244 := n4_; have HB := n5_; clear n0_ n1_ n2_ n3_ n4_ n5_; (try clear hb); (try clear hb2); (try clear hk); (try clear hi)) | ((with_reducible refine gate_dst (N := 20) rfl ?_); (try (refine gate_guard (by rfl) ?_; dsimp only)); refine box_event ?hg (N := 20) ?hd (cs := #[.int .i64 0, .string (⟨#[]⟩ : ByteArray), .string (⟨#[]⟩ : ByteArray), .string (⟨#[]⟩ : ByteArray), .bool false]) (t := 27) ?hr ?_; (case hd => rfl); (case hg => rfl); (case hr => first | (go_simp; done) | (go_simp; rfl)); intro gb252 hg w74 hbox hb; have n0_ := Aside0.mk (blk_below (g := gb220) (o := .cells #[.int .i64 1, .string (⟨#[]⟩ : ByteArray), .string x9_2, .string x221003_26, .bool x221004_26] 27 (0, 0)) (by (with_reducible repeat (first | refine blk_drewN ?_ _ | refine blk_drew ?_ | refine blk_alloc ?_ _)); exact BK220.out) hb); have n1_ := Aside0.mk (blk_below (g := gb221) (o := .cells #[.int .i64 2, .string (⟨#[104, 46, 111, 114, 103, 58, 56]⟩ : ByteArray), .string x9_2, .string x221003_26, .bool x221004_26] 27 (0, 0)) (by (with_reducible repeat (first | refine blk_drewN ?_ _ | refine blk_drew ?_ | refine blk_alloc ?_ _)); exact BK221.out) hb); have n2_ := Aside0.mk (blk_below (g := gb229) (o := .cells #[.int .i64 t223, .string t224, .string t225, .string t226, .bool t227] 27 (0, 0)) (by (with_reducible repeat (first | refine blk_drewN ?_ _ | refine blk_drew ?_ | refine blk_alloc ?_ _)); exact BK229.out) hb); have n3_ := Aside0.mk (blk_below (g := gb237) (o := .cells #[.int .i64 t231, .string t232, .string t233, .string t234, .bool t235] 27 (0, 0)) (by (with_reducible repeat (first | refine blk_drewN ?_ _ | refine blk_drew ?_ | refine blk_alloc ?_ _)); exact BK237.out) hb); have n4_ := Aside0.mk (blk_below (g := gb244) (o := .cells #[.int .i64 t238, .string t239, .string t240, .string t241, .bool t242] 27 (0, 0)) (by (with_reducible repeat (first | refine blk_drewN ?_ _ | refine blk_drew ?_ | refine blk_alloc ?_ _)); exact BK244.out) hb); have n5_ := Aside0.mk (below_step (by repeat (first | (with_reducible first | exact HB.out | apply below_alloc | apply pw_below_drewN | apply below_drew1 | refine below_set ?_ GE220.out | refine below_set ?_ GE221.out | refine below_set ?_ GE229.out | refine below_set ?_ GE237.out | refine below_set ?_ GE244.out) | exact HB.out)) hb); have n6_ := Aside0.mk (hbox); have n7_ := Aside0.mk ((by rw [hg]; exact (below_size (by repeat (first | (with_reducible first | exact HB.out | apply below_alloc | apply pw_below_drewN | apply below_drew1 | refine below_set ?_ GE220.out | refine below_set ?_ GE221.out | refine below_set ?_ GE229.out | refine below_set ?_ GE237.out | refine below_set ?_ GE244.out) | exact HB.out))) : w.heap.size ≤ gb252)); have n8_ := Aside0.mk ((by rw [hg]; exact (below_size (by repeat (first | (with_reducible first | exact HB.out | apply below_alloc | apply pw_below_drewN | apply below_drew1 | refine below_set ?_ GE220.out | refine below_set ?_ GE221.out | refine below_set ?_ GE229.out | refine below_set ?_ GE237.out | refine below_set ?_ GE244.out) | exact HB.out))) : w.heap.size ≤ gb252)); have n9_ := Aside0.mk ((by rw [hg]; exact Nat.ne_of_lt (blk_lt (g := gb220) (o := .cells #[.int .i64 1, .string (⟨#[]⟩ : ByteArray), .string x9_2, .string x221003_26, .bool x221004_26] 27 (0, 0)) (by (with_reducible repeat (first | refine blk_drewN ?_ _ | refine blk_drew ?_ | refine blk_alloc ?_ _)); exact BK220.out)) : gb220 ≠ gb252)); have n10_ := Aside0.mk ((by rw [hg]; exact Nat.ne_of_gt (blk_lt (g := gb220) (o := .cells #[.int .i64 1, .string (⟨#[]⟩ : ByteArray), .string x9_2, .string x221003_26, .bool x221004_26] 27 (0, 0)) (by (with_reducible repeat (first | refine blk_drewN ?_ _ | refine blk_drew ?_ | refine blk_alloc ?_ _)); exact BK220.out)) : gb252 ≠ gb220)); have n11_ := Aside0.mk ((by rw [hg]; exact Nat.ne_of_lt (blk_lt (g := gb221) (o := .cells #[.int .i64 2, .string (⟨#[104, 46, 111, 114, 103, 58, 56]⟩ : ByteArray), .string x9_2, .string x221003_26, .bool x221004_26] 27 (0, 0)) (by (with_reducible repeat (first | refine blk_drewN ?_ _ | refine blk_drew ?_ | refine blk_alloc ?_ _)); exact BK221.out)) : gb221 ≠ gb252)); have n12_ := Aside0.mk ((by rw [hg]; exact Nat.ne_of_gt (blk_lt (g := gb221) (o := .cells #[.int .i64 2, .string (⟨#[104, 46, 111, 114, 103, 58, 56]⟩ : ByteArray), .string x9_2, .string x221003_26, .bool x221004_26] 27 (0, 0)) (by (with_reducible repeat (first | refine blk_drewN ?_ _ | refine blk_drew ?_ | refine blk_alloc ?_ _)); exact BK221.out)) : gb252 ≠ gb221)); have n13_ := Aside0.mk ((by rw [hg]; exact Nat.ne_of_lt (blk_lt (g := gb229) (o := .cells #[.int .i64 t223, .string t224, .string t225, .string t226, .bool t227] 27 (0, 0)) (by (with_reducible repeat (first | refine blk_drewN ?_ _ | refine blk_drew ?_ | refine blk_alloc ?_ _)); exact BK229.out)) : gb229 ≠ gb252)); have n14_ := Aside0.mk ((by rw [hg]; exact Nat.ne_of_gt (blk_lt (g := gb229) (o := .cells #[.int .i64 t223, .string t224, .string t225, .string t226, .bool t227] 27 (0, 0)) (by (with_reducible repeat (first | refine blk_drewN ?_ _ | refine blk_drew ?_ | refine blk_alloc ?_ _)); exact BK229.out)) : gb252 ≠ gb229)); have n15_ := Aside0.mk ((by rw [hg]; exact Nat.ne_of_lt (blk_lt (g := gb237) (o := .cells #[.int .i64 t231, .string t232, .string t233, .string t234, .bool t235] 27 (0, 0)) (by (with_reducible repeat (first | refine blk_drewN ?_ _ | refine blk_drew ?_ | refine blk_alloc ?_ _)); exact BK237.out)) : gb237 ≠ gb252)); have n16_ := Aside0.mk ((by rw [hg]; exact Nat.ne_of_gt (blk_lt (g := gb237) (o := .cells #[.int .i64 t231, .string t232, .string t233, .string t234, .bool t235] 27 (0, 0)) (by (with_reducible repeat (first | refine blk_drewN ?_ _ | refine blk_drew ?_ | refine blk_alloc ?_ _)); exact BK237.out)) : gb252 ≠ gb237)); have n17_ := Aside0.mk ((by rw [hg]; exact Nat.ne_of_lt (blk_lt (g := gb244) (o := .cells #[.int .i64 t238, .string t239, .string t240, .string t241, .bool t242] 27 (0, 0)) (by (with_reducible repeat (first | refine blk_drewN ?_ _ | refine blk_drew ?_ | refine blk_alloc ?_ _)); exact BK244.out)) : gb244 ≠ gb252)); have n18_ := Aside0.mk ((by rw [hg]; exact Nat.ne_of_gt (blk_lt (g := gb244) (o := .cells #[.int .i64 t238, .string t239, .string t240, .string t241, .bool t242] 27 (0, 0)) (by (with_reducible repeat (first | refine blk_drewN ?_ _ | refine blk_drew ?_ | refine blk_alloc ?_ _)); exact BK244.out)) : gb252 ≠ gb244)); clear BK220; clear BK221; clear BK229; clear BK237; clear BK244; clear HB; have BK220 := n0_; have BK221 := n1_; have BK229 := n2_; have BK237 := n3_; have BK244 := n4_; have HB := n5_; have BK252 := n6_; have GW252 := n7_; have GE252 := n8_; have NB220_252 := n9_; have NB252_220 := n10_; have NB221_252 := n11_; have NB252_221 := n12_; have NB229_252 := n13_; have NB252_229 := n14_; have NB237_252 := n15_; have NB252_237 := n16_; have NB244_252 := n17_; have NB252_244 := n18_; clear n0_ n1_ n2_ n3_ n4_ n5_ n6_ n7_ n8_ n9_ n10_ n11_ n12_ n13_ n14_ n15_ n16_ n17_ n18_; clear hb hbox hg; have hnb75 := NB252_220.out; have hnc75 := NB220_252.out; have hnb76 := NB252_221.out; have hnc76 := NB221_252.out; have hnb77 := NB252_229.out; have hnc77 := NB229_252.out; have hnb78 := NB252_237.out; have hnc78 := NB237_252.out; have hnb79 := NB252_244.out; have hnc79 := NB244_252.out; have hcz80_0 : w74.cell? ⟨gb252, 0, none⟩ = some (.int .i64 0) := (blk_cell BK252.out 0).trans rfl; have hcz80_1 : w74.cell? ⟨gb252, 1, none⟩ = some (.string (⟨#[]⟩ : ByteArray)) := (blk_cell BK252.out 1).trans rfl; have hcz80_2 : w74.cell? ⟨gb252, 2, none⟩ = some (.string (⟨#[]⟩ : ByteArray)) := (blk_cell BK252.out 2).trans rfl; have hcz80_3 : w74.cell? ⟨gb252, 3, none⟩ = some (.string (⟨#[]⟩ : ByteArray)) := (blk_cell BK252.out 3).trans rfl; have hcz80_4 : w74.cell? ⟨gb252, 4, none⟩ = some (.bool false) := (blk_cell BK252.out 4).trans rfl; have hfz80_0 := blk_frozen BK252.out 0; have hfz80_1 := blk_frozen BK252.out 1; have hfz80_2 := blk_frozen BK252.out 2; have hfz80_3 := blk_frozen BK252.out 3; have hfz80_4 := blk_frozen BK252.out 4) | ((with_reducible refine gate_callee (f := 9) rfl ?_); refine goesL_ (some 95) rfl rfl Try.func9 (by kernel_rfl) rfl #[.string (rdOf ByteArray.empty y216 (ji24)), .string (⟨#[104, 46, 111, 114, 103, 58, 56]⟩ : ByteArray)] rfl (by (try simp only [List.map_toArray, List.map_cons, List.map_nil]); first | done | (simp only [hji24]; rfl) | rfl | (simp only [List.length_drop, List.length_take]; rfl)) ?_; (with_reducible refine (target_Parse.calls kj26 (rdOf ByteArray.empty y216 (ji24)) (⟨#[104, 46, 111, 114, 103, 58, 56]⟩ : ByteArray) t253 t254 t255 t256 t257 t258 _ A42.out).mono ?_); rintro e w81 ⟨rfl, hb⟩; refine ⟨_, rfl, ?_⟩; have n0_ := Aside0.mk (blk_below (g := gb220) (o := .cells #[.int .i64 1, .string (⟨#[]⟩ : ByteArray), .string x9_2, .string x221003_26, .bool x221004_26] 27 (0, 0)) (by (repeat ((with_reducible repeat (first | refine blk_drewN ?_ _ | refine blk_drew ?_ | refine blk_alloc ?_ _)); refine blk_far ?_ NB220_252.out _)); (with_reducible repeat (first | refine blk_drewN ?_ _ | refine blk_drew ?_ | refine blk_alloc ?_ _)); exact BK220.out) hb); have n1_ := Aside0.mk (blk_below (g := gb221) (o := .cells #[.int .i64 2, .string (⟨#[104, 46, 111, 114, 103, 58, 56]⟩ : ByteArray), .string x9_2, .string x221003_26, .bool x221004_26] 27 (0, 0)) (by (repeat ((with_reducible repeat (first | refine blk_drewN ?_ _ | refine blk_drew ?_ | refine blk_alloc ?_ _)); refine blk_far ?_ NB221_252.out _)); (with_reducible repeat (first | refine blk_drewN ?_ _ | refine blk_drew ?_ | refine blk_alloc ?_ _)); exact BK221.out) hb); have n2_ := Aside0.mk (blk_below (g := gb229) (o := .cells #[.int .i64 t223, .string t224, .string t225, .string t226, .bool t227] 27 (0, 0)) (by (repeat ((with_reducible repeat (first | refine blk_drewN ?_ _ | refine blk_drew ?_ | refine blk_alloc ?_ _)); refine blk_far ?_ NB229_252.out _)); (with_reducible repeat (first | refine blk_drewN ?_ _ | refine blk_drew ?_ | refine blk_alloc ?_ _)); exact BK229.out) hb); have n3_ := Aside0.mk (blk_below (g := gb237) (o := .cells #[.int .i64 t231, .string t232, .string t233, .string t234, .bool t235] 27 (0, 0)) (by (repeat ((with_reducible repeat (first | refine blk_drewN ?_ _ | refine blk_drew ?_ | refine blk_alloc ?_ _)); refine blk_far ?_ NB237_252.out _)); (with_reducible repeat (first | refine blk_drewN ?_ _ | refine blk_drew ?_ | refine blk_alloc ?_ _)); exact BK237.out) hb); have n4_ := Aside0.mk (blk_below (g := gb244) (o := .cells #[.int .i64 t238, .string t239, .string t240, .string t241, .bool t242] 27 (0, 0)) (by (repeat ((with_reducible repeat (first | refine blk_drewN ?_ _ | refine blk_drew ?_ | refine blk_alloc ?_ _)); refine blk_far ?_ NB244_252.out _)); (with_reducible repeat (first | refine blk_drewN ?_ _ | refine blk_drew ?_ | refine blk_alloc ?_ _)); exact BK244.out) hb); have n5_ := Aside0.mk (blk_below (g := gb252) (o := .cells #[.int .i64 t246, .string t247, .string t248, .string t249, .bool t250] 27 (0, 0)) (by (with_reducible repeat (first | refine blk_drewN ?_ _ | refine blk_drew ?_ | refine blk_alloc ?_ _)); refine blk_put (cs := #[.int .i64 t246, .string t247, .string t248, .string t249, .bool false]) ?_ 4 _ rfl; (with_reducible repeat (first | refine blk_drewN ?_ _ | refine blk_drew ?_ | refine blk_alloc ?_ _)); refine blk_put (cs := #[.int .i64 t246, .string t247, .string t248, .string (⟨#[]⟩ : ByteArray), .bool false]) ?_ 3 _ rfl; (with_reducible repeat (first | refine blk_drewN ?_ _ | refine blk_drew ?_ | refine blk_alloc ?_ _)); refine blk_put (cs := #[.int .i64 t246, .string t247, .string (⟨#[]⟩ : ByteArray), .string (⟨#[]⟩ : ByteArray), .bool false]) ?_ 2 _ rfl; (with_reducible repeat (first | refine blk_drewN ?_ _ | refine blk_drew ?_ | refine blk_alloc ?_ _)); refine blk_put (cs := #[.int .i64 t246, .string (⟨#[]⟩ : ByteArray), .string (⟨#[]⟩ : ByteArray), .string (⟨#[]⟩ : ByteArray), .bool false]) ?_ 1 _ rfl; (with_reducible repeat (first | refine blk_drewN ?_ _ | refine blk_drew ?_ | refine blk_alloc ?_ _)); refine blk_put (cs := #[.int .i64 0, .string (⟨#[]⟩ : ByteArray), .string (⟨#[]⟩ : ByteArray), .string (⟨#[]⟩ : ByteArray), .bool false]) ?_ 0 _ rfl; (with_reducible repeat (first | refine blk_drewN ?_ _ | refine blk_drew ?_ | refine blk_alloc ?_ _)); exact BK252.out) hb); have n6_ := Aside0.mk (below_step (by repeat (first | (with_reducible first | exact HB.out | apply below_alloc | apply pw_below_drewN | apply below_drew1 | refine below_set ?_ GE220.out | refine below_set ?_ GE221.out | refine below_set ?_ GE229.out | refine below_set ?_ GE237.out | refine below_set ?_ GE244.out | refine below_set ?_ GE252.out) | exact HB.out)) hb); clear BK220; clear BK221; clear BK229; clear BK237; clear BK244; clear BK252; clear HB; have BK220 := n0_; have BK221 := n1_; have BK229 := n2_; have BK237 := n3_; have BK244 := n4_; have BK252 := n5_; have HB := n6_; clear n0_ n1_ n2_ n3_ n4_ n5_ n6_; (try clear hb); (try clear hb2); (try clear hk); (try clear hi)) | ((with_reducible refine gate_dst (N := 22) rfl ?_); (try (refine gate_guard (by rfl) ?_; dsimp only)); refine box_event ?hg (N := 22) ?hd (cs := #[.int .i64 0, .string (⟨#[]⟩ : ByteArray), .string (⟨#[]⟩ : ByteArray), .string (⟨#[]⟩ : ByteArray), .bool false]) (t := 27) ?hr ?_; (case hd => rfl); (case hg => rfl); (case hr => first | (go_simp; done) | (go_simp; rfl)); intro gb259 hg w82 hbox hb; have n0_ := Aside0.mk (blk_below (g := gb220) (o := .cells #[.int .i64 1, .string (⟨#[]⟩ : ByteArray), .string x9_2, .string x221003_26, .bool x221004_26] 27 (0, 0)) (by (with_reducible repeat (first | refine blk_drewN ?_ _ | refine blk_drew ?_ | refine blk_alloc ?_ _)); exact BK220.out) hb); have n1_ := Aside0.mk (blk_below (g := gb221) (o := .cells #[.int .i64 2, .string (⟨#[104, 46, 111, 114, 103, 58, 56]⟩ : ByteArray), .string x9_2, .string x221003_26, .bool x221004_26] 27 (0, 0)) (by (with_reducible repeat (first | refine blk_drewN ?_ _ | refine blk_drew ?_ | refine blk_alloc ?_ _)); exact BK221.out) hb); have n2_ := Aside0.mk (blk_below (g := gb229) (o := .cells #[.int .i64 t223, .string t224, .string t225, .string t226, .bool t227] 27 (0, 0)) (by (with_reducible repeat (first | refine blk_drewN ?_ _ | refine blk_drew ?_ | refine blk_alloc ?_ _)); exact BK229.out) hb); have n3_ := Aside0.mk (blk_below (g := gb237) (o := .cells #[.int .i64 t231, .string t232, .string t233, .string t234, .bool t235] 27 (0, 0)) (by (with_reducible repeat (first | refine blk_drewN ?_ _ | refine blk_drew ?_ | refine blk_alloc ?_ _)); exact BK237.out) hb); have n4_ := Aside0.mk (blk_below (g := gb244) (o := .cells #[.int .i64 t238, .string t239, .string t240, .string t241, .bool t242] 27 (0, 0)) (by (with_reducible repeat (first | refine blk_drewN ?_ _ | refine blk_drew ?_ | refine blk_alloc ?_ _)); exact BK244.out) hb); have n5_ := Aside0.mk (blk_below (g := gb252) (o := .cells #[.int .i64 t246, .string t247, .string t248, .string t249, .bool t250] 27 (0, 0)) (by (with_reducible repeat (first | refine blk_drewN ?_ _ | refine blk_drew ?_ | refine blk_alloc ?_ _)); exact BK252.out) hb); have n6_ := Aside0.mk (below_step (by repeat (first | (with_reducible first | exact HB.out | apply below_alloc | apply pw_below_drewN | apply below_drew1 | refine below_set ?_ GE220.out | refine below_set ?_ GE221.out | refine below_set ?_ GE229.out | refine below_set ?_ GE237.out | refine below_set ?_ GE244.out | refine below_set ?_ GE252.out) | exact HB.out)) hb); have n7_ := Aside0.mk (hbox); have n8_ := Aside0.mk ((by rw [hg]; exact (below_size (by repeat (first | (with_reducible first | exact HB.out | apply below_alloc | apply pw_below_drewN | apply below_drew1 | refine below_set ?_ GE220.out | refine below_set ?_ GE221.out | refine below_set ?_ GE229.out | refine below_set ?_ GE237.out | refine below_set ?_ GE244.out | refine below_set ?_ GE252.out) | exact HB.out))) : w.heap.size ≤ gb259)); have n9_ := Aside0.mk ((by rw [hg]; exact (below_size (by repeat (first | (with_reducible first | exact HB.out | apply below_alloc | apply pw_below_drewN | apply below_drew1 | refine below_set ?_ GE220.out | refine below_set ?_ GE221.out | refine below_set ?_ GE229.out | refine below_set ?_ GE237.out | refine below_set ?_ GE244.out | refine below_set ?_ GE252.out) | exact HB.out))) : w.heap.size ≤ gb259)); have n10_ := Aside0.mk ((by rw [hg]; exact Nat.ne_of_lt (blk_lt (g := gb220) (o := .cells #[.int .i64 1, .string (⟨#[]⟩ : ByteArray), .string x9_2, .string x221003_26, .bool x221004_26] 27 (0, 0)) (by (with_reducible repeat (first | refine blk_drewN ?_ _ | refine blk_drew ?_ | refine blk_alloc ?_ _)); exact BK220.out)) : gb220 ≠ gb259)); have n11_ := Aside0.mk ((by rw [hg]; exact Nat.ne_of_gt (blk_lt (g := gb220) (o := .cells #[.int .i64 1, .string (⟨#[]⟩ : ByteArray), .string x9_2, .string x221003_26, .bool x221004_26] 27 (0, 0)) (by (with_reducible repeat (first | refine blk_drewN ?_ _ | refine blk_drew ?_ | refine blk_alloc ?_ _)); exact BK220.out)) : gb259 ≠ gb220)); have n12_ := Aside0.mk ((by rw [hg]; exact Nat.ne_of_lt (blk_lt (g := gb221) (o := .cells #[.int .i64 2, .string (⟨#[104, 46, 111, 114, 103, 58, 56]⟩ : ByteArray), .string x9_2, .string x221003_26, .bool x221004_26] 27 (0, 0)) (by (with_reducible repeat (first | refine blk_drewN ?_ _ | refine blk_drew ?_ | refine blk_alloc ?_ _)); exact BK221.out)) : gb221 ≠ gb259)); have n13_ := Aside0.mk ((by rw [hg]; exact Nat.ne_of_gt (blk_lt (g := gb221) (o := .cells #[.int .i64 2, .string (⟨#[104, 46, 111, 114, 103, 58, 56]⟩ : ByteArray), .string x9_2, .string x221003_26, .bool x221004_26] 27 (0, 0)) (by (with_reducible repeat (first | refine blk_drewN ?_ _ | refine blk_drew ?_ | refine blk_alloc ?_ _)); exact BK221.out)) : gb259 ≠ gb221)); have n14_ := Aside0.mk ((by rw [hg]; exact Nat.ne_of_lt (blk_lt (g := gb229) (o := .cells #[.int .i64 t223, .string t224, .string t225, .string t226, .bool t227] 27 (0, 0)) (by (with_reducible repeat (first | refine blk_drewN ?_ _ | refine blk_drew ?_ | refine blk_alloc ?_ _)); exact BK229.out)) : gb229 ≠ gb259)); have n15_ := Aside0.mk ((by rw [hg]; exact Nat.ne_of_gt (blk_lt (g := gb229) (o := .cells #[.int .i64 t223, .string t224, .string t225, .string t226, .bool t227] 27 (0, 0)) (by (with_reducible repeat (first | refine blk_drewN ?_ _ | refine blk_drew ?_ | refine blk_alloc ?_ _)); exact BK229.out)) : gb259 ≠ gb229)); have n16_ := Aside0.mk ((by rw [hg]; exact Nat.ne_of_lt (blk_lt (g := gb237) (o := .cells #[.int .i64 t231, .string t232, .string t233, .string t234, .bool t235] 27 (0, 0)) (by (with_reducible repeat (first | refine blk_drewN ?_ _ | refine blk_drew ?_ | refine blk_alloc ?_ _)); exact BK237.out)) : gb237 ≠ gb259)); have n17_ := Aside0.mk ((by rw [hg]; exact Nat.ne_of_gt (blk_lt (g := gb237) (o := .cells #[.int .i64 t231, .string t232, .string t233, .string t234, .bool t235] 27 (0, 0)) (by (with_reducible repeat (first | refine blk_drewN ?_ _ | refine blk_drew ?_ | refine blk_alloc ?_ _)); exact BK237.out)) : gb259 ≠ gb237)); have n18_ := Aside0.mk ((by rw [hg]; exact Nat.ne_of_lt (blk_lt (g := gb244) (o := .cells #[.int .i64 t238, .string t239, .string t240, .string t241, .bool t242] 27 (0, 0)) (by (with_reducible repeat (first | refine blk_drewN ?_ _ | refine blk_drew ?_ | refine blk_alloc ?_ _)); exact BK244.out)) : gb244 ≠ gb259)); have n19_ := Aside0.mk ((by rw [hg]; exact Nat.ne_of_gt (blk_lt (g := gb244) (o := .cells #[.int .i64 t238, .string t239, .string t240, .string t241, .bool t242] 27 (0, 0)) (by (with_reducible repeat (first | refine blk_drewN ?_ _ | refine blk_drew ?_ | refine blk_alloc ?_ _)); exact BK244.out)) : gb259 ≠ gb244)); have n20_ := Aside0.mk ((by rw [hg]; exact Nat.ne_of_lt (blk_lt (g := gb252) (o := .cells #[.int .i64 t246, .string t247, .string t248, .string t249, .bool t250] 27 (0, 0)) (by (with_reducible repeat (first | refine blk_drewN ?_ _ | refine blk_drew ?_ | refine blk_alloc ?_ _)); exact BK252.out)) : gb252 ≠ gb259)); have n21_ := Aside0.mk ((by rw [hg]; exact Nat.ne_of_gt (blk_lt (g := gb252) (o := .cells #[.int .i64 t246, .string t247, .string t248, .string t249, .bool t250] 27 (0, 0)) (by (with_reducible repeat (first | refine blk_drewN ?_ _ | refine blk_drew ?_ | refine blk_alloc ?_ _)); exact BK252.out)) : gb259 ≠ gb252)); clear BK220; clear BK221; clear BK229; clear BK237; clear BK244; clear BK252; clear HB; have BK220 := n0_; have BK221 := n1_; have BK229 := n2_; have BK237 := n3_; have BK244 := n4_; have BK252 := n5_; have HB := n6_; have BK259 := n7_; have GW259 := n8_; have GE259 := n9_; have NB220_259 := n10_; have NB259_220 := n11_; have NB221_259 := n12_; have NB259_221 := n13_; have NB229_259 := n14_; have NB259_229 := n15_; have NB237_259 := n16_; have NB259_237 := n17_; have NB244_259 := n18_; have NB259_244 := n19_; have NB252_259 := n20_; have NB259_252 := n21_; clear n0_ n1_ n2_ n3_ n4_ n5_ n6_ n7_ n8_ n9_ n10_ n11_ n12_ n13_ n14_ n15_ n16_ n17_ n18_ n19_ n20_ n21_; clear hb hbox hg; have hnb83 := NB259_220.out; have hnc83 := NB220_259.out; have hnb84 := NB259_221.out; have hnc84 := NB221_259.out; have hnb85 := NB259_229.out; have hnc85 := NB229_259.out; have hnb86 := NB259_237.out; have hnc86 := NB237_259.out; have hnb87 := NB259_244.out; have hnc87 := NB244_259.out; have hnb88 := NB259_252.out; have hnc88 := NB252_259.out; have hcz89_0 : w82.cell? ⟨gb259, 0, none⟩ = some (.int .i64 0) := (blk_cell BK259.out 0).trans rfl; have hcz89_1 : w82.cell? ⟨gb259, 1, none⟩ = some (.string (⟨#[]⟩ : ByteArray)) := (blk_cell BK259.out 1).trans rfl; have hcz89_2 : w82.cell? ⟨gb259, 2, none⟩ = some (.string (⟨#[]⟩ : ByteArray)) := (blk_cell BK259.out 2).trans rfl; have hcz89_3 : w82.cell? ⟨gb259, 3, none⟩ = some (.string (⟨#[]⟩ : ByteArray)) := (blk_cell BK259.out 3).trans rfl; have hcz89_4 : w82.cell? ⟨gb259, 4, none⟩ = some (.bool false) := (blk_cell BK259.out 4).trans rfl; have hfz89_0 := blk_frozen BK259.out 0; have hfz89_1 := blk_frozen BK259.out 1; have hfz89_2 := blk_frozen BK259.out 2; have hfz89_3 := blk_frozen BK259.out 3; have hfz89_4 := blk_frozen BK259.out 4) | ((with_reducible refine gate_callee (f := 9) rfl ?_); refine goesL_ (some 100) rfl rfl Try.func9 (by kernel_rfl) rfl #[.string (rdOf ByteArray.empty y216 (ji24)), .string (⟨#[42]⟩ : ByteArray)] rfl (by (try simp only [List.map_toArray, List.map_cons, List.map_nil]); first | done | (simp only [hji24]; rfl) | rfl | (simp only [List.length_drop, List.length_take]; rfl)) ?_; (with_reducible refine (target_Parse.calls kj26 (rdOf ByteArray.empty y216 (ji24)) (⟨#[42]⟩ : ByteArray) t260 t261 t262 t263 t264 t265 _ A43.out).mono ?_); rintro e w90 ⟨rfl, hb⟩; refine ⟨_, rfl, ?_⟩; have n0_ := Aside0.mk (blk_below (g := gb220) (o := .cells #[.int .i64 1, .string (⟨#[]⟩ : ByteArray), .string x9_2, .string x221003_26, .bool x221004_26] 27 (0, 0)) (by (repeat ((with_reducible repeat (first | refine blk_drewN ?_ _ | refine blk_drew ?_ | refine blk_alloc ?_ _)); refine blk_far ?_ NB220_259.out _)); (with_reducible repeat (first | refine blk_drewN ?_ _ | refine blk_drew ?_ | refine blk_alloc ?_ _)); exact BK220.out) hb); have n1_ := Aside0.mk (blk_below (g := gb221) (o := .cells #[.int .i64 2, .string (⟨#[104, 46, 111, 114, 103, 58, 56]⟩ : ByteArray), .string x9_2, .string x221003_26, .bool x221004_26] 27 (0, 0)) (by (repeat ((with_reducible repeat (first | refine blk_drewN ?_ _ | refine blk_drew ?_ | refine blk_alloc ?_ _)); refine blk_far ?_ NB221_259.out _)); (with_reducible repeat (first | refine blk_drewN ?_ _ | refine blk_drew ?_ | refine blk_alloc ?_ _)); exact BK221.out) hb); have n2_ := Aside0.mk (blk_below (g := gb229) (o := .cells #[.int .i64 t223, .string t224, .string t225, .string t226, .bool t227] 27 (0, 0)) (by (repeat ((with_reducible repeat (first | refine blk_drewN ?_ _ | refine blk_drew ?_ | refine blk_alloc ?_ _)); refine blk_far ?_ NB229_259.out _)); (with_reducible repeat (first | refine blk_drewN ?_ _ | refine blk_drew ?_ | refine blk_alloc ?_ _)); exact BK229.out) hb); have n3_ := Aside0.mk (blk_below (g := gb237) (o := .cells #[.int .i64 t231, .string t232, .string t233, .string t234, .bool t235] 27 (0, 0)) (by (repeat ((with_reducible repeat (first | refine blk_drewN ?_ _ | refine blk_drew ?_ | refine blk_alloc ?_ _)); refine blk_far ?_ NB237_259.out _)); (with_reducible repeat (first | refine blk_drewN ?_ _ | refine blk_drew ?_ | refine blk_alloc ?_ _)); exact BK237.out) hb); have n4_ := Aside0.mk (blk_below (g := gb244) (o := .cells #[.int .i64 t238, .string t239, .string t240, .string t241, .bool t242] 27 (0, 0)) (by (repeat ((with_reducible repeat (first | refine blk_drewN ?_ _ | refine blk_drew ?_ | refine blk_alloc ?_ _)); refine blk_far ?_ NB244_259.out _)); (with_reducible repeat (first | refine blk_drewN ?_ _ | refine blk_drew ?_ | refine blk_alloc ?_ _)); exact BK244.out) hb); have n5_ := Aside0.mk (blk_below (g := gb252) (o := .cells #[.int .i64 t246, .string t247, .string t248, .string t249, .bool t250] 27 (0, 0)) (by (repeat ((with_reducible repeat (first | refine blk_drewN ?_ _ | refine blk_drew ?_ | refine blk_alloc ?_ _)); refine blk_far ?_ NB252_259.out _)); (with_reducible repeat (first | refine blk_drewN ?_ _ | refine blk_drew ?_ | refine blk_alloc ?_ _)); exact BK252.out) hb); have n6_ := Aside0.mk (blk_below (g := gb259) (o := .cells #[.int .i64 t253, .string t254, .string t255, .string t256, .bool t257] 27 (0, 0)) (by (with_reducible repeat (first | refine blk_drewN ?_ _ | refine blk_drew ?_ | refine blk_alloc ?_ _)); refine blk_put (cs := #[.int .i64 t253, .string t254, .string t255, .string t256, .bool false]) ?_ 4 _ rfl; (with_reducible repeat (first | refine blk_drewN ?_ _ | refine blk_drew ?_ | refine blk_alloc ?_ _)); refine blk_put (cs := #[.int .i64 t253, .string t254, .string t255, .string (⟨#[]⟩ : ByteArray), .bool false]) ?_ 3 _ rfl; (with_reducible repeat (first | refine blk_drewN ?_ _ | refine blk_drew ?_ | refine blk_alloc ?_ _)); refine blk_put (cs := #[.int .i64 t253, .string t254, .string (⟨#[]⟩ : ByteArray), .string (⟨#[]⟩ : ByteArray), .bool false]) ?_ 2 _ rfl; (with_reducible repeat (first | refine blk_drewN ?_ _ | refine blk_drew ?_ | refine blk_alloc ?_ _)); refine blk_put (cs := #[.int .i64 t253, .string (⟨#[]⟩ : ByteArray), .string (⟨#[]⟩ : ByteArray), .string (⟨#[]⟩ : ByteArray), .bool false]) ?_ 1 _ rfl; (with_reducible repeat (first | refine blk_drewN ?_ _ | refine blk_drew ?_ | refine blk_alloc ?_ _)); refine blk_put (cs := #[.int .i64 0, .string (⟨#[]⟩ : ByteArray), .string (⟨#[]⟩ : ByteArray), .string (⟨#[]⟩ : ByteArray), .bool false]) ?_ 0 _ rfl; (with_reducible repeat (first | refine blk_drewN ?_ _ | refine blk_drew ?_ | refine blk_alloc ?_ _)); exact BK259.out) hb); have n7_ := Aside0.mk (below_step (by repeat (first | (with_reducible first | exact HB.out | apply below_alloc | apply pw_below_drewN | apply below_drew1 | refine below_set ?_ GE220.out | refine below_set ?_ GE221.out | refine below_set ?_ GE229.out | refine below_set ?_ GE237.out | refine below_set ?_ GE244.out | refine below_set ?_ GE252.out | refine below_set ?_ GE259.out) | exact HB.out)) hb); clear BK220; clear BK221; clear BK229; clear BK237; clear BK244; clear BK252; clear BK259; clear HB; have BK220 := n0_; have BK221 := n1_; have BK229 := n2_; have BK237 := n3_; have BK244 := n4_; have BK252 := n5_; have BK259 := n6_; have HB := n7_; clear n0_ n1_ n2_ n3_ n4_ n5_ n6_ n7_; (try clear hb); (try clear hb2); (try clear hk); (try clear hi)) | ((with_reducible refine gate_dst (N := 24) rfl ?_); (try (refine gate_guard (by rfl) ?_; dsimp only)); refine box_event ?hg (N := 24) ?hd (cs := #[.int .i64 0, .string (⟨#[]⟩ : ByteArray), .string (⟨#[]⟩ : ByteArray), .string (⟨#[]⟩ : ByteArray), .bool false]) (t := 27) ?hr ?_; (case hd => rfl); (case hg => rfl); (case hr => first | (go_simp; done) | (go_simp; rfl)); intro gb266 hg w91 hbox hb; have n0_ := Aside0.mk (blk_below (g := gb220) (o := .cells #[.int .i64 1, .string (⟨#[]⟩ : ByteArray), .string x9_2, .string x221003_26, .bool x221004_26] 27 (0, 0)) (by (with_reducible repeat (first | refine blk_drewN ?_ _ | refine blk_drew ?_ | refine blk_alloc ?_ _)); exact BK220.out) hb); have n1_ := Aside0.mk (blk_below (g := gb221) (o := .cells #[.int .i64 2, .string (⟨#[104, 46, 111, 114, 103, 58, 56]⟩ : ByteArray), .string x9_2, .string x221003_26, .bool x221004_26] 27 (0, 0)) (by (with_reducible repeat (first | refine blk_drewN ?_ _ | refine blk_drew ?_ | refine blk_alloc ?_ _)); exact BK221.out) hb); have n2_ := Aside0.mk (blk_below (g := gb229) (o := .cells #[.int .i64 t223, .string t224, .string t225, .string t226, .bool t227] 27 (0, 0)) (by (with_reducible repeat (first | refine blk_drewN ?_ _ | refine blk_drew ?_ | refine blk_alloc ?_ _)); exact BK229.out) hb); have n3_ := Aside0.mk (blk_below (g := gb237) (o := .cells #[.int .i64 t231, .string t232, .string t233, .string t234, .bool t235] 27 (0, 0)) (by (with_reducible repeat (first | refine blk_drewN ?_ _ | refine blk_drew ?_ | refine blk_alloc ?_ _)); exact BK237.out) hb); have n4_ := Aside0.mk (blk_below (g := gb244) (o := .cells #[.int .i64 t238, .string t239, .string t240, .string t241, .bool t242] 27 (0, 0)) (by (with_reducible repeat (first | refine blk_drewN ?_ _ | refine blk_drew ?_ | refine blk_alloc ?_ _)); exact BK244.out) hb); have n5_ := Aside0.mk (blk_below (g := gb252) (o := .cells #[.int .i64 t246, .string t247, .string t248, .string t249, .bool t250] 27 (0, 0)) (by (with_reducible repeat (first | refine blk_drewN ?_ _ | refine blk_drew ?_ | refine blk_alloc ?_ _)); exact BK252.out) hb); have n6_ := Aside0.mk (blk_below (g := gb259) (o := .cells #[.int .i64 t253, .string t254, .string t255, .string t256, .bool t257] 27 (0, 0)) (by (with_reducible repeat (first | refine blk_drewN ?_ _ | refine blk_drew ?_ | refine blk_alloc ?_ _)); exact BK259.out) hb); have n7_ := Aside0.mk (below_step (by repeat (first | (with_reducible first | exact HB.out | apply below_alloc | apply pw_below_drewN | apply below_drew1 | refine below_set ?_ GE220.out | refine below_set ?_ GE221.out | refine below_set ?_ GE229.out | refine below_set ?_ GE237.out | refine below_set ?_ GE244.out | refine below_set ?_ GE252.out | refine below_set ?_ GE259.out) | exact HB.out)) hb); have n8_ := Aside0.mk (hbox); have n9_ := Aside0.mk ((by rw [hg]; exact (below_size (by repeat (first | (with_reducible first | exact HB.out | apply below_alloc | apply pw_below_drewN | apply below_drew1 | refine below_set ?_ GE220.out | refine below_set ?_ GE221.out | refine below_set ?_ GE229.out | refine below_set ?_ GE237.out | refine below_set ?_ GE244.out | refine below_set ?_ GE252.out | refine below_set ?_ GE259.out) | exact HB.out))) : w.heap.size ≤ gb266)); have n10_ := Aside0.mk ((by rw [hg]; exact (below_size (by repeat (first | (with_reducible first | exact HB.out | apply below_alloc | apply pw_below_drewN | apply below_drew1 | refine below_set ?_ GE220.out | refine below_set ?_ GE221.out | refine below_set ?_ GE229.out | refine below_set ?_ GE237.out | refine below_set ?_ GE244.out | refine below_set ?_ GE252.out | refine below_set ?_ GE259.out) | exact HB.out))) : w.heap.size ≤ gb266)); have n11_ := Aside0.mk ((by rw [hg]; exact Nat.ne_of_lt (blk_lt (g := gb220) (o := .cells #[.int .i64 1, .string (⟨#[]⟩ : ByteArray), .string x9_2, .string x221003_26, .bool x221004_26] 27 (0, 0)) (by (with_reducible repeat (first | refine blk_drewN ?_ _ | refine blk_drew ?_ | refine blk_alloc ?_ _)); exact BK220.out)) : gb220 ≠ gb266)); have n12_ := Aside0.mk ((by rw [hg]; exact Nat.ne_of_gt (blk_lt (g := gb220) (o := .cells #[.int .i64 1, .string (⟨#[]⟩ : ByteArray), .string x9_2, .string x221003_26, .bool x221004_26] 27 (0, 0)) (by (with_reducible repeat (first | refine blk_drewN ?_ _ | refine blk_drew ?_ | refine blk_alloc ?_ _)); exact BK220.out)) : gb266 ≠ gb220)); have n13_ := Aside0.mk ((by rw [hg]; exact Nat.ne_of_lt (blk_lt (g := gb221) (o := .cells #[.int .i64 2, .string (⟨#[104, 46, 111, 114, 103, 58, 56]⟩ : ByteArray), .string x9_2, .string x221003_26, .bool x221004_26] 27 (0, 0)) (by (with_reducible repeat (first | refine blk_drewN ?_ _ | refine blk_drew ?_ | refine blk_alloc ?_ _)); exact BK221.out)) : gb221 ≠ gb266)); have n14_ := Aside0.mk ((by rw [hg]; exact Nat.ne_of_gt (blk_lt (g := gb221) (o := .cells #[.int .i64 2, .string (⟨#[104, 46, 111, 114, 103, 58, 56]⟩ : ByteArray), .string x9_2, .string x221003_26, .bool x221004_26] 27 (0, 0)) (by (with_reducible repeat (first | refine blk_drewN ?_ _ | refine blk_drew ?_ | refine blk_alloc ?_ _)); exact BK221.out)) : gb266 ≠ gb221)); have n15_ := Aside0.mk ((by rw [hg]; exact Nat.ne_of_lt (blk_lt (g := gb229) (o := .cells #[.int .i64 t223, .string t224, .string t225, .string t226, .bool t227] 27 (0, 0)) (by (with_reducible repeat (first | refine blk_drewN ?_ _ | refine blk_drew ?_ | refine blk_alloc ?_ _)); exact BK229.out)) : gb229 ≠ gb266)); have n16_ := Aside0.mk ((by rw [hg]; exact Nat.ne_of_gt (blk_lt (g := gb229) (o := .cells #[.int .i64 t223, .string t224, .string t225, .string t226, .bool t227] 27 (0, 0)) (by (with_reducible repeat (first | refine blk_drewN ?_ _ | refine blk_drew ?_ | refine blk_alloc ?_ _)); exact BK229.out)) : gb266 ≠ gb229)); have n17_ := Aside0.mk ((by rw [hg]; exact Nat.ne_of_lt (blk_lt (g := gb237) (o := .cells #[.int .i64 t231, .string t232, .string t233, .string t234, .bool t235] 27 (0, 0)) (by (with_reducible repeat (first | refine blk_drewN ?_ _ | refine blk_drew ?_ | refine blk_alloc ?_ _)); exact BK237.out)) : gb237 ≠ gb266)); have n18_ := Aside0.mk ((by rw [hg]; exact Nat.ne_of_gt (blk_lt (g := gb237) (o := .cells #[.int .i64 t231, .string t232, .string t233, .string t234, .bool t235] 27 (0, 0)) (by (with_reducible repeat (first | refine blk_drewN ?_ _ | refine blk_drew ?_ | refine blk_alloc ?_ _)); exact BK237.out)) : gb266 ≠ gb237)); have n19_ := Aside0.mk ((by rw [hg]; exact Nat.ne_of_lt (blk_lt (g := gb244) (o := .cells #[.int .i64 t238, .string t239, .string t240, .string t241, .bool t242] 27 (0, 0)) (by (with_reducible repeat (first | refine blk_drewN ?_ _ | refine blk_drew ?_ | refine blk_alloc ?_ _)); exact BK244.out)) : gb244 ≠ gb266)); have n20_ := Aside0.mk ((by rw [hg]; exact Nat.ne_of_gt (blk_lt (g := gb244) (o := .cells #[.int .i64 t238, .string t239, .string t240, .string t241, .bool t242] 27 (0, 0)) (by (with_reducible repeat (first | refine blk_drewN ?_ _ | refine blk_drew ?_ | refine blk_alloc ?_ _)); exact BK244.out)) : gb266 ≠ gb244)); have n21_ := Aside0.mk ((by rw [hg]; exact Nat.ne_of_lt (blk_lt (g := gb252) (o := .cells #[.int .i64 t246, .string t247, .string t248, .string t249, .bool t250] 27 (0, 0)) (by (with_reducible repeat (first | refine blk_drewN ?_ _ | refine blk_drew ?_ | refine blk_alloc ?_ _)); exact BK252.out)) : gb252 ≠ gb266)); have n22_ := Aside0.mk ((by rw [hg]; exact Nat.ne_of_gt (blk_lt (g := gb252) (o := .cells #[.int .i64 t246, .string t247, .string t248, .string t249, .bool t250] 27 (0, 0)) (by (with_reducible repeat (first | refine blk_drewN ?_ _ | refine blk_drew ?_ | refine blk_alloc ?_ _)); exact BK252.out)) : gb266 ≠ gb252)); have n23_ := Aside0.mk ((by rw [hg]; exact Nat.ne_of_lt (blk_lt (g := gb259) (o := .cells #[.int .i64 t253, .string t254, .string t255, .string t256, .bool t257] 27 (0, 0)) (by (with_reducible repeat (first | refine blk_drewN ?_ _ | refine blk_drew ?_ | refine blk_alloc ?_ _)); exact BK259.out)) : gb259 ≠ gb266)); have n24_ := Aside0.mk ((by rw [hg]; exact Nat.ne_of_gt (blk_lt (g := gb259) (o := .cells #[.int .i64 t253, .string t254, .string t255, .string t256, .bool t257] 27 (0, 0)) (by (with_reducible repeat (first | refine blk_drewN ?_ _ | refine blk_drew ?_ | refine blk_alloc ?_ _)); exact BK259.out)) : gb266 ≠ gb259)); clear BK220; clear BK221; clear BK229; clear BK237; clear BK244; clear BK252; clear BK259; clear HB; have BK220 := n0_; have BK221 := n1_; have BK229 := n2_; have BK237 := n3_; have BK244 := n4_; have BK252 := n5_; have BK259 := n6_; have HB := n7_; have BK266 := n8_; have GW266 := n9_; have GE266 := n10_; have NB220_266 := n11_; have NB266_220 := n12_; have NB221_266 := n13_; have NB266_221 := n14_; have NB229_266 := n15_; have NB266_229 := n16_; have NB237_266 := n17_; have NB266_237 := n18_; have NB244_266 := n19_; have NB266_244 := n20_; have NB252_266 := n21_; have NB266_252 := n22_; have NB259_266 := n23_; have NB266_259 := n24_; clear n0_ n1_ n2_ n3_ n4_ n5_ n6_ n7_ n8_ n9_ n10_ n11_ n12_ n13_ n14_ n15_ n16_ n17_ n18_ n19_ n20_ n21_ n22_ n23_ n24_; clear hb hbox hg; have hnb92 := NB266_220.out; have hnc92 := NB220_266.out; have hnb93 := NB266_221.out; have hnc93 := NB221_266.out; have hnb94 := NB266_229.out; have hnc94 := NB229_266.out; have hnb95 := NB266_237.out; have hnc95 := NB237_266.out; have hnb96 := NB266_244.out; have hnc96 := NB244_266.out; have hnb97 := NB266_252.out; have hnc97 := NB252_266.out; have hnb98 := NB266_259.out; have hnc98 := NB259_266.out; have hcz99_0 : w91.cell? ⟨gb266, 0, none⟩ = some (.int .i64 0) := (blk_cell BK266.out 0).trans rfl; have hcz99_1 : w91.cell? ⟨gb266, 1, none⟩ = some (.string (⟨#[]⟩ : ByteArray)) := (blk_cell BK266.out 1).trans rfl; have hcz99_2 : w91.cell? ⟨gb266, 2, none⟩ = some (.string (⟨#[]⟩ : ByteArray)) := (blk_cell BK266.out 2).trans rfl; have hcz99_3 : w91.cell? ⟨gb266, 3, none⟩ = some (.string (⟨#[]⟩ : ByteArray)) := (blk_cell BK266.out 3).trans rfl; have hcz99_4 : w91.cell? ⟨gb266, 4, none⟩ = some (.bool false) := (blk_cell BK266.out 4).trans rfl; have hfz99_0 := blk_frozen BK266.out 0; have hfz99_1 := blk_frozen BK266.out 1; have hfz99_2 := blk_frozen BK266.out 2; have hfz99_3 := blk_frozen BK266.out 3; have hfz99_4 := blk_frozen BK266.out 4))
              (try simp only [Act.put, List.setIfInBounds_toArray, List.set_cons_zero, List.set_cons_succ])
              go_cut [8] (fun v8 wc => ∃ (kq : Nat) (x8_43 : Bool), v8 = .bool x8_43 ∧ Aside0 (parallaxlaw7_TargetForms.j4 kq x8_43 = some r) ∧ Aside0 (kq ≤ kj26) ∧ Aside0 (wc.heap[gb220]? = some (.cells #[.int .i64 1, .string (⟨#[]⟩ : ByteArray), .string x9_2, .string x221003_26, .bool x221004_26] 27 (0, 0))) ∧ Aside0 (wc.heap[gb221]? = some (.cells #[.int .i64 2, .string (⟨#[104, 46, 111, 114, 103, 58, 56]⟩ : ByteArray), .string x9_2, .string x221003_26, .bool x221004_26] 27 (0, 0))) ∧ Aside0 (wc.heap[gb229]? = some (.cells #[.int .i64 t223, .string t224, .string t225, .string t226, .bool t227] 27 (0, 0))) ∧ Aside0 (wc.heap[gb237]? = some (.cells #[.int .i64 t231, .string t232, .string t233, .string t234, .bool t235] 27 (0, 0))) ∧ Aside0 (wc.heap[gb244]? = some (.cells #[.int .i64 t238, .string t239, .string t240, .string t241, .bool t242] 27 (0, 0))) ∧ Aside0 (wc.heap[gb252]? = some (.cells #[.int .i64 t246, .string t247, .string t248, .string t249, .bool t250] 27 (0, 0))) ∧ Aside0 (wc.heap[gb259]? = some (.cells #[.int .i64 t253, .string t254, .string t255, .string t256, .bool t257] 27 (0, 0))) ∧ Aside0 (wc.heap[gb266]? = some (.cells #[.int .i64 t260, .string t261, .string t262, .string t263, .bool t264] 27 (0, 0))) ∧ Aside0 (Below w.heap.size w wc))
              case first =>
               have H := HC44.out
               clear HC44
               by_cases c100 : t228 = 0
               ·rw [if_pos c100] at H
                have c100b0 : (t228 == 0) = true := beq_iff_eq.mpr c100
                have c100b1 : (t228 != 0) = false := bne_eq_false_iff_eq.mpr c100
                clear c100
                (first | rw [c100b0] | (simp only [i64_w, i32_w]; rw [c100b0]) | skip)
                by_cases c101 : (t223 == 1 && (t224.toList == (⟨#[]⟩ : ByteArray).toList && (t225.toList == x9_2.toList && (t226.toList == x221003_26.toList && (t227 == x221004_26))))) = true
                ·rw [if_pos c101] at H
                 have c101b0 : (t223 == 1 && (t224.toList == (⟨#[]⟩ : ByteArray).toList && (t225.toList == x9_2.toList && (t226.toList == x221003_26.toList && (t227 == x221004_26))))) = true := c101
                 (try (have c101ba : (t223 = 1 ∧ t224.toList = ([] : List UInt8) ∧ t225.toList = x9_2.toList ∧ t226.toList = x221003_26.toList ∧ t227 = x221004_26) = True := eq_true (by simpa using c101b0)))
                 (try (have c101b1 : decide (t223 = 1 && (t224.toList == (⟨#[]⟩ : ByteArray).toList && (t225.toList == x9_2.toList && (t226.toList == x221003_26.toList && (t227 == x221004_26))))) = true := by simpa using c101))
                 (try (have c101b2 : (t223 == 1 && (t224.toList == (⟨#[]⟩ : ByteArray).toList && (t225.toList == x9_2.toList && (t226.toList == x221003_26.toList && (t227 == x221004_26))))) = true := by simpa using c101))
                 clear c101
                 by_cases c102 : t236 = 0
                 ·rw [if_pos c102] at H
                  have c102b0 : (t236 == 0) = true := beq_iff_eq.mpr c102
                  have c102b1 : (t236 != 0) = false := bne_eq_false_iff_eq.mpr c102
                  clear c102
                  by_cases c103 : (t231 == 2 && (t232.toList == ([104, 46, 111, 114, 103, 58, 56] : List UInt8) && (t233.toList == x9_2.toList && (t234.toList == x221003_26.toList && (t235 == x221004_26))))) = true
                  ·rw [if_pos c103] at H
                   have c103b0 : (t231 == 2 && (t232.toList == ([104, 46, 111, 114, 103, 58, 56] : List UInt8) && (t233.toList == x9_2.toList && (t234.toList == x221003_26.toList && (t235 == x221004_26))))) = true := c103
                   (try (have c103ba : (t231 = 2 ∧ t232.toList = ([104, 46, 111, 114, 103, 58, 56] : List UInt8) ∧ t233.toList = x9_2.toList ∧ t234.toList = x221003_26.toList ∧ t235 = x221004_26) = True := eq_true (by simpa using c103b0)))
                   (try (have c103b1 : decide (t231 = 2 && (t232.toList == ([104, 46, 111, 114, 103, 58, 56] : List UInt8) && (t233.toList == x9_2.toList && (t234.toList == x221003_26.toList && (t235 == x221004_26))))) = true := by simpa using c103))
                   (try (have c103b2 : (t231 == 2 && (t232.toList == ([104, 46, 111, 114, 103, 58, 56] : List UInt8) && (t233.toList == x9_2.toList && (t234.toList == x221003_26.toList && (t235 == x221004_26))))) = true := by simpa using c103))
                   clear c103
                   by_cases c104 : t243 = 0
                   ·rw [if_pos c104] at H
                    have c104b0 : (t243 == 0) = true := beq_iff_eq.mpr c104
                    have c104b1 : (t243 != 0) = false := bne_eq_false_iff_eq.mpr c104
                    clear c104
                    by_cases c105 : (t238 == 3 && (t239.toList == ([104, 46, 111, 114, 103, 58, 56] : List UInt8) && (t240.toList == ([] : List UInt8) && (t241.toList == ([] : List UInt8) && (!t242))))) = true
                    ·rw [if_pos c105] at H
                     have c105b0 : (t238 == 3 && (t239.toList == ([104, 46, 111, 114, 103, 58, 56] : List UInt8) && (t240.toList == ([] : List UInt8) && (t241.toList == ([] : List UInt8) && (!t242))))) = true := c105
                     (try (have c105ba : (t238 = 3 ∧ t239.toList = ([104, 46, 111, 114, 103, 58, 56] : List UInt8) ∧ t240.toList = ([] : List UInt8) ∧ t241.toList = ([] : List UInt8) ∧ t242 = false) = True := eq_true (by simpa using c105b0)))
                     (try (have c105b1 : decide (t238 = 3 && (t239.toList == ([104, 46, 111, 114, 103, 58, 56] : List UInt8) && (t240.toList == ([] : List UInt8) && (t241.toList == ([] : List UInt8) && (!t242))))) = true := by simpa using c105))
                     (try (have c105b2 : (t238 == 3 && (t239.toList == ([104, 46, 111, 114, 103, 58, 56] : List UInt8) && (t240.toList == ([] : List UInt8) && (t241.toList == ([] : List UInt8) && (!t242))))) = true := by simpa using c105))
                     clear c105
                     by_cases c106 : t251 = 400
                     ·rw [if_pos c106] at H
                      have c106b0 : (t251 == 400) = true := beq_iff_eq.mpr c106
                      have c106b1 : (t251 != 400) = false := bne_eq_false_iff_eq.mpr c106
                      clear c106
                      by_cases c107 : t258 = 400
                      ·rw [if_pos c107] at H
                       have c107b0 : (t258 == 400) = true := beq_iff_eq.mpr c107
                       have c107b1 : (t258 != 400) = false := bne_eq_false_iff_eq.mpr c107
                       clear c107
                       by_cases c108 : ((t265 == 0) == ((rdOf ByteArray.empty y216 (ji24)).toList == ([79, 80, 84, 73, 79, 78, 83] : List UInt8))) = true
                       ·rw [if_pos c108] at H
                        have c108b0 : ((t265 == 0) == ((rdOf ByteArray.empty y216 (ji24)).toList == ([79, 80, 84, 73, 79, 78, 83] : List UInt8))) = true := c108
                        (try (have c108b1 : decide ((t265 == 0) = ((rdOf ByteArray.empty y216 (ji24)).toList == ([79, 80, 84, 73, 79, 78, 83] : List UInt8))) = true := by simpa using c108))
                        (try (have c108b2 : ((t265 == 0) == ((rdOf ByteArray.empty y216 (ji24)).toList == ([79, 80, 84, 73, 79, 78, 83] : List UInt8))) = true := by simpa using c108))
                        clear c108
                        by_cases c109 : t265 = 0
                        ·rw [if_pos c109] at H
                         have c109b0 : (t265 == 0) = true := beq_iff_eq.mpr c109
                         have c109b1 : (t265 != 0) = false := bne_eq_false_iff_eq.mpr c109
                         clear c109
                         have c109x0 : ((rdOf ByteArray.empty y216 (ji24)).toList == ([79, 80, 84, 73, 79, 78, 83] : List UInt8)) = true := by have q_ := c108b0; rw [c109b0] at q_; simpa using q_
                         (try (have c109x1 : decide ((rdOf ByteArray.empty y216 (ji24)).toList = ([79, 80, 84, 73, 79, 78, 83] : List UInt8)) = true := by simpa using c109x0))
                         have H' := Aside0.mk H
                         clear H
                         have hnb110 := NB229_220.out
                         have hnc110 := NB220_229.out
                         have hnb111 := NB229_221.out
                         have hnc111 := NB221_229.out
                         have hnb112 := NB229_237.out
                         have hnc112 := NB237_229.out
                         have hnb113 := NB229_244.out
                         have hnc113 := NB244_229.out
                         have hnb114 := NB229_252.out
                         have hnc114 := NB252_229.out
                         have hnb115 := NB229_259.out
                         have hnc115 := NB259_229.out
                         have hnb116 := NB229_266.out
                         have hnc116 := NB266_229.out
                         have hcz117_0 : w91.cell? ⟨gb229, 0, none⟩ = some (.int .i64 t223) := (blk_cell BK229.out 0).trans rfl
                         have hcz117_1 : w91.cell? ⟨gb229, 1, none⟩ = some (.string t224) := (blk_cell BK229.out 1).trans rfl
                         have hcz117_2 : w91.cell? ⟨gb229, 2, none⟩ = some (.string t225) := (blk_cell BK229.out 2).trans rfl
                         have hcz117_3 : w91.cell? ⟨gb229, 3, none⟩ = some (.string t226) := (blk_cell BK229.out 3).trans rfl
                         have hcz117_4 : w91.cell? ⟨gb229, 4, none⟩ = some (.bool t227) := (blk_cell BK229.out 4).trans rfl
                         have hfz117_0 := blk_frozen BK229.out 0
                         have hfz117_1 := blk_frozen BK229.out 1
                         have hfz117_2 := blk_frozen BK229.out 2
                         have hfz117_3 := blk_frozen BK229.out 3
                         have hfz117_4 := blk_frozen BK229.out 4
                         have hnb118 := NB220_221.out
                         have hnc118 := NB221_220.out
                         have hnb119 := NB220_237.out
                         have hnc119 := NB237_220.out
                         have hnb120 := NB220_244.out
                         have hnc120 := NB244_220.out
                         have hnb121 := NB220_252.out
                         have hnc121 := NB252_220.out
                         have hnb122 := NB220_259.out
                         have hnc122 := NB259_220.out
                         have hnb123 := NB220_266.out
                         have hnc123 := NB266_220.out
                         have hcz124_0 : w91.cell? ⟨gb220, 0, none⟩ = some (.int .i64 1) := (blk_cell BK220.out 0).trans rfl
                         have hcz124_1 : w91.cell? ⟨gb220, 1, none⟩ = some (.string (⟨#[]⟩ : ByteArray)) := (blk_cell BK220.out 1).trans rfl
                         have hcz124_2 : w91.cell? ⟨gb220, 2, none⟩ = some (.string x9_2) := (blk_cell BK220.out 2).trans rfl
                         have hcz124_3 : w91.cell? ⟨gb220, 3, none⟩ = some (.string x221003_26) := (blk_cell BK220.out 3).trans rfl
                         have hcz124_4 : w91.cell? ⟨gb220, 4, none⟩ = some (.bool x221004_26) := (blk_cell BK220.out 4).trans rfl
                         have hfz124_0 := blk_frozen BK220.out 0
                         have hfz124_1 := blk_frozen BK220.out 1
                         have hfz124_2 := blk_frozen BK220.out 2
                         have hfz124_3 := blk_frozen BK220.out 3
                         have hfz124_4 := blk_frozen BK220.out 4
                         have hnb125 := NB237_221.out
                         have hnc125 := NB221_237.out
                         have hnb126 := NB237_244.out
                         have hnc126 := NB244_237.out
                         have hnb127 := NB237_252.out
                         have hnc127 := NB252_237.out
                         have hnb128 := NB237_259.out
                         have hnc128 := NB259_237.out
                         have hnb129 := NB237_266.out
                         have hnc129 := NB266_237.out
                         have hcz130_0 : w91.cell? ⟨gb237, 0, none⟩ = some (.int .i64 t231) := (blk_cell BK237.out 0).trans rfl
                         have hcz130_1 : w91.cell? ⟨gb237, 1, none⟩ = some (.string t232) := (blk_cell BK237.out 1).trans rfl
                         have hcz130_2 : w91.cell? ⟨gb237, 2, none⟩ = some (.string t233) := (blk_cell BK237.out 2).trans rfl
                         have hcz130_3 : w91.cell? ⟨gb237, 3, none⟩ = some (.string t234) := (blk_cell BK237.out 3).trans rfl
                         have hcz130_4 : w91.cell? ⟨gb237, 4, none⟩ = some (.bool t235) := (blk_cell BK237.out 4).trans rfl
                         have hfz130_0 := blk_frozen BK237.out 0
                         have hfz130_1 := blk_frozen BK237.out 1
                         have hfz130_2 := blk_frozen BK237.out 2
                         have hfz130_3 := blk_frozen BK237.out 3
                         have hfz130_4 := blk_frozen BK237.out 4
                         have hnb131 := NB221_244.out
                         have hnc131 := NB244_221.out
                         have hnb132 := NB221_252.out
                         have hnc132 := NB252_221.out
                         have hnb133 := NB221_259.out
                         have hnc133 := NB259_221.out
                         have hnb134 := NB221_266.out
                         have hnc134 := NB266_221.out
                         have hcz135_0 : w91.cell? ⟨gb221, 0, none⟩ = some (.int .i64 2) := (blk_cell BK221.out 0).trans rfl
                         have hcz135_1 : w91.cell? ⟨gb221, 1, none⟩ = some (.string (⟨#[104, 46, 111, 114, 103, 58, 56]⟩ : ByteArray)) := (blk_cell BK221.out 1).trans rfl
                         have hcz135_2 : w91.cell? ⟨gb221, 2, none⟩ = some (.string x9_2) := (blk_cell BK221.out 2).trans rfl
                         have hcz135_3 : w91.cell? ⟨gb221, 3, none⟩ = some (.string x221003_26) := (blk_cell BK221.out 3).trans rfl
                         have hcz135_4 : w91.cell? ⟨gb221, 4, none⟩ = some (.bool x221004_26) := (blk_cell BK221.out 4).trans rfl
                         have hfz135_0 := blk_frozen BK221.out 0
                         have hfz135_1 := blk_frozen BK221.out 1
                         have hfz135_2 := blk_frozen BK221.out 2
                         have hfz135_3 := blk_frozen BK221.out 3
                         have hfz135_4 := blk_frozen BK221.out 4
                         have hnb136 := NB244_252.out
                         have hnc136 := NB252_244.out
                         have hnb137 := NB244_259.out
                         have hnc137 := NB259_244.out
                         have hnb138 := NB244_266.out
                         have hnc138 := NB266_244.out
                         have hcz139_0 : w91.cell? ⟨gb244, 0, none⟩ = some (.int .i64 t238) := (blk_cell BK244.out 0).trans rfl
                         have hcz139_1 : w91.cell? ⟨gb244, 1, none⟩ = some (.string t239) := (blk_cell BK244.out 1).trans rfl
                         have hcz139_2 : w91.cell? ⟨gb244, 2, none⟩ = some (.string t240) := (blk_cell BK244.out 2).trans rfl
                         have hcz139_3 : w91.cell? ⟨gb244, 3, none⟩ = some (.string t241) := (blk_cell BK244.out 3).trans rfl
                         have hcz139_4 : w91.cell? ⟨gb244, 4, none⟩ = some (.bool t242) := (blk_cell BK244.out 4).trans rfl
                         have hfz139_0 := blk_frozen BK244.out 0
                         have hfz139_1 := blk_frozen BK244.out 1
                         have hfz139_2 := blk_frozen BK244.out 2
                         have hfz139_3 := blk_frozen BK244.out 3
                         have hfz139_4 := blk_frozen BK244.out 4
                         have hnb140 := NB266_252.out
                         have hnc140 := NB252_266.out
                         have hnb141 := NB266_259.out
                         have hnc141 := NB259_266.out
                         have hcz142_0 : w91.cell? ⟨gb266, 0, none⟩ = some (.int .i64 0) := (blk_cell BK266.out 0).trans rfl
                         have hcz142_1 : w91.cell? ⟨gb266, 1, none⟩ = some (.string (⟨#[]⟩ : ByteArray)) := (blk_cell BK266.out 1).trans rfl
                         have hcz142_2 : w91.cell? ⟨gb266, 2, none⟩ = some (.string (⟨#[]⟩ : ByteArray)) := (blk_cell BK266.out 2).trans rfl
                         have hcz142_3 : w91.cell? ⟨gb266, 3, none⟩ = some (.string (⟨#[]⟩ : ByteArray)) := (blk_cell BK266.out 3).trans rfl
                         have hcz142_4 : w91.cell? ⟨gb266, 4, none⟩ = some (.bool false) := (blk_cell BK266.out 4).trans rfl
                         have hfz142_0 := blk_frozen BK266.out 0
                         have hfz142_1 := blk_frozen BK266.out 1
                         have hfz142_2 := blk_frozen BK266.out 2
                         have hfz142_3 := blk_frozen BK266.out 3
                         have hfz142_4 := blk_frozen BK266.out 4
                         go_wp2
                         (try any_goals (exfalso; have h_ := ‹some undef = some (Value.bool _)›; revert h_; simp [undef]; done))
                         go_meet
                         case rel => exact ⟨_, ((t260 == 4)), (by first | rfl | (simp; done) | (simp [*]; done)), H', ⟨by have := HJ6.out; have := HK2.out; have := HJ20.out; have := HJ26.out; first | omega | exact Nat.le_refl _⟩, ⟨by (repeat ((with_reducible repeat (first | refine blk_drewN ?_ _ | refine blk_drew ?_ | refine blk_alloc ?_ _)); refine blk_far ?_ NB220_266.out _)); (with_reducible repeat (first | refine blk_drewN ?_ _ | refine blk_drew ?_ | refine blk_alloc ?_ _)); exact BK220.out⟩, ⟨by (repeat ((with_reducible repeat (first | refine blk_drewN ?_ _ | refine blk_drew ?_ | refine blk_alloc ?_ _)); refine blk_far ?_ NB221_266.out _)); (with_reducible repeat (first | refine blk_drewN ?_ _ | refine blk_drew ?_ | refine blk_alloc ?_ _)); exact BK221.out⟩, ⟨by (repeat ((with_reducible repeat (first | refine blk_drewN ?_ _ | refine blk_drew ?_ | refine blk_alloc ?_ _)); refine blk_far ?_ NB229_266.out _)); (with_reducible repeat (first | refine blk_drewN ?_ _ | refine blk_drew ?_ | refine blk_alloc ?_ _)); exact BK229.out⟩, ⟨by (repeat ((with_reducible repeat (first | refine blk_drewN ?_ _ | refine blk_drew ?_ | refine blk_alloc ?_ _)); refine blk_far ?_ NB237_266.out _)); (with_reducible repeat (first | refine blk_drewN ?_ _ | refine blk_drew ?_ | refine blk_alloc ?_ _)); exact BK237.out⟩, ⟨by (repeat ((with_reducible repeat (first | refine blk_drewN ?_ _ | refine blk_drew ?_ | refine blk_alloc ?_ _)); refine blk_far ?_ NB244_266.out _)); (with_reducible repeat (first | refine blk_drewN ?_ _ | refine blk_drew ?_ | refine blk_alloc ?_ _)); exact BK244.out⟩, ⟨by (repeat ((with_reducible repeat (first | refine blk_drewN ?_ _ | refine blk_drew ?_ | refine blk_alloc ?_ _)); refine blk_far ?_ NB252_266.out _)); (with_reducible repeat (first | refine blk_drewN ?_ _ | refine blk_drew ?_ | refine blk_alloc ?_ _)); exact BK252.out⟩, ⟨by (repeat ((with_reducible repeat (first | refine blk_drewN ?_ _ | refine blk_drew ?_ | refine blk_alloc ?_ _)); refine blk_far ?_ NB259_266.out _)); (with_reducible repeat (first | refine blk_drewN ?_ _ | refine blk_drew ?_ | refine blk_alloc ?_ _)); exact BK259.out⟩, ⟨by (with_reducible repeat (first | refine blk_drewN ?_ _ | refine blk_drew ?_ | refine blk_alloc ?_ _)); refine blk_put (cs := #[.int .i64 t260, .string t261, .string t262, .string t263, .bool false]) ?_ 4 _ rfl; (with_reducible repeat (first | refine blk_drewN ?_ _ | refine blk_drew ?_ | refine blk_alloc ?_ _)); refine blk_put (cs := #[.int .i64 t260, .string t261, .string t262, .string (⟨#[]⟩ : ByteArray), .bool false]) ?_ 3 _ rfl; (with_reducible repeat (first | refine blk_drewN ?_ _ | refine blk_drew ?_ | refine blk_alloc ?_ _)); refine blk_put (cs := #[.int .i64 t260, .string t261, .string (⟨#[]⟩ : ByteArray), .string (⟨#[]⟩ : ByteArray), .bool false]) ?_ 2 _ rfl; (with_reducible repeat (first | refine blk_drewN ?_ _ | refine blk_drew ?_ | refine blk_alloc ?_ _)); refine blk_put (cs := #[.int .i64 t260, .string (⟨#[]⟩ : ByteArray), .string (⟨#[]⟩ : ByteArray), .string (⟨#[]⟩ : ByteArray), .bool false]) ?_ 1 _ rfl; (with_reducible repeat (first | refine blk_drewN ?_ _ | refine blk_drew ?_ | refine blk_alloc ?_ _)); refine blk_put (cs := #[.int .i64 0, .string (⟨#[]⟩ : ByteArray), .string (⟨#[]⟩ : ByteArray), .string (⟨#[]⟩ : ByteArray), .bool false]) ?_ 0 _ rfl; (with_reducible repeat (first | refine blk_drewN ?_ _ | refine blk_drew ?_ | refine blk_alloc ?_ _)); exact BK266.out⟩, ⟨by repeat (first | (with_reducible first | exact HB.out | apply below_alloc | apply pw_below_drewN | apply below_drew1 | refine below_set ?_ GE220.out | refine below_set ?_ GE221.out | refine below_set ?_ GE229.out | refine below_set ?_ GE237.out | refine below_set ?_ GE244.out | refine below_set ?_ GE252.out | refine below_set ?_ GE259.out | refine below_set ?_ GE266.out) | exact HB.out)⟩⟩
                        ·rw [if_neg c109] at H
                         have c109b0 : (t265 == 0) = false := beq_eq_false_iff_ne.mpr c109
                         have c109b1 : (t265 != 0) = true := bne_iff_ne.mpr c109
                         have c109x0 : ((rdOf ByteArray.empty y216 (ji24)).toList == ([79, 80, 84, 73, 79, 78, 83] : List UInt8)) = false := by have q_ := c108b0; rw [c109b0] at q_; simpa using q_
                         (try (have c109x1 : decide ((rdOf ByteArray.empty y216 (ji24)).toList = ([79, 80, 84, 73, 79, 78, 83] : List UInt8)) = false := by simpa using c109x0))
                         have H' := Aside0.mk H
                         clear H
                         have hnb143 := NB229_220.out
                         have hnc143 := NB220_229.out
                         have hnb144 := NB229_221.out
                         have hnc144 := NB221_229.out
                         have hnb145 := NB229_237.out
                         have hnc145 := NB237_229.out
                         have hnb146 := NB229_244.out
                         have hnc146 := NB244_229.out
                         have hnb147 := NB229_252.out
                         have hnc147 := NB252_229.out
                         have hnb148 := NB229_259.out
                         have hnc148 := NB259_229.out
                         have hnb149 := NB229_266.out
                         have hnc149 := NB266_229.out
                         have hcz150_0 : w91.cell? ⟨gb229, 0, none⟩ = some (.int .i64 t223) := (blk_cell BK229.out 0).trans rfl
                         have hcz150_1 : w91.cell? ⟨gb229, 1, none⟩ = some (.string t224) := (blk_cell BK229.out 1).trans rfl
                         have hcz150_2 : w91.cell? ⟨gb229, 2, none⟩ = some (.string t225) := (blk_cell BK229.out 2).trans rfl
                         have hcz150_3 : w91.cell? ⟨gb229, 3, none⟩ = some (.string t226) := (blk_cell BK229.out 3).trans rfl
                         have hcz150_4 : w91.cell? ⟨gb229, 4, none⟩ = some (.bool t227) := (blk_cell BK229.out 4).trans rfl
                         have hfz150_0 := blk_frozen BK229.out 0
                         have hfz150_1 := blk_frozen BK229.out 1
                         have hfz150_2 := blk_frozen BK229.out 2
                         have hfz150_3 := blk_frozen BK229.out 3
                         have hfz150_4 := blk_frozen BK229.out 4
                         have hnb151 := NB220_221.out
                         have hnc151 := NB221_220.out
                         have hnb152 := NB220_237.out
                         have hnc152 := NB237_220.out
                         have hnb153 := NB220_244.out
                         have hnc153 := NB244_220.out
                         have hnb154 := NB220_252.out
                         have hnc154 := NB252_220.out
                         have hnb155 := NB220_259.out
                         have hnc155 := NB259_220.out
                         have hnb156 := NB220_266.out
                         have hnc156 := NB266_220.out
                         have hcz157_0 : w91.cell? ⟨gb220, 0, none⟩ = some (.int .i64 1) := (blk_cell BK220.out 0).trans rfl
                         have hcz157_1 : w91.cell? ⟨gb220, 1, none⟩ = some (.string (⟨#[]⟩ : ByteArray)) := (blk_cell BK220.out 1).trans rfl
                         have hcz157_2 : w91.cell? ⟨gb220, 2, none⟩ = some (.string x9_2) := (blk_cell BK220.out 2).trans rfl
                         have hcz157_3 : w91.cell? ⟨gb220, 3, none⟩ = some (.string x221003_26) := (blk_cell BK220.out 3).trans rfl
                         have hcz157_4 : w91.cell? ⟨gb220, 4, none⟩ = some (.bool x221004_26) := (blk_cell BK220.out 4).trans rfl
                         have hfz157_0 := blk_frozen BK220.out 0
                         have hfz157_1 := blk_frozen BK220.out 1
                         have hfz157_2 := blk_frozen BK220.out 2
                         have hfz157_3 := blk_frozen BK220.out 3
                         have hfz157_4 := blk_frozen BK220.out 4
                         have hnb158 := NB237_221.out
                         have hnc158 := NB221_237.out
                         have hnb159 := NB237_244.out
                         have hnc159 := NB244_237.out
                         have hnb160 := NB237_252.out
                         have hnc160 := NB252_237.out
                         have hnb161 := NB237_259.out
                         have hnc161 := NB259_237.out
                         have hnb162 := NB237_266.out
                         have hnc162 := NB266_237.out
                         have hcz163_0 : w91.cell? ⟨gb237, 0, none⟩ = some (.int .i64 t231) := (blk_cell BK237.out 0).trans rfl
                         have hcz163_1 : w91.cell? ⟨gb237, 1, none⟩ = some (.string t232) := (blk_cell BK237.out 1).trans rfl
                         have hcz163_2 : w91.cell? ⟨gb237, 2, none⟩ = some (.string t233) := (blk_cell BK237.out 2).trans rfl
                         have hcz163_3 : w91.cell? ⟨gb237, 3, none⟩ = some (.string t234) := (blk_cell BK237.out 3).trans rfl
                         have hcz163_4 : w91.cell? ⟨gb237, 4, none⟩ = some (.bool t235) := (blk_cell BK237.out 4).trans rfl
                         have hfz163_0 := blk_frozen BK237.out 0
                         have hfz163_1 := blk_frozen BK237.out 1
                         have hfz163_2 := blk_frozen BK237.out 2
                         have hfz163_3 := blk_frozen BK237.out 3
                         have hfz163_4 := blk_frozen BK237.out 4
                         have hnb164 := NB221_244.out
                         have hnc164 := NB244_221.out
                         have hnb165 := NB221_252.out
                         have hnc165 := NB252_221.out
                         have hnb166 := NB221_259.out
                         have hnc166 := NB259_221.out
                         have hnb167 := NB221_266.out
                         have hnc167 := NB266_221.out
                         have hcz168_0 : w91.cell? ⟨gb221, 0, none⟩ = some (.int .i64 2) := (blk_cell BK221.out 0).trans rfl
                         have hcz168_1 : w91.cell? ⟨gb221, 1, none⟩ = some (.string (⟨#[104, 46, 111, 114, 103, 58, 56]⟩ : ByteArray)) := (blk_cell BK221.out 1).trans rfl
                         have hcz168_2 : w91.cell? ⟨gb221, 2, none⟩ = some (.string x9_2) := (blk_cell BK221.out 2).trans rfl
                         have hcz168_3 : w91.cell? ⟨gb221, 3, none⟩ = some (.string x221003_26) := (blk_cell BK221.out 3).trans rfl
                         have hcz168_4 : w91.cell? ⟨gb221, 4, none⟩ = some (.bool x221004_26) := (blk_cell BK221.out 4).trans rfl
                         have hfz168_0 := blk_frozen BK221.out 0
                         have hfz168_1 := blk_frozen BK221.out 1
                         have hfz168_2 := blk_frozen BK221.out 2
                         have hfz168_3 := blk_frozen BK221.out 3
                         have hfz168_4 := blk_frozen BK221.out 4
                         have hnb169 := NB244_252.out
                         have hnc169 := NB252_244.out
                         have hnb170 := NB244_259.out
                         have hnc170 := NB259_244.out
                         have hnb171 := NB244_266.out
                         have hnc171 := NB266_244.out
                         have hcz172_0 : w91.cell? ⟨gb244, 0, none⟩ = some (.int .i64 t238) := (blk_cell BK244.out 0).trans rfl
                         have hcz172_1 : w91.cell? ⟨gb244, 1, none⟩ = some (.string t239) := (blk_cell BK244.out 1).trans rfl
                         have hcz172_2 : w91.cell? ⟨gb244, 2, none⟩ = some (.string t240) := (blk_cell BK244.out 2).trans rfl
                         have hcz172_3 : w91.cell? ⟨gb244, 3, none⟩ = some (.string t241) := (blk_cell BK244.out 3).trans rfl
                         have hcz172_4 : w91.cell? ⟨gb244, 4, none⟩ = some (.bool t242) := (blk_cell BK244.out 4).trans rfl
                         have hfz172_0 := blk_frozen BK244.out 0
                         have hfz172_1 := blk_frozen BK244.out 1
                         have hfz172_2 := blk_frozen BK244.out 2
                         have hfz172_3 := blk_frozen BK244.out 3
                         have hfz172_4 := blk_frozen BK244.out 4
                         go_wp2
                         (try any_goals (exfalso; have h_ := ‹some undef = some (Value.bool _)›; revert h_; simp [undef]; done))
                         go_meet
                         case rel => exact ⟨_, (true), (by first | rfl | (simp; done) | (simp [*]; done)), H', ⟨by have := HJ6.out; have := HK2.out; have := HJ20.out; have := HJ26.out; first | omega | exact Nat.le_refl _⟩, ⟨by (repeat ((with_reducible repeat (first | refine blk_drewN ?_ _ | refine blk_drew ?_ | refine blk_alloc ?_ _)); refine blk_far ?_ NB220_266.out _)); (with_reducible repeat (first | refine blk_drewN ?_ _ | refine blk_drew ?_ | refine blk_alloc ?_ _)); exact BK220.out⟩, ⟨by (repeat ((with_reducible repeat (first | refine blk_drewN ?_ _ | refine blk_drew ?_ | refine blk_alloc ?_ _)); refine blk_far ?_ NB221_266.out _)); (with_reducible repeat (first | refine blk_drewN ?_ _ | refine blk_drew ?_ | refine blk_alloc ?_ _)); exact BK221.out⟩, ⟨by (repeat ((with_reducible repeat (first | refine blk_drewN ?_ _ | refine blk_drew ?_ | refine blk_alloc ?_ _)); refine blk_far ?_ NB229_266.out _)); (with_reducible repeat (first | refine blk_drewN ?_ _ | refine blk_drew ?_ | refine blk_alloc ?_ _)); exact BK229.out⟩, ⟨by (repeat ((with_reducible repeat (first | refine blk_drewN ?_ _ | refine blk_drew ?_ | refine blk_alloc ?_ _)); refine blk_far ?_ NB237_266.out _)); (with_reducible repeat (first | refine blk_drewN ?_ _ | refine blk_drew ?_ | refine blk_alloc ?_ _)); exact BK237.out⟩, ⟨by (repeat ((with_reducible repeat (first | refine blk_drewN ?_ _ | refine blk_drew ?_ | refine blk_alloc ?_ _)); refine blk_far ?_ NB244_266.out _)); (with_reducible repeat (first | refine blk_drewN ?_ _ | refine blk_drew ?_ | refine blk_alloc ?_ _)); exact BK244.out⟩, ⟨by (repeat ((with_reducible repeat (first | refine blk_drewN ?_ _ | refine blk_drew ?_ | refine blk_alloc ?_ _)); refine blk_far ?_ NB252_266.out _)); (with_reducible repeat (first | refine blk_drewN ?_ _ | refine blk_drew ?_ | refine blk_alloc ?_ _)); exact BK252.out⟩, ⟨by (repeat ((with_reducible repeat (first | refine blk_drewN ?_ _ | refine blk_drew ?_ | refine blk_alloc ?_ _)); refine blk_far ?_ NB259_266.out _)); (with_reducible repeat (first | refine blk_drewN ?_ _ | refine blk_drew ?_ | refine blk_alloc ?_ _)); exact BK259.out⟩, ⟨by (with_reducible repeat (first | refine blk_drewN ?_ _ | refine blk_drew ?_ | refine blk_alloc ?_ _)); refine blk_put (cs := #[.int .i64 t260, .string t261, .string t262, .string t263, .bool false]) ?_ 4 _ rfl; (with_reducible repeat (first | refine blk_drewN ?_ _ | refine blk_drew ?_ | refine blk_alloc ?_ _)); refine blk_put (cs := #[.int .i64 t260, .string t261, .string t262, .string (⟨#[]⟩ : ByteArray), .bool false]) ?_ 3 _ rfl; (with_reducible repeat (first | refine blk_drewN ?_ _ | refine blk_drew ?_ | refine blk_alloc ?_ _)); refine blk_put (cs := #[.int .i64 t260, .string t261, .string (⟨#[]⟩ : ByteArray), .string (⟨#[]⟩ : ByteArray), .bool false]) ?_ 2 _ rfl; (with_reducible repeat (first | refine blk_drewN ?_ _ | refine blk_drew ?_ | refine blk_alloc ?_ _)); refine blk_put (cs := #[.int .i64 t260, .string (⟨#[]⟩ : ByteArray), .string (⟨#[]⟩ : ByteArray), .string (⟨#[]⟩ : ByteArray), .bool false]) ?_ 1 _ rfl; (with_reducible repeat (first | refine blk_drewN ?_ _ | refine blk_drew ?_ | refine blk_alloc ?_ _)); refine blk_put (cs := #[.int .i64 0, .string (⟨#[]⟩ : ByteArray), .string (⟨#[]⟩ : ByteArray), .string (⟨#[]⟩ : ByteArray), .bool false]) ?_ 0 _ rfl; (with_reducible repeat (first | refine blk_drewN ?_ _ | refine blk_drew ?_ | refine blk_alloc ?_ _)); exact BK266.out⟩, ⟨by repeat (first | (with_reducible first | exact HB.out | apply below_alloc | apply pw_below_drewN | apply below_drew1 | refine below_set ?_ GE220.out | refine below_set ?_ GE221.out | refine below_set ?_ GE229.out | refine below_set ?_ GE237.out | refine below_set ?_ GE244.out | refine below_set ?_ GE252.out | refine below_set ?_ GE259.out | refine below_set ?_ GE266.out) | exact HB.out)⟩⟩
                       ·rw [if_neg c108] at H
                        exact (parallaxlaw7_TargetForms.j4_no H HT.out).elim
                      ·rw [if_neg c107] at H
                       exact (parallaxlaw7_TargetForms.j4_no H HT.out).elim
                     ·rw [if_neg c106] at H
                      exact (parallaxlaw7_TargetForms.j4_no H HT.out).elim
                    ·rw [if_neg c105] at H
                     exact (parallaxlaw7_TargetForms.j4_no H HT.out).elim
                   ·rw [if_neg c104] at H
                    exact (parallaxlaw7_TargetForms.j4_no H HT.out).elim
                  ·rw [if_neg c103] at H
                   exact (parallaxlaw7_TargetForms.j4_no H HT.out).elim
                 ·rw [if_neg c102] at H
                  exact (parallaxlaw7_TargetForms.j4_no H HT.out).elim
                ·rw [if_neg c101] at H
                 exact (parallaxlaw7_TargetForms.j4_no H HT.out).elim
               ·rw [if_neg c100] at H
                exact (parallaxlaw7_TargetForms.j4_no H HT.out).elim
              case rest =>
               clear HC44
               try clear c1
               try clear c2
               try clear p2
               try clear c3
               try clear c10
               try clear c21
               try clear c22
               try clear c23
               try clear c24
               try clear c25
               try clear c26
               try clear c27
               try clear c28
               try clear c29
               try clear c30
               try clear c31
               try clear c32
               try clear c33
               try clear c34
               try clear c35
               try clear c36
               try clear c37
               try clear c100
               try clear c100b0
               try clear c100b1
               try clear c101
               try clear c101b0
               try clear c101b1
               try clear c101b2
               try clear c102
               try clear c102b0
               try clear c102b1
               try clear c103
               try clear c103b0
               try clear c103b1
               try clear c103b2
               try clear c104
               try clear c104b0
               try clear c104b1
               try clear c105
               try clear c105b0
               try clear c105b1
               try clear c105b2
               try clear c106
               try clear c106b0
               try clear c106b1
               try clear c218
               try clear c219
               try clear c220
               try clear c221
               try clear c222
               try clear c224
               try clear c225
               try clear c226
               try clear c227
               try clear c229
               try clear c230
               try clear c231
               try clear c233
               try clear c234
               try clear c235
               try clear c236
               try clear c237
               try clear c238
               try clear c239
               try clear c241
               try clear c242
               try clear c243
               try clear c244
               try clear c245
               try clear c246
               try clear c248
               try clear c249
               try clear c250
               try clear c251
               try clear c252
               try clear c254
               try clear c255
               try clear c256
               try clear c257
               try clear c259
               try clear c260
               try clear c261
               try clear c263
               try clear c264
               try clear c265
               try clear c266
               try clear c267
               try clear c268
               try clear c269
               try clear c271
               try clear c272
               try clear c273
               try clear c274
               try clear c275
               try clear c276
               try clear c278
               try clear c279
               try clear c280
               try clear c281
               try clear c282
               try clear c284
               try clear c285
               try clear c286
               try clear c287
               try clear c289
               try clear c290
               try clear c291
               try clear c293
               try clear c294
               try clear c295
               try clear c296
               try clear c297
               try clear c298
               try clear c299
               try clear c301
               try clear c302
               try clear c303
               try clear c304
               try clear c305
               try clear c306
               try clear c308
               try clear c309
               try clear c310
               try clear c311
               try clear c312
               try clear c314
               try clear c315
               try clear c316
               try clear c317
               try clear c319
               try clear c320
               try clear c321
               try clear c322
               try clear c323
               try clear c324
               try clear c325
               try clear c327
               try clear c328
               try clear c329
               try clear c330
               try clear c331
               try clear c332
               try clear c334
               try clear c335
               try clear c336
               try clear c337
               try clear c338
               try clear c340
               try clear c341
               try clear c342
               try clear c343
               try clear c345
               try clear c346
               try clear c347
               try clear c348
               try clear c349
               try clear c350
               try clear c351
               try clear c353
               try clear c354
               try clear c355
               try clear c356
               try clear c357
               try clear c358
               try clear c360
               try clear c361
               try clear c362
               try clear c363
               try clear c364
               try clear c365
               try clear c366
               try clear c368
               try clear c369
               try clear c370
               try clear c371
               try clear c372
               try clear c373
               try clear hcz217_3
               try clear hcz217_4
               try clear hcz223_0
               try clear hcz223_1
               try clear hcz223_2
               try clear hcz223_3
               try clear hcz223_4
               try clear hcz228_0
               try clear hcz228_1
               try clear hcz228_2
               try clear hcz228_3
               try clear hcz228_4
               try clear hcz232_0
               try clear hcz232_1
               try clear hcz232_2
               try clear hcz232_3
               try clear hcz232_4
               try clear hcz240_0
               try clear hcz240_1
               try clear hcz240_2
               try clear hcz240_3
               try clear hcz240_4
               try clear hcz247_0
               try clear hcz247_1
               try clear hcz247_2
               try clear hcz247_3
               try clear hcz247_4
               try clear hcz253_0
               try clear hcz253_1
               try clear hcz253_2
               try clear hcz253_3
               try clear hcz253_4
               try clear hcz258_0
               try clear hcz258_1
               try clear hcz258_2
               try clear hcz258_3
               try clear hcz258_4
               try clear hcz262_0
               try clear hcz262_1
               try clear hcz262_2
               try clear hcz262_3
               try clear hcz262_4
               try clear hcz270_0
               try clear hcz270_1
               try clear hcz270_2
               try clear hcz270_3
               try clear hcz270_4
               try clear hcz277_0
               try clear hcz277_1
               try clear hcz277_2
               try clear hcz277_3
               try clear hcz277_4
               try clear hcz283_0
               try clear hcz283_1
               try clear hcz283_2
               try clear hcz283_3
               try clear hcz283_4
               try clear hcz288_0
               try clear hcz288_1
               try clear hcz288_2
               try clear hcz288_3
               try clear hcz288_4
               try clear hcz292_0
               try clear hcz292_1
               try clear hcz292_2
               try clear hcz292_3
               try clear hcz292_4
               try clear hcz300_0
               try clear hcz300_1
               try clear hcz300_2
               try clear hcz300_3
               try clear hcz300_4
               try clear hcz307_0
               try clear hcz307_1
               try clear hcz307_2
               try clear hcz307_3
               try clear hcz307_4
               try clear hcz313_0
               try clear hcz313_1
               try clear hcz313_2
               try clear hcz313_3
               try clear hcz313_4
               try clear hcz318_0
               try clear hcz318_1
               try clear hcz318_2
               try clear hcz318_3
               try clear hcz318_4
               try clear hcz326_0
               try clear hcz326_1
               try clear hcz326_2
               try clear hcz326_3
               try clear hcz326_4
               try clear hcz333_0
               try clear hcz333_1
               try clear hcz333_2
               try clear hcz333_3
               try clear hcz333_4
               try clear hcz339_0
               try clear hcz339_1
               try clear hcz339_2
               try clear hcz339_3
               try clear hcz339_4
               try clear hcz344_0
               try clear hcz344_1
               try clear hcz344_2
               try clear hcz344_3
               try clear hcz344_4
               try clear hcz352_0
               try clear hcz352_1
               try clear hcz352_2
               try clear hcz352_3
               try clear hcz352_4
               try clear hcz359_0
               try clear hcz359_1
               try clear hcz359_2
               try clear hcz359_3
               try clear hcz359_4
               try clear hcz367_0
               try clear hcz367_1
               try clear hcz367_2
               try clear hcz367_3
               try clear hcz367_4
               try clear hcz374_0
               try clear hcz374_1
               try clear hcz374_2
               try clear hcz374_3
               try clear hcz374_4
               try clear hfz217_0
               try clear hfz217_1
               try clear hfz217_2
               try clear hfz217_3
               try clear hfz217_4
               try clear hfz223_0
               try clear hfz223_1
               try clear hfz223_2
               try clear hfz223_3
               try clear hfz223_4
               try clear hfz228_0
               try clear hfz228_1
               try clear hfz228_2
               try clear hfz228_3
               try clear hfz228_4
               try clear hfz232_0
               try clear hfz232_1
               try clear hfz232_2
               try clear hfz232_3
               try clear hfz232_4
               try clear hfz240_0
               try clear hfz240_1
               try clear hfz240_2
               try clear hfz240_3
               try clear hfz240_4
               try clear hfz247_0
               try clear hfz247_1
               try clear hfz247_2
               try clear hfz247_3
               try clear hfz247_4
               try clear hfz253_0
               try clear hfz253_1
               try clear hfz253_2
               try clear hfz253_3
               try clear hfz253_4
               try clear hfz258_0
               try clear hfz258_1
               try clear hfz258_2
               try clear hfz258_3
               try clear hfz258_4
               try clear hfz262_0
               try clear hfz262_1
               try clear hfz262_2
               try clear hfz262_3
               try clear hfz262_4
               try clear hfz270_0
               try clear hfz270_1
               try clear hfz270_2
               try clear hfz270_3
               try clear hfz270_4
               try clear hfz277_0
               try clear hfz277_1
               try clear hfz277_2
               try clear hfz277_3
               try clear hfz277_4
               try clear hfz283_0
               try clear hfz283_1
               try clear hfz283_2
               try clear hfz283_3
               try clear hfz283_4
               try clear hfz288_0
               try clear hfz288_1
               try clear hfz288_2
               try clear hfz288_3
               try clear hfz288_4
               try clear hfz292_0
               try clear hfz292_1
               try clear hfz292_2
               try clear hfz292_3
               try clear hfz292_4
               try clear hfz300_0
               try clear hfz300_1
               try clear hfz300_2
               try clear hfz300_3
               try clear hfz300_4
               try clear hfz307_0
               try clear hfz307_1
               try clear hfz307_2
               try clear hfz307_3
               try clear hfz307_4
               try clear hfz313_0
               try clear hfz313_1
               try clear hfz313_2
               try clear hfz313_3
               try clear hfz313_4
               try clear hfz318_0
               try clear hfz318_1
               try clear hfz318_2
               try clear hfz318_3
               try clear hfz318_4
               try clear hfz326_0
               try clear hfz326_1
               try clear hfz326_2
               try clear hfz326_3
               try clear hfz326_4
               try clear hfz333_0
               try clear hfz333_1
               try clear hfz333_2
               try clear hfz333_3
               try clear hfz333_4
               try clear hfz339_0
               try clear hfz339_1
               try clear hfz339_2
               try clear hfz339_3
               try clear hfz339_4
               try clear hfz344_0
               try clear hfz344_1
               try clear hfz344_2
               try clear hfz344_3
               try clear hfz344_4
               try clear hfz352_0
               try clear hfz352_1
               try clear hfz352_2
               try clear hfz352_3
               try clear hfz352_4
               try clear hfz359_0
               try clear hfz359_1
               try clear hfz359_2
               try clear hfz359_3
               try clear hfz359_4
               try clear hfz367_0
               try clear hfz367_1
               try clear hfz367_2
               try clear hfz367_3
               try clear hfz367_4
               try clear hfz374_0
               try clear hfz374_1
               try clear hfz374_2
               try clear hfz374_3
               try clear hfz374_4
               obtain ⟨kq, x8_43, rfl, HA, HJ43, BK220, BK221, BK229, BK237, BK244, BK252, BK259, BK266, HB⟩ := hcut
               cases kq with
               | zero => exact absurd HA.out (by simp [parallaxlaw7_TargetForms.j4])
               | succ kj43 =>
                have H := HA.out
                clear HA
                simp only [parallaxlaw7_TargetForms.j4] at H
                obtain rfl := Option.some.inj H
                go_wp2
                (try any_goals (exfalso; have h_ := ‹some undef = some (Value.bool _)›; revert h_; simp [undef]; done))
                go_ret
                exact ⟨by first | rfl | (simp [errW_none, errW_some] <;> rfl) | (simp only [← hji24]; first | rfl | (simp [errW_none, errW_some] <;> rfl)) | (simp [*, errW_none, errW_some] <;> rfl), by repeat (first | (with_reducible first | exact HB.out | apply below_alloc | apply pw_below_drewN | apply below_drew1 | refine below_set ?_ GE220.out | refine below_set ?_ GE221.out | refine below_set ?_ GE229.out | refine below_set ?_ GE237.out | refine below_set ?_ GE244.out | refine below_set ?_ GE252.out | refine below_set ?_ GE259.out | refine below_set ?_ GE266.out) | exact HB.out)⟩
           ·rw [if_neg c26] at H
            exact absurd H (by simp)
          ·rw [if_neg c25] at H
           exact absurd H (by simp)
 ·replace c6 := Bool.eq_false_iff.mpr c6
  subst c6
  rw [if_neg (show ¬ (false = true) by decide)] at H
  exact absurd ((Option.some.inj H).trans HT.out) (by decide)

/-- THE ONE PURE STATEMENT of parallaxlaw7_TargetForms: yours. -/
def parallaxlaw7_TargetForms.Pure : Prop := ∀ (l0 : List Int) (a1 : ByteArray) (a2 : Bool) (a3 : Int), l0.length ≤ maxLen → l0.length * 1 ≤ 140737488351232 → (∀ x ∈ l0, (Lit.int .u8 x).wf = true) → a1.size ≤ 140737488351232 → (Lit.int .u8 a3).wf = true → ∃ k, parallaxlaw7_TargetForms.f k l0 a1 a2 a3 = some true
theorem parallaxlaw7_TargetForms.walk (P : parallaxlaw7_TargetForms.Pure) (a0 : Option Addr) (len0 cap0 : Nat) (z0 : List Int) (a1 : ByteArray) (a2 : Bool) (a3 : Int) (w : World) (w0 : (a0 = none ∧ len0 = 0 ∧ cap0 = 0 ∧ z0 = []) ∨ ∃ x, a0 = some x ∧ len0 ≤ cap0 ∧ cap0 ≤ maxLen ∧ z0.length = cap0 ∧ (∀ i, i < z0.length → w.cell? (x.add i) = some (.int .u8 (z0.getD i 0))) ∧ ∀ n ∈ z0, (Lit.int .u8 n).wf = true) (y0 : len0 * 1 ≤ 140737488351232) (w1 : a1.size ≤ 140737488351232) (w3 : (Lit.int .u8 a3).wf = true) :
  Calls Try.prog 6 #[.slice a0 len0 cap0, .string a1, .bool a2, .int .u8 a3] w fun e w' => e = .returned (.bool true) ∧ Below w.heap.size w w' := by
 obtain ⟨l0, rfl, hr0, hm0, hw0, hc0⟩ := ReadsInt.ofRowC w0
 obtain ⟨k, h⟩ := P l0 a1 a2 a3 hm0 y0 hw0 w1 w3
 refine (parallaxlaw7_TargetForms.calls k _ _ l0 a1 a2 a3 true w (Kd.C_of_reads (d := (0 : Int)) (h1 := fun _ => rfl) hr0) hc0 w3 rfl h).mono ?_
 rintro e w' ⟨rfl, hd⟩
 exact ⟨rfl, hd⟩

end Go.Proofs.Ytnnehbbfokoklaa.PTargetForms
