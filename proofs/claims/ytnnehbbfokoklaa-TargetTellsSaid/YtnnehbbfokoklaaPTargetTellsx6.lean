-- Written by a program of this session (wip/tools/myprint.sh)
import Derived.Test.YtnnehbbfokoklaaPTargetTellsx0
import Derived.Test.YtnnehbbfokoklaaPTargetTellsx3
import Derived.Test.YtnnehbbfokoklaaPTargetTellsx4
import Derived.Test.YtnnehbbfokoklaaPTargetTellsx5
namespace Go.Proofs.Ytnnehbbfokoklaa.PTargetTells
open Go.RowKit Go.Proofs.YtnnehbbfokoklaaW.PrintWords Go.Proofs.YtnnehbbfokoklaaW.PrintLast Go.Proofs.YtnnehbbfokoklaaW.PrintMore
attribute [local go_sem] max2_int min2_int max_two min_two max_three min_three max_four min_four   -- for this text's walks alone
set_option linter.unusedVariables false
set_option linter.unusedSimpArgs false

/-! ### parallaxlaw7_known: function 7 -/
def parallaxlaw7_known.j0 : Nat → Bool → Option (Bool)
 | 0, _ => none
 | k + 1, x0 => some x0
def parallaxlaw7_known.f (k : Nat)  : Option (Bool) := (target_Parse.f k (⟨#[71, 69, 84]⟩ : ByteArray) (⟨#[47, 97, 63, 98]⟩ : ByteArray)).bind fun bt175 => ((target_Parse.f k (⟨#[71, 69, 84]⟩ : ByteArray) (⟨#[104, 116, 116, 112, 58, 47, 47, 104, 63, 113]⟩ : ByteArray)).bind fun bt182 => ((target_Parse.f k (⟨#[71, 69, 84]⟩ : ByteArray) (⟨#[97]⟩ : ByteArray)).bind fun bt189 => ((target_Parse.f k (⟨#[79, 80, 84, 73, 79, 78, 83]⟩ : ByteArray) (⟨#[42]⟩ : ByteArray)).bind fun bt196 => (if bt175.2.2.2.2.2 = 0 then (if bt175.1 = 1 then (if bt175.2.2.1.toList = ([47, 97] : List UInt8) then (if bt175.2.2.2.1.toList = ([98] : List UInt8) then (if bt175.2.2.2.2.1 = true then (if bt182.2.2.2.2.2 = 0 then (if bt182.2.1.toList = ([104] : List UInt8) then (if bt182.2.2.1.toList = ([47] : List UInt8) then (if bt189.2.2.2.2.2 = 400 then (if bt196.2.2.2.2.2 = 0 then (if bt196.1 = 4 then ((target_Host.f k (⟨#[97, 46, 98, 58, 56, 48]⟩ : ByteArray)).bind fun t203 => (if t203 = true then ((target_Host.f k (⟨#[97, 58]⟩ : ByteArray)).bind fun t204 => (if t204 = true then (parallaxlaw7_known.j0 k false) else ((target_Path.f k (⟨#[47, 37, 52, 49]⟩ : ByteArray)).bind fun t205 => (if t205 = true then ((target_Path.f k (⟨#[47, 37, 52]⟩ : ByteArray)).bind fun t206 => (if t206 = true then (parallaxlaw7_known.j0 k false) else ((target_Query.f k (⟨#[97, 63, 98]⟩ : ByteArray)).bind fun t207 => (if t207 = true then ((target_Put.f k bt175.1 bt175.2.1 bt175.2.2.1 bt175.2.2.2.1 bt175.2.2.2.2.1).bind fun t208 => (parallaxlaw7_known.j0 k (t208.toList == ([47, 97, 63, 98] : List UInt8)))) else (parallaxlaw7_known.j0 k false))))) else (parallaxlaw7_known.j0 k false))))) else (parallaxlaw7_known.j0 k false))) else (parallaxlaw7_known.j0 k false)) else (parallaxlaw7_known.j0 k false)) else (parallaxlaw7_known.j0 k false)) else (parallaxlaw7_known.j0 k false)) else (parallaxlaw7_known.j0 k false)) else (parallaxlaw7_known.j0 k false)) else (parallaxlaw7_known.j0 k false)) else (parallaxlaw7_known.j0 k false)) else (parallaxlaw7_known.j0 k false)) else (parallaxlaw7_known.j0 k false)) else (parallaxlaw7_known.j0 k false)))))
theorem parallaxlaw7_known.mono_l : ∀ k, (∀ y0, LeO (parallaxlaw7_known.j0 k y0) (parallaxlaw7_known.j0 (k + 1) y0))
 | 0 => fun _ r h => by simp [parallaxlaw7_known.j0] at h
 | k + 1 => by
  have ih0 := parallaxlaw7_known.mono_l k
  ·intro y0
   unfold parallaxlaw7_known.j0
   repeat' first
   | (with_reducible exact ih0 _)
   | (with_reducible exact target_Host.mono _ _)
   | (with_reducible exact target_Parse.mono _ _ _)
   | (with_reducible exact target_Path.mono _ _)
   | (with_reducible exact target_Put.mono _ _ _ _ _ _)
   | (with_reducible exact target_Query.mono _ _)
   | (with_reducible exact LeO.refl _)
   | (with_reducible exact LeO.none _)
   | (with_reducible refine LeO.ite ?_ ?_)
   | (with_reducible refine LeO.bind ?_ (fun _ => ?_))
   | exact ih0 _
   | exact target_Host.mono _ _
   | exact target_Parse.mono _ _ _
   | exact target_Path.mono _ _
   | exact target_Put.mono _ _ _ _ _ _
   | exact target_Query.mono _ _
   | exact LeO.none _
   | refine LeO.ite ?_ ?_
   | refine LeO.bind ?_ (fun _ => ?_)
theorem parallaxlaw7_known.mono : ∀ k, LeO (parallaxlaw7_known.f k ) (parallaxlaw7_known.f (k + 1) ) := by
 intro  k
 have ih0 := parallaxlaw7_known.mono_l k
 unfold parallaxlaw7_known.f
 repeat' first
   | (with_reducible exact ih0 _)
   | (with_reducible exact target_Host.mono _ _)
   | (with_reducible exact target_Parse.mono _ _ _)
   | (with_reducible exact target_Path.mono _ _)
   | (with_reducible exact target_Put.mono _ _ _ _ _ _)
   | (with_reducible exact target_Query.mono _ _)
   | (with_reducible exact LeO.refl _)
   | (with_reducible exact LeO.none _)
   | (with_reducible refine LeO.ite ?_ ?_)
   | (with_reducible refine LeO.bind ?_ (fun _ => ?_))
   | exact ih0 _
   | exact target_Host.mono _ _
   | exact target_Parse.mono _ _ _
   | exact target_Path.mono _ _
   | exact target_Put.mono _ _ _ _ _ _
   | exact target_Query.mono _ _
   | exact LeO.none _
   | refine LeO.ite ?_ ?_
   | refine LeO.bind ?_ (fun _ => ?_)
set_option maxHeartbeats 8000000 in
set_option maxRecDepth 100000 in
theorem parallaxlaw7_known.calls (k : Nat)  (r : Bool) (w : World) (hT : r = true) (h : parallaxlaw7_known.f k  = some r) :
  Calls Try.prog 7 #[] w fun e w' => e = .returned (.bool r) ∧ Below w.heap.size w w' := by
 have hu27 := Try.underlying27
 have HT := Aside0.mk hT
 clear hT
 have HB := Aside0.mk (Below.refl w.heap.size w)
 have H : ((target_Parse.f k (⟨#[71, 69, 84]⟩ : ByteArray) (⟨#[47, 97, 63, 98]⟩ : ByteArray)).bind fun bt175 => ((target_Parse.f k (⟨#[71, 69, 84]⟩ : ByteArray) (⟨#[104, 116, 116, 112, 58, 47, 47, 104, 63, 113]⟩ : ByteArray)).bind fun bt182 => ((target_Parse.f k (⟨#[71, 69, 84]⟩ : ByteArray) (⟨#[97]⟩ : ByteArray)).bind fun bt189 => ((target_Parse.f k (⟨#[79, 80, 84, 73, 79, 78, 83]⟩ : ByteArray) (⟨#[42]⟩ : ByteArray)).bind fun bt196 => (if bt175.2.2.2.2.2 = 0 then (if bt175.1 = 1 then (if bt175.2.2.1.toList = ([47, 97] : List UInt8) then (if bt175.2.2.2.1.toList = ([98] : List UInt8) then (if bt175.2.2.2.2.1 = true then (if bt182.2.2.2.2.2 = 0 then (if bt182.2.1.toList = ([104] : List UInt8) then (if bt182.2.2.1.toList = ([47] : List UInt8) then (if bt189.2.2.2.2.2 = 400 then (if bt196.2.2.2.2.2 = 0 then (if bt196.1 = 4 then ((target_Host.f k (⟨#[97, 46, 98, 58, 56, 48]⟩ : ByteArray)).bind fun t203 => (if t203 = true then ((target_Host.f k (⟨#[97, 58]⟩ : ByteArray)).bind fun t204 => (if t204 = true then (parallaxlaw7_known.j0 k false) else ((target_Path.f k (⟨#[47, 37, 52, 49]⟩ : ByteArray)).bind fun t205 => (if t205 = true then ((target_Path.f k (⟨#[47, 37, 52]⟩ : ByteArray)).bind fun t206 => (if t206 = true then (parallaxlaw7_known.j0 k false) else ((target_Query.f k (⟨#[97, 63, 98]⟩ : ByteArray)).bind fun t207 => (if t207 = true then ((target_Put.f k bt175.1 bt175.2.1 bt175.2.2.1 bt175.2.2.2.1 bt175.2.2.2.2.1).bind fun t208 => (parallaxlaw7_known.j0 k (t208.toList == ([47, 97, 63, 98] : List UInt8)))) else (parallaxlaw7_known.j0 k false))))) else (parallaxlaw7_known.j0 k false))))) else (parallaxlaw7_known.j0 k false))) else (parallaxlaw7_known.j0 k false)) else (parallaxlaw7_known.j0 k false)) else (parallaxlaw7_known.j0 k false)) else (parallaxlaw7_known.j0 k false)) else (parallaxlaw7_known.j0 k false)) else (parallaxlaw7_known.j0 k false)) else (parallaxlaw7_known.j0 k false)) else (parallaxlaw7_known.j0 k false)) else (parallaxlaw7_known.j0 k false)) else (parallaxlaw7_known.j0 k false)) else (parallaxlaw7_known.j0 k false)))))) = some r := h
 clear h
 replace H := Option.bind_eq_some_iff.mp H
 obtain ⟨⟨t175, t176, t177, t178, t179, t180⟩, A10, H⟩ := H
 (try dsimp only at H)
 have A1 := Aside0.mk A10
 clear A10
 replace H := Option.bind_eq_some_iff.mp H
 obtain ⟨⟨t182, t183, t184, t185, t186, t187⟩, A20, H⟩ := H
 (try dsimp only at H)
 have A2 := Aside0.mk A20
 clear A20
 replace H := Option.bind_eq_some_iff.mp H
 obtain ⟨⟨t189, t190, t191, t192, t193, t194⟩, A30, H⟩ := H
 (try dsimp only at H)
 have A3 := Aside0.mk A30
 clear A30
 replace H := Option.bind_eq_some_iff.mp H
 obtain ⟨⟨t196, t197, t198, t199, t200, t201⟩, A40, H⟩ := H
 (try dsimp only at H)
 have A4 := Aside0.mk A40
 clear A40
 have HC5 := Aside0.mk H
 clear H
 go_enter Try.func7, Try.ntmps7
 go_upto_region 5 with (first | ((with_reducible refine gate_callee (f := 9) rfl ?_); refine goesL_ (some 10) rfl rfl Try.func9 (by kernel_rfl) rfl #[.string (⟨#[71, 69, 84]⟩ : ByteArray), .string (⟨#[47, 97, 63, 98]⟩ : ByteArray)] rfl (by (try simp only [List.map_toArray, List.map_cons, List.map_nil]); first | done | rfl | (simp only [List.length_drop, List.length_take]; rfl)) ?_; (with_reducible refine (target_Parse.calls k (⟨#[71, 69, 84]⟩ : ByteArray) (⟨#[47, 97, 63, 98]⟩ : ByteArray) t175 t176 t177 t178 t179 t180 _ A1.out).mono ?_); rintro e w6 ⟨rfl, hb⟩; refine ⟨_, rfl, ?_⟩; have n0_ := Aside0.mk (below_step (by repeat (first | (with_reducible first | exact HB.out | apply below_alloc | apply pw_below_drewN | apply below_drew1) | exact HB.out)) hb); clear HB; have HB := n0_; clear n0_; (try clear hb); (try clear hb2); (try clear hk); (try clear hi)) | ((with_reducible refine gate_dst (N := 1) rfl ?_); refine box_event ?hg (N := 1) ?hd (cs := #[.int .i64 0, .string (⟨#[]⟩ : ByteArray), .string (⟨#[]⟩ : ByteArray), .string (⟨#[]⟩ : ByteArray), .bool false]) (t := 27) ?hr ?_; (case hd => rfl); (case hg => rfl); (case hr => first | (go_simp; done) | (go_simp; rfl)); intro gb181 hg w7 hbox hb; have n0_ := Aside0.mk (below_step (by repeat (first | (with_reducible first | exact HB.out | apply below_alloc | apply pw_below_drewN | apply below_drew1) | exact HB.out)) hb); have n1_ := Aside0.mk (hbox); have n2_ := Aside0.mk ((by rw [hg]; exact (below_size (by repeat (first | (with_reducible first | exact HB.out | apply below_alloc | apply pw_below_drewN | apply below_drew1) | exact HB.out))) : w.heap.size ≤ gb181)); have n3_ := Aside0.mk ((by rw [hg]; exact (below_size (by repeat (first | (with_reducible first | exact HB.out | apply below_alloc | apply pw_below_drewN | apply below_drew1) | exact HB.out))) : w.heap.size ≤ gb181)); clear HB; have HB := n0_; have BK181 := n1_; have GW181 := n2_; have GE181 := n3_; clear n0_ n1_ n2_ n3_; clear hb hbox hg; have hcz8_0 : w7.cell? ⟨gb181, 0, none⟩ = some (.int .i64 0) := (blk_cell BK181.out 0).trans rfl; have hcz8_1 : w7.cell? ⟨gb181, 1, none⟩ = some (.string (⟨#[]⟩ : ByteArray)) := (blk_cell BK181.out 1).trans rfl; have hcz8_2 : w7.cell? ⟨gb181, 2, none⟩ = some (.string (⟨#[]⟩ : ByteArray)) := (blk_cell BK181.out 2).trans rfl; have hcz8_3 : w7.cell? ⟨gb181, 3, none⟩ = some (.string (⟨#[]⟩ : ByteArray)) := (blk_cell BK181.out 3).trans rfl; have hcz8_4 : w7.cell? ⟨gb181, 4, none⟩ = some (.bool false) := (blk_cell BK181.out 4).trans rfl; have hfz8_0 := blk_frozen BK181.out 0; have hfz8_1 := blk_frozen BK181.out 1; have hfz8_2 := blk_frozen BK181.out 2; have hfz8_3 := blk_frozen BK181.out 3; have hfz8_4 := blk_frozen BK181.out 4) | ((with_reducible refine gate_callee (f := 9) rfl ?_); refine goesL_ (some 14) rfl rfl Try.func9 (by kernel_rfl) rfl #[.string (⟨#[71, 69, 84]⟩ : ByteArray), .string (⟨#[104, 116, 116, 112, 58, 47, 47, 104, 63, 113]⟩ : ByteArray)] rfl (by (try simp only [List.map_toArray, List.map_cons, List.map_nil]); first | done | rfl | (simp only [List.length_drop, List.length_take]; rfl)) ?_; (with_reducible refine (target_Parse.calls k (⟨#[71, 69, 84]⟩ : ByteArray) (⟨#[104, 116, 116, 112, 58, 47, 47, 104, 63, 113]⟩ : ByteArray) t182 t183 t184 t185 t186 t187 _ A2.out).mono ?_); rintro e w9 ⟨rfl, hb⟩; refine ⟨_, rfl, ?_⟩; have n0_ := Aside0.mk (blk_below (g := gb181) (o := .cells #[.int .i64 t175, .string t176, .string t177, .string t178, .bool t179] 27 (0, 0)) (by (with_reducible repeat (first | refine blk_drewN ?_ _ | refine blk_drew ?_ | refine blk_alloc ?_ _)); refine blk_put (cs := #[.int .i64 t175, .string t176, .string t177, .string t178, .bool false]) ?_ 4 _ rfl; (with_reducible repeat (first | refine blk_drewN ?_ _ | refine blk_drew ?_ | refine blk_alloc ?_ _)); refine blk_put (cs := #[.int .i64 t175, .string t176, .string t177, .string (⟨#[]⟩ : ByteArray), .bool false]) ?_ 3 _ rfl; (with_reducible repeat (first | refine blk_drewN ?_ _ | refine blk_drew ?_ | refine blk_alloc ?_ _)); refine blk_put (cs := #[.int .i64 t175, .string t176, .string (⟨#[]⟩ : ByteArray), .string (⟨#[]⟩ : ByteArray), .bool false]) ?_ 2 _ rfl; (with_reducible repeat (first | refine blk_drewN ?_ _ | refine blk_drew ?_ | refine blk_alloc ?_ _)); refine blk_put (cs := #[.int .i64 t175, .string (⟨#[]⟩ : ByteArray), .string (⟨#[]⟩ : ByteArray), .string (⟨#[]⟩ : ByteArray), .bool false]) ?_ 1 _ rfl; (with_reducible repeat (first | refine blk_drewN ?_ _ | refine blk_drew ?_ | refine blk_alloc ?_ _)); refine blk_put (cs := #[.int .i64 0, .string (⟨#[]⟩ : ByteArray), .string (⟨#[]⟩ : ByteArray), .string (⟨#[]⟩ : ByteArray), .bool false]) ?_ 0 _ rfl; (with_reducible repeat (first | refine blk_drewN ?_ _ | refine blk_drew ?_ | refine blk_alloc ?_ _)); exact BK181.out) hb); have n1_ := Aside0.mk (below_step (by repeat (first | (with_reducible first | exact HB.out | apply below_alloc | apply pw_below_drewN | apply below_drew1 | refine below_set ?_ GE181.out) | exact HB.out)) hb); clear BK181; clear HB; have BK181 := n0_; have HB := n1_; clear n0_ n1_; (try clear hb); (try clear hb2); (try clear hk); (try clear hi)) | ((with_reducible refine gate_dst (N := 3) rfl ?_); refine box_event ?hg (N := 3) ?hd (cs := #[.int .i64 0, .string (⟨#[]⟩ : ByteArray), .string (⟨#[]⟩ : ByteArray), .string (⟨#[]⟩ : ByteArray), .bool false]) (t := 27) ?hr ?_; (case hd => rfl); (case hg => rfl); (case hr => first | (go_simp; done) | (go_simp; rfl)); intro gb188 hg w10 hbox hb; have n0_ := Aside0.mk (blk_below (g := gb181) (o := .cells #[.int .i64 t175, .string t176, .string t177, .string t178, .bool t179] 27 (0, 0)) (by (with_reducible repeat (first | refine blk_drewN ?_ _ | refine blk_drew ?_ | refine blk_alloc ?_ _)); exact BK181.out) hb); have n1_ := Aside0.mk (below_step (by repeat (first | (with_reducible first | exact HB.out | apply below_alloc | apply pw_below_drewN | apply below_drew1 | refine below_set ?_ GE181.out) | exact HB.out)) hb); have n2_ := Aside0.mk (hbox); have n3_ := Aside0.mk ((by rw [hg]; exact (below_size (by repeat (first | (with_reducible first | exact HB.out | apply below_alloc | apply pw_below_drewN | apply below_drew1 | refine below_set ?_ GE181.out) | exact HB.out))) : w.heap.size ≤ gb188)); have n4_ := Aside0.mk ((by rw [hg]; exact (below_size (by repeat (first | (with_reducible first | exact HB.out | apply below_alloc | apply pw_below_drewN | apply below_drew1 | refine below_set ?_ GE181.out) | exact HB.out))) : w.heap.size ≤ gb188)); have n5_ := Aside0.mk ((by rw [hg]; exact Nat.ne_of_lt (blk_lt (g := gb181) (o := .cells #[.int .i64 t175, .string t176, .string t177, .string t178, .bool t179] 27 (0, 0)) (by (with_reducible repeat (first | refine blk_drewN ?_ _ | refine blk_drew ?_ | refine blk_alloc ?_ _)); exact BK181.out)) : gb181 ≠ gb188)); have n6_ := Aside0.mk ((by rw [hg]; exact Nat.ne_of_gt (blk_lt (g := gb181) (o := .cells #[.int .i64 t175, .string t176, .string t177, .string t178, .bool t179] 27 (0, 0)) (by (with_reducible repeat (first | refine blk_drewN ?_ _ | refine blk_drew ?_ | refine blk_alloc ?_ _)); exact BK181.out)) : gb188 ≠ gb181)); clear BK181; clear HB; have BK181 := n0_; have HB := n1_; have BK188 := n2_; have GW188 := n3_; have GE188 := n4_; have NB181_188 := n5_; have NB188_181 := n6_; clear n0_ n1_ n2_ n3_ n4_ n5_ n6_; clear hb hbox hg; have hnb11 := NB188_181.out; have hnc11 := NB181_188.out; have hcz12_0 : w10.cell? ⟨gb188, 0, none⟩ = some (.int .i64 0) := (blk_cell BK188.out 0).trans rfl; have hcz12_1 : w10.cell? ⟨gb188, 1, none⟩ = some (.string (⟨#[]⟩ : ByteArray)) := (blk_cell BK188.out 1).trans rfl; have hcz12_2 : w10.cell? ⟨gb188, 2, none⟩ = some (.string (⟨#[]⟩ : ByteArray)) := (blk_cell BK188.out 2).trans rfl; have hcz12_3 : w10.cell? ⟨gb188, 3, none⟩ = some (.string (⟨#[]⟩ : ByteArray)) := (blk_cell BK188.out 3).trans rfl; have hcz12_4 : w10.cell? ⟨gb188, 4, none⟩ = some (.bool false) := (blk_cell BK188.out 4).trans rfl; have hfz12_0 := blk_frozen BK188.out 0; have hfz12_1 := blk_frozen BK188.out 1; have hfz12_2 := blk_frozen BK188.out 2; have hfz12_3 := blk_frozen BK188.out 3; have hfz12_4 := blk_frozen BK188.out 4) | ((with_reducible refine gate_callee (f := 9) rfl ?_); refine goesL_ (some 18) rfl rfl Try.func9 (by kernel_rfl) rfl #[.string (⟨#[71, 69, 84]⟩ : ByteArray), .string (⟨#[97]⟩ : ByteArray)] rfl (by (try simp only [List.map_toArray, List.map_cons, List.map_nil]); first | done | rfl | (simp only [List.length_drop, List.length_take]; rfl)) ?_; (with_reducible refine (target_Parse.calls k (⟨#[71, 69, 84]⟩ : ByteArray) (⟨#[97]⟩ : ByteArray) t189 t190 t191 t192 t193 t194 _ A3.out).mono ?_); rintro e w13 ⟨rfl, hb⟩; refine ⟨_, rfl, ?_⟩; have n0_ := Aside0.mk (blk_below (g := gb181) (o := .cells #[.int .i64 t175, .string t176, .string t177, .string t178, .bool t179] 27 (0, 0)) (by (repeat ((with_reducible repeat (first | refine blk_drewN ?_ _ | refine blk_drew ?_ | refine blk_alloc ?_ _)); refine blk_far ?_ NB181_188.out _)); (with_reducible repeat (first | refine blk_drewN ?_ _ | refine blk_drew ?_ | refine blk_alloc ?_ _)); exact BK181.out) hb); have n1_ := Aside0.mk (blk_below (g := gb188) (o := .cells #[.int .i64 t182, .string t183, .string t184, .string t185, .bool t186] 27 (0, 0)) (by (with_reducible repeat (first | refine blk_drewN ?_ _ | refine blk_drew ?_ | refine blk_alloc ?_ _)); refine blk_put (cs := #[.int .i64 t182, .string t183, .string t184, .string t185, .bool false]) ?_ 4 _ rfl; (with_reducible repeat (first | refine blk_drewN ?_ _ | refine blk_drew ?_ | refine blk_alloc ?_ _)); refine blk_put (cs := #[.int .i64 t182, .string t183, .string t184, .string (⟨#[]⟩ : ByteArray), .bool false]) ?_ 3 _ rfl; (with_reducible repeat (first | refine blk_drewN ?_ _ | refine blk_drew ?_ | refine blk_alloc ?_ _)); refine blk_put (cs := #[.int .i64 t182, .string t183, .string (⟨#[]⟩ : ByteArray), .string (⟨#[]⟩ : ByteArray), .bool false]) ?_ 2 _ rfl; (with_reducible repeat (first | refine blk_drewN ?_ _ | refine blk_drew ?_ | refine blk_alloc ?_ _)); refine blk_put (cs := #[.int .i64 t182, .string (⟨#[]⟩ : ByteArray), .string (⟨#[]⟩ : ByteArray), .string (⟨#[]⟩ : ByteArray), .bool false]) ?_ 1 _ rfl; (with_reducible repeat (first | refine blk_drewN ?_ _ | refine blk_drew ?_ | refine blk_alloc ?_ _)); refine blk_put (cs := #[.int .i64 0, .string (⟨#[]⟩ : ByteArray), .string (⟨#[]⟩ : ByteArray), .string (⟨#[]⟩ : ByteArray), .bool false]) ?_ 0 _ rfl; (with_reducible repeat (first | refine blk_drewN ?_ _ | refine blk_drew ?_ | refine blk_alloc ?_ _)); exact BK188.out) hb); have n2_ := Aside0.mk (below_step (by repeat (first | (with_reducible first | exact HB.out | apply below_alloc | apply pw_below_drewN | apply below_drew1 | refine below_set ?_ GE181.out | refine below_set ?_ GE188.out) | exact HB.out)) hb); clear BK181; clear BK188; clear HB; have BK181 := n0_; have BK188 := n1_; have HB := n2_; clear n0_ n1_ n2_; (try clear hb); (try clear hb2); (try clear hk); (try clear hi)) | ((with_reducible refine gate_dst (N := 5) rfl ?_); refine box_event ?hg (N := 5) ?hd (cs := #[.int .i64 0, .string (⟨#[]⟩ : ByteArray), .string (⟨#[]⟩ : ByteArray), .string (⟨#[]⟩ : ByteArray), .bool false]) (t := 27) ?hr ?_; (case hd => rfl); (case hg => rfl); (case hr => first | (go_simp; done) | (go_simp; rfl)); intro gb195 hg w14 hbox hb; have n0_ := Aside0.mk (blk_below (g := gb181) (o := .cells #[.int .i64 t175, .string t176, .string t177, .string t178, .bool t179] 27 (0, 0)) (by (with_reducible repeat (first | refine blk_drewN ?_ _ | refine blk_drew ?_ | refine blk_alloc ?_ _)); exact BK181.out) hb); have n1_ := Aside0.mk (blk_below (g := gb188) (o := .cells #[.int .i64 t182, .string t183, .string t184, .string t185, .bool t186] 27 (0, 0)) (by (with_reducible repeat (first | refine blk_drewN ?_ _ | refine blk_drew ?_ | refine blk_alloc ?_ _)); exact BK188.out) hb); have n2_ := Aside0.mk (below_step (by repeat (first | (with_reducible first | exact HB.out | apply below_alloc | apply pw_below_drewN | apply below_drew1 | refine below_set ?_ GE181.out | refine below_set ?_ GE188.out) | exact HB.out)) hb); have n3_ := Aside0.mk (hbox); have n4_ := Aside0.mk ((by rw [hg]; exact (below_size (by repeat (first | (with_reducible first | exact HB.out | apply below_alloc | apply pw_below_drewN | apply below_drew1 | refine below_set ?_ GE181.out | refine below_set ?_ GE188.out) | exact HB.out))) : w.heap.size ≤ gb195)); have n5_ := Aside0.mk ((by rw [hg]; exact (below_size (by repeat (first | (with_reducible first | exact HB.out | apply below_alloc | apply pw_below_drewN | apply below_drew1 | refine below_set ?_ GE181.out | refine below_set ?_ GE188.out) | exact HB.out))) : w.heap.size ≤ gb195)); have n6_ := Aside0.mk ((by rw [hg]; exact Nat.ne_of_lt (blk_lt (g := gb181) (o := .cells #[.int .i64 t175, .string t176, .string t177, .string t178, .bool t179] 27 (0, 0)) (by (with_reducible repeat (first | refine blk_drewN ?_ _ | refine blk_drew ?_ | refine blk_alloc ?_ _)); exact BK181.out)) : gb181 ≠ gb195)); have n7_ := Aside0.mk ((by rw [hg]; exact Nat.ne_of_gt (blk_lt (g := gb181) (o := .cells #[.int .i64 t175, .string t176, .string t177, .string t178, .bool t179] 27 (0, 0)) (by (with_reducible repeat (first | refine blk_drewN ?_ _ | refine blk_drew ?_ | refine blk_alloc ?_ _)); exact BK181.out)) : gb195 ≠ gb181)); have n8_ := Aside0.mk ((by rw [hg]; exact Nat.ne_of_lt (blk_lt (g := gb188) (o := .cells #[.int .i64 t182, .string t183, .string t184, .string t185, .bool t186] 27 (0, 0)) (by (with_reducible repeat (first | refine blk_drewN ?_ _ | refine blk_drew ?_ | refine blk_alloc ?_ _)); exact BK188.out)) : gb188 ≠ gb195)); have n9_ := Aside0.mk ((by rw [hg]; exact Nat.ne_of_gt (blk_lt (g := gb188) (o := .cells #[.int .i64 t182, .string t183, .string t184, .string t185, .bool t186] 27 (0, 0)) (by (with_reducible repeat (first | refine blk_drewN ?_ _ | refine blk_drew ?_ | refine blk_alloc ?_ _)); exact BK188.out)) : gb195 ≠ gb188)); clear BK181; clear BK188; clear HB; have BK181 := n0_; have BK188 := n1_; have HB := n2_; have BK195 := n3_; have GW195 := n4_; have GE195 := n5_; have NB181_195 := n6_; have NB195_181 := n7_; have NB188_195 := n8_; have NB195_188 := n9_; clear n0_ n1_ n2_ n3_ n4_ n5_ n6_ n7_ n8_ n9_; clear hb hbox hg; have hnb15 := NB195_181.out; have hnc15 := NB181_195.out; have hnb16 := NB195_188.out; have hnc16 := NB188_195.out; have hcz17_0 : w14.cell? ⟨gb195, 0, none⟩ = some (.int .i64 0) := (blk_cell BK195.out 0).trans rfl; have hcz17_1 : w14.cell? ⟨gb195, 1, none⟩ = some (.string (⟨#[]⟩ : ByteArray)) := (blk_cell BK195.out 1).trans rfl; have hcz17_2 : w14.cell? ⟨gb195, 2, none⟩ = some (.string (⟨#[]⟩ : ByteArray)) := (blk_cell BK195.out 2).trans rfl; have hcz17_3 : w14.cell? ⟨gb195, 3, none⟩ = some (.string (⟨#[]⟩ : ByteArray)) := (blk_cell BK195.out 3).trans rfl; have hcz17_4 : w14.cell? ⟨gb195, 4, none⟩ = some (.bool false) := (blk_cell BK195.out 4).trans rfl; have hfz17_0 := blk_frozen BK195.out 0; have hfz17_1 := blk_frozen BK195.out 1; have hfz17_2 := blk_frozen BK195.out 2; have hfz17_3 := blk_frozen BK195.out 3; have hfz17_4 := blk_frozen BK195.out 4) | ((with_reducible refine gate_callee (f := 9) rfl ?_); refine goesL_ (some 22) rfl rfl Try.func9 (by kernel_rfl) rfl #[.string (⟨#[79, 80, 84, 73, 79, 78, 83]⟩ : ByteArray), .string (⟨#[42]⟩ : ByteArray)] rfl (by (try simp only [List.map_toArray, List.map_cons, List.map_nil]); first | done | rfl | (simp only [List.length_drop, List.length_take]; rfl)) ?_; (with_reducible refine (target_Parse.calls k (⟨#[79, 80, 84, 73, 79, 78, 83]⟩ : ByteArray) (⟨#[42]⟩ : ByteArray) t196 t197 t198 t199 t200 t201 _ A4.out).mono ?_); rintro e w18 ⟨rfl, hb⟩; refine ⟨_, rfl, ?_⟩; have n0_ := Aside0.mk (blk_below (g := gb181) (o := .cells #[.int .i64 t175, .string t176, .string t177, .string t178, .bool t179] 27 (0, 0)) (by (repeat ((with_reducible repeat (first | refine blk_drewN ?_ _ | refine blk_drew ?_ | refine blk_alloc ?_ _)); refine blk_far ?_ NB181_195.out _)); (with_reducible repeat (first | refine blk_drewN ?_ _ | refine blk_drew ?_ | refine blk_alloc ?_ _)); exact BK181.out) hb); have n1_ := Aside0.mk (blk_below (g := gb188) (o := .cells #[.int .i64 t182, .string t183, .string t184, .string t185, .bool t186] 27 (0, 0)) (by (repeat ((with_reducible repeat (first | refine blk_drewN ?_ _ | refine blk_drew ?_ | refine blk_alloc ?_ _)); refine blk_far ?_ NB188_195.out _)); (with_reducible repeat (first | refine blk_drewN ?_ _ | refine blk_drew ?_ | refine blk_alloc ?_ _)); exact BK188.out) hb); have n2_ := Aside0.mk (blk_below (g := gb195) (o := .cells #[.int .i64 t189, .string t190, .string t191, .string t192, .bool t193] 27 (0, 0)) (by (with_reducible repeat (first | refine blk_drewN ?_ _ | refine blk_drew ?_ | refine blk_alloc ?_ _)); refine blk_put (cs := #[.int .i64 t189, .string t190, .string t191, .string t192, .bool false]) ?_ 4 _ rfl; (with_reducible repeat (first | refine blk_drewN ?_ _ | refine blk_drew ?_ | refine blk_alloc ?_ _)); refine blk_put (cs := #[.int .i64 t189, .string t190, .string t191, .string (⟨#[]⟩ : ByteArray), .bool false]) ?_ 3 _ rfl; (with_reducible repeat (first | refine blk_drewN ?_ _ | refine blk_drew ?_ | refine blk_alloc ?_ _)); refine blk_put (cs := #[.int .i64 t189, .string t190, .string (⟨#[]⟩ : ByteArray), .string (⟨#[]⟩ : ByteArray), .bool false]) ?_ 2 _ rfl; (with_reducible repeat (first | refine blk_drewN ?_ _ | refine blk_drew ?_ | refine blk_alloc ?_ _)); refine blk_put (cs := #[.int .i64 t189, .string (⟨#[]⟩ : ByteArray), .string (⟨#[]⟩ : ByteArray), .string (⟨#[]⟩ : ByteArray), .bool false]) ?_ 1 _ rfl; (with_reducible repeat (first | refine blk_drewN ?_ _ | refine blk_drew ?_ | refine blk_alloc ?_ _)); refine blk_put (cs := #[.int .i64 0, .string (⟨#[]⟩ : ByteArray), .string (⟨#[]⟩ : ByteArray), .string (⟨#[]⟩ : ByteArray), .bool false]) ?_ 0 _ rfl; (with_reducible repeat (first | refine blk_drewN ?_ _ | refine blk_drew ?_ | refine blk_alloc ?_ _)); exact BK195.out) hb); have n3_ := Aside0.mk (below_step (by repeat (first | (with_reducible first | exact HB.out | apply below_alloc | apply pw_below_drewN | apply below_drew1 | refine below_set ?_ GE181.out | refine below_set ?_ GE188.out | refine below_set ?_ GE195.out) | exact HB.out)) hb); clear BK181; clear BK188; clear BK195; clear HB; have BK181 := n0_; have BK188 := n1_; have BK195 := n2_; have HB := n3_; clear n0_ n1_ n2_ n3_; (try clear hb); (try clear hb2); (try clear hk); (try clear hi)) | ((with_reducible refine gate_dst (N := 7) rfl ?_); refine box_event ?hg (N := 7) ?hd (cs := #[.int .i64 0, .string (⟨#[]⟩ : ByteArray), .string (⟨#[]⟩ : ByteArray), .string (⟨#[]⟩ : ByteArray), .bool false]) (t := 27) ?hr ?_; (case hd => rfl); (case hg => rfl); (case hr => first | (go_simp; done) | (go_simp; rfl)); intro gb202 hg w19 hbox hb; have n0_ := Aside0.mk (blk_below (g := gb181) (o := .cells #[.int .i64 t175, .string t176, .string t177, .string t178, .bool t179] 27 (0, 0)) (by (with_reducible repeat (first | refine blk_drewN ?_ _ | refine blk_drew ?_ | refine blk_alloc ?_ _)); exact BK181.out) hb); have n1_ := Aside0.mk (blk_below (g := gb188) (o := .cells #[.int .i64 t182, .string t183, .string t184, .string t185, .bool t186] 27 (0, 0)) (by (with_reducible repeat (first | refine blk_drewN ?_ _ | refine blk_drew ?_ | refine blk_alloc ?_ _)); exact BK188.out) hb); have n2_ := Aside0.mk (blk_below (g := gb195) (o := .cells #[.int .i64 t189, .string t190, .string t191, .string t192, .bool t193] 27 (0, 0)) (by (with_reducible repeat (first | refine blk_drewN ?_ _ | refine blk_drew ?_ | refine blk_alloc ?_ _)); exact BK195.out) hb); have n3_ := Aside0.mk (below_step (by repeat (first | (with_reducible first | exact HB.out | apply below_alloc | apply pw_below_drewN | apply below_drew1 | refine below_set ?_ GE181.out | refine below_set ?_ GE188.out | refine below_set ?_ GE195.out) | exact HB.out)) hb); have n4_ := Aside0.mk (hbox); have n5_ := Aside0.mk ((by rw [hg]; exact (below_size (by repeat (first | (with_reducible first | exact HB.out | apply below_alloc | apply pw_below_drewN | apply below_drew1 | refine below_set ?_ GE181.out | refine below_set ?_ GE188.out | refine below_set ?_ GE195.out) | exact HB.out))) : w.heap.size ≤ gb202)); have n6_ := Aside0.mk ((by rw [hg]; exact (below_size (by repeat (first | (with_reducible first | exact HB.out | apply below_alloc | apply pw_below_drewN | apply below_drew1 | refine below_set ?_ GE181.out | refine below_set ?_ GE188.out | refine below_set ?_ GE195.out) | exact HB.out))) : w.heap.size ≤ gb202)); have n7_ := Aside0.mk ((by rw [hg]; exact Nat.ne_of_lt (blk_lt (g := gb181) (o := .cells #[.int .i64 t175, .string t176, .string t177, .string t178, .bool t179] 27 (0, 0)) (by (with_reducible repeat (first | refine blk_drewN ?_ _ | refine blk_drew ?_ | refine blk_alloc ?_ _)); exact BK181.out)) : gb181 ≠ gb202)); have n8_ := Aside0.mk ((by rw [hg]; exact Nat.ne_of_gt (blk_lt (g := gb181) (o := .cells #[.int .i64 t175, .string t176, .string t177, .string t178, .bool t179] 27 (0, 0)) (by (with_reducible repeat (first | refine blk_drewN ?_ _ | refine blk_drew ?_ | refine blk_alloc ?_ _)); exact BK181.out)) : gb202 ≠ gb181)); have n9_ := Aside0.mk ((by rw [hg]; exact Nat.ne_of_lt (blk_lt (g := gb188) (o := .cells #[.int .i64 t182, .string t183, .string t184, .string t185, .bool t186] 27 (0, 0)) (by (with_reducible repeat (first | refine blk_drewN ?_ _ | refine blk_drew ?_ | refine blk_alloc ?_ _)); exact BK188.out)) : gb188 ≠ gb202)); have n10_ := Aside0.mk ((by rw [hg]; exact Nat.ne_of_gt (blk_lt (g := gb188) (o := .cells #[.int .i64 t182, .string t183, .string t184, .string t185, .bool t186] 27 (0, 0)) (by (with_reducible repeat (first | refine blk_drewN ?_ _ | refine blk_drew ?_ | refine blk_alloc ?_ _)); exact BK188.out)) : gb202 ≠ gb188)); have n11_ := Aside0.mk ((by rw [hg]; exact Nat.ne_of_lt (blk_lt (g := gb195) (o := .cells #[.int .i64 t189, .string t190, .string t191, .string t192, .bool t193] 27 (0, 0)) (by (with_reducible repeat (first | refine blk_drewN ?_ _ | refine blk_drew ?_ | refine blk_alloc ?_ _)); exact BK195.out)) : gb195 ≠ gb202)); have n12_ := Aside0.mk ((by rw [hg]; exact Nat.ne_of_gt (blk_lt (g := gb195) (o := .cells #[.int .i64 t189, .string t190, .string t191, .string t192, .bool t193] 27 (0, 0)) (by (with_reducible repeat (first | refine blk_drewN ?_ _ | refine blk_drew ?_ | refine blk_alloc ?_ _)); exact BK195.out)) : gb202 ≠ gb195)); clear BK181; clear BK188; clear BK195; clear HB; have BK181 := n0_; have BK188 := n1_; have BK195 := n2_; have HB := n3_; have BK202 := n4_; have GW202 := n5_; have GE202 := n6_; have NB181_202 := n7_; have NB202_181 := n8_; have NB188_202 := n9_; have NB202_188 := n10_; have NB195_202 := n11_; have NB202_195 := n12_; clear n0_ n1_ n2_ n3_ n4_ n5_ n6_ n7_ n8_ n9_ n10_ n11_ n12_; clear hb hbox hg; have hnb20 := NB202_181.out; have hnc20 := NB181_202.out; have hnb21 := NB202_188.out; have hnc21 := NB188_202.out; have hnb22 := NB202_195.out; have hnc22 := NB195_202.out; have hcz23_0 : w19.cell? ⟨gb202, 0, none⟩ = some (.int .i64 0) := (blk_cell BK202.out 0).trans rfl; have hcz23_1 : w19.cell? ⟨gb202, 1, none⟩ = some (.string (⟨#[]⟩ : ByteArray)) := (blk_cell BK202.out 1).trans rfl; have hcz23_2 : w19.cell? ⟨gb202, 2, none⟩ = some (.string (⟨#[]⟩ : ByteArray)) := (blk_cell BK202.out 2).trans rfl; have hcz23_3 : w19.cell? ⟨gb202, 3, none⟩ = some (.string (⟨#[]⟩ : ByteArray)) := (blk_cell BK202.out 3).trans rfl; have hcz23_4 : w19.cell? ⟨gb202, 4, none⟩ = some (.bool false) := (blk_cell BK202.out 4).trans rfl; have hfz23_0 := blk_frozen BK202.out 0; have hfz23_1 := blk_frozen BK202.out 1; have hfz23_2 := blk_frozen BK202.out 2; have hfz23_3 := blk_frozen BK202.out 3; have hfz23_4 := blk_frozen BK202.out 4))
 (try simp only [Act.put, List.setIfInBounds_toArray, List.set_cons_zero, List.set_cons_succ])
 go_cut [0] (fun v0 wc => ∃ (kq : Nat) (x0_4 : Bool), v0 = .bool x0_4 ∧ Aside0 (parallaxlaw7_known.j0 kq x0_4 = some r) ∧ Aside0 (kq ≤ k) ∧ Aside0 (wc.heap[gb181]? = some (.cells #[.int .i64 t175, .string t176, .string t177, .string t178, .bool t179] 27 (0, 0))) ∧ Aside0 (wc.heap[gb188]? = some (.cells #[.int .i64 t182, .string t183, .string t184, .string t185, .bool t186] 27 (0, 0))) ∧ Aside0 (wc.heap[gb195]? = some (.cells #[.int .i64 t189, .string t190, .string t191, .string t192, .bool t193] 27 (0, 0))) ∧ Aside0 (wc.heap[gb202]? = some (.cells #[.int .i64 t196, .string t197, .string t198, .string t199, .bool t200] 27 (0, 0))) ∧ Aside0 (Below w.heap.size w wc))
 case first =>
  have H := HC5.out
  clear HC5
  by_cases c24 : t180 = 0
  ·rw [if_pos c24] at H
   have c24b0 : (t180 == 0) = true := beq_iff_eq.mpr c24
   have c24b1 : (t180 != 0) = false := bne_eq_false_iff_eq.mpr c24
   clear c24
   (first | rw [c24b0] | (simp only [i64_w, i32_w]; rw [c24b0]) | skip)
   by_cases c25 : t175 = 1
   ·rw [if_pos c25] at H
    have c25b0 : (t175 == 1) = true := beq_iff_eq.mpr c25
    have c25b1 : (t175 != 1) = false := bne_eq_false_iff_eq.mpr c25
    clear c25
    by_cases c26 : t177.toList = ([47, 97] : List UInt8)
    ·rw [if_pos c26] at H
     have c26b0 : (t177.toList == ([47, 97] : List UInt8)) = true := beq_iff_eq.mpr c26
     have c26b1 : (t177.toList != ([47, 97] : List UInt8)) = false := bne_eq_false_iff_eq.mpr c26
     clear c26
     by_cases c27 : t178.toList = ([98] : List UInt8)
     ·rw [if_pos c27] at H
      have c27b0 : (t178.toList == ([98] : List UInt8)) = true := beq_iff_eq.mpr c27
      have c27b1 : (t178.toList != ([98] : List UInt8)) = false := bne_eq_false_iff_eq.mpr c27
      clear c27
      by_cases c28 : t179 = true
      ·subst c28
       rw [if_pos rfl] at H
       by_cases c29 : t187 = 0
       ·rw [if_pos c29] at H
        have c29b0 : (t187 == 0) = true := beq_iff_eq.mpr c29
        have c29b1 : (t187 != 0) = false := bne_eq_false_iff_eq.mpr c29
        clear c29
        by_cases c30 : t183.toList = ([104] : List UInt8)
        ·rw [if_pos c30] at H
         have c30b0 : (t183.toList == ([104] : List UInt8)) = true := beq_iff_eq.mpr c30
         have c30b1 : (t183.toList != ([104] : List UInt8)) = false := bne_eq_false_iff_eq.mpr c30
         clear c30
         by_cases c31 : t184.toList = ([47] : List UInt8)
         ·rw [if_pos c31] at H
          have c31b0 : (t184.toList == ([47] : List UInt8)) = true := beq_iff_eq.mpr c31
          have c31b1 : (t184.toList != ([47] : List UInt8)) = false := bne_eq_false_iff_eq.mpr c31
          clear c31
          by_cases c32 : t194 = 400
          ·rw [if_pos c32] at H
           have c32b0 : (t194 == 400) = true := beq_iff_eq.mpr c32
           have c32b1 : (t194 != 400) = false := bne_eq_false_iff_eq.mpr c32
           clear c32
           by_cases c33 : t201 = 0
           ·rw [if_pos c33] at H
            have c33b0 : (t201 == 0) = true := beq_iff_eq.mpr c33
            have c33b1 : (t201 != 0) = false := bne_eq_false_iff_eq.mpr c33
            clear c33
            by_cases c34 : t196 = 4
            ·rw [if_pos c34] at H
             have c34b0 : (t196 == 4) = true := beq_iff_eq.mpr c34
             have c34b1 : (t196 != 4) = false := bne_eq_false_iff_eq.mpr c34
             clear c34
             replace H := Option.bind_eq_some_iff.mp H
             obtain ⟨t203, A350, H⟩ := H
             (try dsimp only at H)
             have A35 := Aside0.mk A350
             clear A350
             by_cases c36 : t203 = true
             ·subst c36
              rw [if_pos rfl] at H
              replace H := Option.bind_eq_some_iff.mp H
              obtain ⟨t204, A370, H⟩ := H
              (try dsimp only at H)
              have A37 := Aside0.mk A370
              clear A370
              by_cases c38 : t204 = true
              ·subst c38
               rw [if_pos rfl] at H
               have H' := Aside0.mk H
               clear H
               have hnb39 := NB181_188.out
               have hnc39 := NB188_181.out
               have hnb40 := NB181_195.out
               have hnc40 := NB195_181.out
               have hnb41 := NB181_202.out
               have hnc41 := NB202_181.out
               have hcz42_0 : w19.cell? ⟨gb181, 0, none⟩ = some (.int .i64 t175) := (blk_cell BK181.out 0).trans rfl
               have hcz42_1 : w19.cell? ⟨gb181, 1, none⟩ = some (.string t176) := (blk_cell BK181.out 1).trans rfl
               have hcz42_2 : w19.cell? ⟨gb181, 2, none⟩ = some (.string t177) := (blk_cell BK181.out 2).trans rfl
               have hcz42_3 : w19.cell? ⟨gb181, 3, none⟩ = some (.string t178) := (blk_cell BK181.out 3).trans rfl
               have hcz42_4 : w19.cell? ⟨gb181, 4, none⟩ = some (.bool true) := (blk_cell BK181.out 4).trans rfl
               have hfz42_0 := blk_frozen BK181.out 0
               have hfz42_1 := blk_frozen BK181.out 1
               have hfz42_2 := blk_frozen BK181.out 2
               have hfz42_3 := blk_frozen BK181.out 3
               have hfz42_4 := blk_frozen BK181.out 4
               have hnb43 := NB188_195.out
               have hnc43 := NB195_188.out
               have hnb44 := NB188_202.out
               have hnc44 := NB202_188.out
               have hcz45_0 : w19.cell? ⟨gb188, 0, none⟩ = some (.int .i64 t182) := (blk_cell BK188.out 0).trans rfl
               have hcz45_1 : w19.cell? ⟨gb188, 1, none⟩ = some (.string t183) := (blk_cell BK188.out 1).trans rfl
               have hcz45_2 : w19.cell? ⟨gb188, 2, none⟩ = some (.string t184) := (blk_cell BK188.out 2).trans rfl
               have hcz45_3 : w19.cell? ⟨gb188, 3, none⟩ = some (.string t185) := (blk_cell BK188.out 3).trans rfl
               have hcz45_4 : w19.cell? ⟨gb188, 4, none⟩ = some (.bool t186) := (blk_cell BK188.out 4).trans rfl
               have hfz45_0 := blk_frozen BK188.out 0
               have hfz45_1 := blk_frozen BK188.out 1
               have hfz45_2 := blk_frozen BK188.out 2
               have hfz45_3 := blk_frozen BK188.out 3
               have hfz45_4 := blk_frozen BK188.out 4
               have hnb46 := NB202_195.out
               have hnc46 := NB195_202.out
               have hcz47_0 : w19.cell? ⟨gb202, 0, none⟩ = some (.int .i64 0) := (blk_cell BK202.out 0).trans rfl
               have hcz47_1 : w19.cell? ⟨gb202, 1, none⟩ = some (.string (⟨#[]⟩ : ByteArray)) := (blk_cell BK202.out 1).trans rfl
               have hcz47_2 : w19.cell? ⟨gb202, 2, none⟩ = some (.string (⟨#[]⟩ : ByteArray)) := (blk_cell BK202.out 2).trans rfl
               have hcz47_3 : w19.cell? ⟨gb202, 3, none⟩ = some (.string (⟨#[]⟩ : ByteArray)) := (blk_cell BK202.out 3).trans rfl
               have hcz47_4 : w19.cell? ⟨gb202, 4, none⟩ = some (.bool false) := (blk_cell BK202.out 4).trans rfl
               have hfz47_0 := blk_frozen BK202.out 0
               have hfz47_1 := blk_frozen BK202.out 1
               have hfz47_2 := blk_frozen BK202.out 2
               have hfz47_3 := blk_frozen BK202.out 3
               have hfz47_4 := blk_frozen BK202.out 4
               go_wp2_with (first | (go_at_call 13; (with_reducible refine (target_Host.calls k (⟨#[97, 46, 98, 58, 56, 48]⟩ : ByteArray) true _ A35.out).mono ?_); rintro e w48 ⟨rfl, hb⟩; have n0_ := Aside0.mk (blk_below (g := gb181) (o := .cells #[.int .i64 t175, .string t176, .string t177, .string t178, .bool true] 27 (0, 0)) (by (repeat ((with_reducible repeat (first | refine blk_drewN ?_ _ | refine blk_drew ?_ | refine blk_alloc ?_ _)); refine blk_far ?_ NB181_202.out _)); (with_reducible repeat (first | refine blk_drewN ?_ _ | refine blk_drew ?_ | refine blk_alloc ?_ _)); exact BK181.out) hb); have n1_ := Aside0.mk (blk_below (g := gb188) (o := .cells #[.int .i64 t182, .string t183, .string t184, .string t185, .bool t186] 27 (0, 0)) (by (repeat ((with_reducible repeat (first | refine blk_drewN ?_ _ | refine blk_drew ?_ | refine blk_alloc ?_ _)); refine blk_far ?_ NB188_202.out _)); (with_reducible repeat (first | refine blk_drewN ?_ _ | refine blk_drew ?_ | refine blk_alloc ?_ _)); exact BK188.out) hb); have n2_ := Aside0.mk (blk_below (g := gb195) (o := .cells #[.int .i64 t189, .string t190, .string t191, .string t192, .bool t193] 27 (0, 0)) (by (repeat ((with_reducible repeat (first | refine blk_drewN ?_ _ | refine blk_drew ?_ | refine blk_alloc ?_ _)); refine blk_far ?_ NB195_202.out _)); (with_reducible repeat (first | refine blk_drewN ?_ _ | refine blk_drew ?_ | refine blk_alloc ?_ _)); exact BK195.out) hb); have n3_ := Aside0.mk (blk_below (g := gb202) (o := .cells #[.int .i64 t196, .string t197, .string t198, .string t199, .bool t200] 27 (0, 0)) (by (with_reducible repeat (first | refine blk_drewN ?_ _ | refine blk_drew ?_ | refine blk_alloc ?_ _)); refine blk_put (cs := #[.int .i64 t196, .string t197, .string t198, .string t199, .bool false]) ?_ 4 _ rfl; (with_reducible repeat (first | refine blk_drewN ?_ _ | refine blk_drew ?_ | refine blk_alloc ?_ _)); refine blk_put (cs := #[.int .i64 t196, .string t197, .string t198, .string (⟨#[]⟩ : ByteArray), .bool false]) ?_ 3 _ rfl; (with_reducible repeat (first | refine blk_drewN ?_ _ | refine blk_drew ?_ | refine blk_alloc ?_ _)); refine blk_put (cs := #[.int .i64 t196, .string t197, .string (⟨#[]⟩ : ByteArray), .string (⟨#[]⟩ : ByteArray), .bool false]) ?_ 2 _ rfl; (with_reducible repeat (first | refine blk_drewN ?_ _ | refine blk_drew ?_ | refine blk_alloc ?_ _)); refine blk_put (cs := #[.int .i64 t196, .string (⟨#[]⟩ : ByteArray), .string (⟨#[]⟩ : ByteArray), .string (⟨#[]⟩ : ByteArray), .bool false]) ?_ 1 _ rfl; (with_reducible repeat (first | refine blk_drewN ?_ _ | refine blk_drew ?_ | refine blk_alloc ?_ _)); refine blk_put (cs := #[.int .i64 0, .string (⟨#[]⟩ : ByteArray), .string (⟨#[]⟩ : ByteArray), .string (⟨#[]⟩ : ByteArray), .bool false]) ?_ 0 _ rfl; (with_reducible repeat (first | refine blk_drewN ?_ _ | refine blk_drew ?_ | refine blk_alloc ?_ _)); exact BK202.out) hb); have n4_ := Aside0.mk (below_step (by repeat (first | (with_reducible first | exact HB.out | apply below_alloc | apply pw_below_drewN | apply below_drew1 | refine below_set ?_ GE181.out | refine below_set ?_ GE188.out | refine below_set ?_ GE195.out | refine below_set ?_ GE202.out) | exact HB.out)) hb); clear BK181; clear BK188; clear BK195; clear BK202; clear HB; have BK181 := n0_; have BK188 := n1_; have BK195 := n2_; have BK202 := n3_; have HB := n4_; clear n0_ n1_ n2_ n3_ n4_; (try clear hb); (try clear hb2); (try clear hk); (try clear hi)) | (go_at_call 13; (with_reducible refine (target_Host.calls k (⟨#[97, 58]⟩ : ByteArray) true _ A37.out).mono ?_); rintro e w49 ⟨rfl, hb⟩; have n0_ := Aside0.mk (blk_below (g := gb181) (o := .cells #[.int .i64 t175, .string t176, .string t177, .string t178, .bool true] 27 (0, 0)) (by (with_reducible repeat (first | refine blk_drewN ?_ _ | refine blk_drew ?_ | refine blk_alloc ?_ _)); exact BK181.out) hb); have n1_ := Aside0.mk (blk_below (g := gb188) (o := .cells #[.int .i64 t182, .string t183, .string t184, .string t185, .bool t186] 27 (0, 0)) (by (with_reducible repeat (first | refine blk_drewN ?_ _ | refine blk_drew ?_ | refine blk_alloc ?_ _)); exact BK188.out) hb); have n2_ := Aside0.mk (blk_below (g := gb195) (o := .cells #[.int .i64 t189, .string t190, .string t191, .string t192, .bool t193] 27 (0, 0)) (by (with_reducible repeat (first | refine blk_drewN ?_ _ | refine blk_drew ?_ | refine blk_alloc ?_ _)); exact BK195.out) hb); have n3_ := Aside0.mk (blk_below (g := gb202) (o := .cells #[.int .i64 t196, .string t197, .string t198, .string t199, .bool t200] 27 (0, 0)) (by (with_reducible repeat (first | refine blk_drewN ?_ _ | refine blk_drew ?_ | refine blk_alloc ?_ _)); exact BK202.out) hb); have n4_ := Aside0.mk (below_step (by repeat (first | (with_reducible first | exact HB.out | apply below_alloc | apply pw_below_drewN | apply below_drew1 | refine below_set ?_ GE181.out | refine below_set ?_ GE188.out | refine below_set ?_ GE195.out | refine below_set ?_ GE202.out) | exact HB.out)) hb); clear BK181; clear BK188; clear BK195; clear BK202; clear HB; have BK181 := n0_; have BK188 := n1_; have BK195 := n2_; have BK202 := n3_; have HB := n4_; clear n0_ n1_ n2_ n3_ n4_; (try clear hb); (try clear hb2); (try clear hk); (try clear hi)))
               (try any_goals (exfalso; have h_ := ‹some undef = some (Value.bool _)›; revert h_; simp [undef]; done))
               go_meet
               case rel => exact ⟨_, (false), (by first | rfl | (simp; done) | (simp [*]; done)), H', ⟨by first | omega | exact Nat.le_refl _⟩, ⟨by (with_reducible repeat (first | refine blk_drewN ?_ _ | refine blk_drew ?_ | refine blk_alloc ?_ _)); exact BK181.out⟩, ⟨by (with_reducible repeat (first | refine blk_drewN ?_ _ | refine blk_drew ?_ | refine blk_alloc ?_ _)); exact BK188.out⟩, ⟨by (with_reducible repeat (first | refine blk_drewN ?_ _ | refine blk_drew ?_ | refine blk_alloc ?_ _)); exact BK195.out⟩, ⟨by (with_reducible repeat (first | refine blk_drewN ?_ _ | refine blk_drew ?_ | refine blk_alloc ?_ _)); exact BK202.out⟩, ⟨by repeat (first | (with_reducible first | exact HB.out | apply below_alloc | apply pw_below_drewN | apply below_drew1 | refine below_set ?_ GE181.out | refine below_set ?_ GE188.out | refine below_set ?_ GE195.out | refine below_set ?_ GE202.out) | exact HB.out)⟩⟩
              ·replace c38 := Bool.eq_false_iff.mpr c38
               subst c38
               rw [if_neg (show ¬ (false = true) by decide)] at H
               replace H := Option.bind_eq_some_iff.mp H
               obtain ⟨t205, A500, H⟩ := H
               (try dsimp only at H)
               have A50 := Aside0.mk A500
               clear A500
               by_cases c51 : t205 = true
               ·subst c51
                rw [if_pos rfl] at H
                replace H := Option.bind_eq_some_iff.mp H
                obtain ⟨t206, A520, H⟩ := H
                (try dsimp only at H)
                have A52 := Aside0.mk A520
                clear A520
                by_cases c53 : t206 = true
                ·subst c53
                 rw [if_pos rfl] at H
                 have H' := Aside0.mk H
                 clear H
                 have hnb54 := NB181_188.out
                 have hnc54 := NB188_181.out
                 have hnb55 := NB181_195.out
                 have hnc55 := NB195_181.out
                 have hnb56 := NB181_202.out
                 have hnc56 := NB202_181.out
                 have hcz57_0 : w19.cell? ⟨gb181, 0, none⟩ = some (.int .i64 t175) := (blk_cell BK181.out 0).trans rfl
                 have hcz57_1 : w19.cell? ⟨gb181, 1, none⟩ = some (.string t176) := (blk_cell BK181.out 1).trans rfl
                 have hcz57_2 : w19.cell? ⟨gb181, 2, none⟩ = some (.string t177) := (blk_cell BK181.out 2).trans rfl
                 have hcz57_3 : w19.cell? ⟨gb181, 3, none⟩ = some (.string t178) := (blk_cell BK181.out 3).trans rfl
                 have hcz57_4 : w19.cell? ⟨gb181, 4, none⟩ = some (.bool true) := (blk_cell BK181.out 4).trans rfl
                 have hfz57_0 := blk_frozen BK181.out 0
                 have hfz57_1 := blk_frozen BK181.out 1
                 have hfz57_2 := blk_frozen BK181.out 2
                 have hfz57_3 := blk_frozen BK181.out 3
                 have hfz57_4 := blk_frozen BK181.out 4
                 have hnb58 := NB188_195.out
                 have hnc58 := NB195_188.out
                 have hnb59 := NB188_202.out
                 have hnc59 := NB202_188.out
                 have hcz60_0 : w19.cell? ⟨gb188, 0, none⟩ = some (.int .i64 t182) := (blk_cell BK188.out 0).trans rfl
                 have hcz60_1 : w19.cell? ⟨gb188, 1, none⟩ = some (.string t183) := (blk_cell BK188.out 1).trans rfl
                 have hcz60_2 : w19.cell? ⟨gb188, 2, none⟩ = some (.string t184) := (blk_cell BK188.out 2).trans rfl
                 have hcz60_3 : w19.cell? ⟨gb188, 3, none⟩ = some (.string t185) := (blk_cell BK188.out 3).trans rfl
                 have hcz60_4 : w19.cell? ⟨gb188, 4, none⟩ = some (.bool t186) := (blk_cell BK188.out 4).trans rfl
                 have hfz60_0 := blk_frozen BK188.out 0
                 have hfz60_1 := blk_frozen BK188.out 1
                 have hfz60_2 := blk_frozen BK188.out 2
                 have hfz60_3 := blk_frozen BK188.out 3
                 have hfz60_4 := blk_frozen BK188.out 4
                 have hnb61 := NB202_195.out
                 have hnc61 := NB195_202.out
                 have hcz62_0 : w19.cell? ⟨gb202, 0, none⟩ = some (.int .i64 0) := (blk_cell BK202.out 0).trans rfl
                 have hcz62_1 : w19.cell? ⟨gb202, 1, none⟩ = some (.string (⟨#[]⟩ : ByteArray)) := (blk_cell BK202.out 1).trans rfl
                 have hcz62_2 : w19.cell? ⟨gb202, 2, none⟩ = some (.string (⟨#[]⟩ : ByteArray)) := (blk_cell BK202.out 2).trans rfl
                 have hcz62_3 : w19.cell? ⟨gb202, 3, none⟩ = some (.string (⟨#[]⟩ : ByteArray)) := (blk_cell BK202.out 3).trans rfl
                 have hcz62_4 : w19.cell? ⟨gb202, 4, none⟩ = some (.bool false) := (blk_cell BK202.out 4).trans rfl
                 have hfz62_0 := blk_frozen BK202.out 0
                 have hfz62_1 := blk_frozen BK202.out 1
                 have hfz62_2 := blk_frozen BK202.out 2
                 have hfz62_3 := blk_frozen BK202.out 3
                 have hfz62_4 := blk_frozen BK202.out 4
                 go_wp2_with (first | (go_at_call 13; (with_reducible refine (target_Host.calls k (⟨#[97, 46, 98, 58, 56, 48]⟩ : ByteArray) true _ A35.out).mono ?_); rintro e w63 ⟨rfl, hb⟩; have n0_ := Aside0.mk (blk_below (g := gb181) (o := .cells #[.int .i64 t175, .string t176, .string t177, .string t178, .bool true] 27 (0, 0)) (by (repeat ((with_reducible repeat (first | refine blk_drewN ?_ _ | refine blk_drew ?_ | refine blk_alloc ?_ _)); refine blk_far ?_ NB181_202.out _)); (with_reducible repeat (first | refine blk_drewN ?_ _ | refine blk_drew ?_ | refine blk_alloc ?_ _)); exact BK181.out) hb); have n1_ := Aside0.mk (blk_below (g := gb188) (o := .cells #[.int .i64 t182, .string t183, .string t184, .string t185, .bool t186] 27 (0, 0)) (by (repeat ((with_reducible repeat (first | refine blk_drewN ?_ _ | refine blk_drew ?_ | refine blk_alloc ?_ _)); refine blk_far ?_ NB188_202.out _)); (with_reducible repeat (first | refine blk_drewN ?_ _ | refine blk_drew ?_ | refine blk_alloc ?_ _)); exact BK188.out) hb); have n2_ := Aside0.mk (blk_below (g := gb195) (o := .cells #[.int .i64 t189, .string t190, .string t191, .string t192, .bool t193] 27 (0, 0)) (by (repeat ((with_reducible repeat (first | refine blk_drewN ?_ _ | refine blk_drew ?_ | refine blk_alloc ?_ _)); refine blk_far ?_ NB195_202.out _)); (with_reducible repeat (first | refine blk_drewN ?_ _ | refine blk_drew ?_ | refine blk_alloc ?_ _)); exact BK195.out) hb); have n3_ := Aside0.mk (blk_below (g := gb202) (o := .cells #[.int .i64 t196, .string t197, .string t198, .string t199, .bool t200] 27 (0, 0)) (by (with_reducible repeat (first | refine blk_drewN ?_ _ | refine blk_drew ?_ | refine blk_alloc ?_ _)); refine blk_put (cs := #[.int .i64 t196, .string t197, .string t198, .string t199, .bool false]) ?_ 4 _ rfl; (with_reducible repeat (first | refine blk_drewN ?_ _ | refine blk_drew ?_ | refine blk_alloc ?_ _)); refine blk_put (cs := #[.int .i64 t196, .string t197, .string t198, .string (⟨#[]⟩ : ByteArray), .bool false]) ?_ 3 _ rfl; (with_reducible repeat (first | refine blk_drewN ?_ _ | refine blk_drew ?_ | refine blk_alloc ?_ _)); refine blk_put (cs := #[.int .i64 t196, .string t197, .string (⟨#[]⟩ : ByteArray), .string (⟨#[]⟩ : ByteArray), .bool false]) ?_ 2 _ rfl; (with_reducible repeat (first | refine blk_drewN ?_ _ | refine blk_drew ?_ | refine blk_alloc ?_ _)); refine blk_put (cs := #[.int .i64 t196, .string (⟨#[]⟩ : ByteArray), .string (⟨#[]⟩ : ByteArray), .string (⟨#[]⟩ : ByteArray), .bool false]) ?_ 1 _ rfl; (with_reducible repeat (first | refine blk_drewN ?_ _ | refine blk_drew ?_ | refine blk_alloc ?_ _)); refine blk_put (cs := #[.int .i64 0, .string (⟨#[]⟩ : ByteArray), .string (⟨#[]⟩ : ByteArray), .string (⟨#[]⟩ : ByteArray), .bool false]) ?_ 0 _ rfl; (with_reducible repeat (first | refine blk_drewN ?_ _ | refine blk_drew ?_ | refine blk_alloc ?_ _)); exact BK202.out) hb); have n4_ := Aside0.mk (below_step (by repeat (first | (with_reducible first | exact HB.out | apply below_alloc | apply pw_below_drewN | apply below_drew1 | refine below_set ?_ GE181.out | refine below_set ?_ GE188.out | refine below_set ?_ GE195.out | refine below_set ?_ GE202.out) | exact HB.out)) hb); clear BK181; clear BK188; clear BK195; clear BK202; clear HB; have BK181 := n0_; have BK188 := n1_; have BK195 := n2_; have BK202 := n3_; have HB := n4_; clear n0_ n1_ n2_ n3_ n4_; (try clear hb); (try clear hb2); (try clear hk); (try clear hi)) | (go_at_call 13; (with_reducible refine (target_Host.calls k (⟨#[97, 58]⟩ : ByteArray) false _ A37.out).mono ?_); rintro e w64 ⟨rfl, hb⟩; have n0_ := Aside0.mk (blk_below (g := gb181) (o := .cells #[.int .i64 t175, .string t176, .string t177, .string t178, .bool true] 27 (0, 0)) (by (with_reducible repeat (first | refine blk_drewN ?_ _ | refine blk_drew ?_ | refine blk_alloc ?_ _)); exact BK181.out) hb); have n1_ := Aside0.mk (blk_below (g := gb188) (o := .cells #[.int .i64 t182, .string t183, .string t184, .string t185, .bool t186] 27 (0, 0)) (by (with_reducible repeat (first | refine blk_drewN ?_ _ | refine blk_drew ?_ | refine blk_alloc ?_ _)); exact BK188.out) hb); have n2_ := Aside0.mk (blk_below (g := gb195) (o := .cells #[.int .i64 t189, .string t190, .string t191, .string t192, .bool t193] 27 (0, 0)) (by (with_reducible repeat (first | refine blk_drewN ?_ _ | refine blk_drew ?_ | refine blk_alloc ?_ _)); exact BK195.out) hb); have n3_ := Aside0.mk (blk_below (g := gb202) (o := .cells #[.int .i64 t196, .string t197, .string t198, .string t199, .bool t200] 27 (0, 0)) (by (with_reducible repeat (first | refine blk_drewN ?_ _ | refine blk_drew ?_ | refine blk_alloc ?_ _)); exact BK202.out) hb); have n4_ := Aside0.mk (below_step (by repeat (first | (with_reducible first | exact HB.out | apply below_alloc | apply pw_below_drewN | apply below_drew1 | refine below_set ?_ GE181.out | refine below_set ?_ GE188.out | refine below_set ?_ GE195.out | refine below_set ?_ GE202.out) | exact HB.out)) hb); clear BK181; clear BK188; clear BK195; clear BK202; clear HB; have BK181 := n0_; have BK188 := n1_; have BK195 := n2_; have BK202 := n3_; have HB := n4_; clear n0_ n1_ n2_ n3_ n4_; (try clear hb); (try clear hb2); (try clear hk); (try clear hi)) | (go_at_call 15; (with_reducible refine (target_Path.calls k (⟨#[47, 37, 52, 49]⟩ : ByteArray) true _ A50.out).mono ?_); rintro e w65 ⟨rfl, hb⟩; have n0_ := Aside0.mk (blk_below (g := gb181) (o := .cells #[.int .i64 t175, .string t176, .string t177, .string t178, .bool true] 27 (0, 0)) (by (with_reducible repeat (first | refine blk_drewN ?_ _ | refine blk_drew ?_ | refine blk_alloc ?_ _)); exact BK181.out) hb); have n1_ := Aside0.mk (blk_below (g := gb188) (o := .cells #[.int .i64 t182, .string t183, .string t184, .string t185, .bool t186] 27 (0, 0)) (by (with_reducible repeat (first | refine blk_drewN ?_ _ | refine blk_drew ?_ | refine blk_alloc ?_ _)); exact BK188.out) hb); have n2_ := Aside0.mk (blk_below (g := gb195) (o := .cells #[.int .i64 t189, .string t190, .string t191, .string t192, .bool t193] 27 (0, 0)) (by (with_reducible repeat (first | refine blk_drewN ?_ _ | refine blk_drew ?_ | refine blk_alloc ?_ _)); exact BK195.out) hb); have n3_ := Aside0.mk (blk_below (g := gb202) (o := .cells #[.int .i64 t196, .string t197, .string t198, .string t199, .bool t200] 27 (0, 0)) (by (with_reducible repeat (first | refine blk_drewN ?_ _ | refine blk_drew ?_ | refine blk_alloc ?_ _)); exact BK202.out) hb); have n4_ := Aside0.mk (below_step (by repeat (first | (with_reducible first | exact HB.out | apply below_alloc | apply pw_below_drewN | apply below_drew1 | refine below_set ?_ GE181.out | refine below_set ?_ GE188.out | refine below_set ?_ GE195.out | refine below_set ?_ GE202.out) | exact HB.out)) hb); clear BK181; clear BK188; clear BK195; clear BK202; clear HB; have BK181 := n0_; have BK188 := n1_; have BK195 := n2_; have BK202 := n3_; have HB := n4_; clear n0_ n1_ n2_ n3_ n4_; (try clear hb); (try clear hb2); (try clear hk); (try clear hi)) | (go_at_call 15; (with_reducible refine (target_Path.calls k (⟨#[47, 37, 52]⟩ : ByteArray) true _ A52.out).mono ?_); rintro e w66 ⟨rfl, hb⟩; have n0_ := Aside0.mk (blk_below (g := gb181) (o := .cells #[.int .i64 t175, .string t176, .string t177, .string t178, .bool true] 27 (0, 0)) (by (with_reducible repeat (first | refine blk_drewN ?_ _ | refine blk_drew ?_ | refine blk_alloc ?_ _)); exact BK181.out) hb); have n1_ := Aside0.mk (blk_below (g := gb188) (o := .cells #[.int .i64 t182, .string t183, .string t184, .string t185, .bool t186] 27 (0, 0)) (by (with_reducible repeat (first | refine blk_drewN ?_ _ | refine blk_drew ?_ | refine blk_alloc ?_ _)); exact BK188.out) hb); have n2_ := Aside0.mk (blk_below (g := gb195) (o := .cells #[.int .i64 t189, .string t190, .string t191, .string t192, .bool t193] 27 (0, 0)) (by (with_reducible repeat (first | refine blk_drewN ?_ _ | refine blk_drew ?_ | refine blk_alloc ?_ _)); exact BK195.out) hb); have n3_ := Aside0.mk (blk_below (g := gb202) (o := .cells #[.int .i64 t196, .string t197, .string t198, .string t199, .bool t200] 27 (0, 0)) (by (with_reducible repeat (first | refine blk_drewN ?_ _ | refine blk_drew ?_ | refine blk_alloc ?_ _)); exact BK202.out) hb); have n4_ := Aside0.mk (below_step (by repeat (first | (with_reducible first | exact HB.out | apply below_alloc | apply pw_below_drewN | apply below_drew1 | refine below_set ?_ GE181.out | refine below_set ?_ GE188.out | refine below_set ?_ GE195.out | refine below_set ?_ GE202.out) | exact HB.out)) hb); clear BK181; clear BK188; clear BK195; clear BK202; clear HB; have BK181 := n0_; have BK188 := n1_; have BK195 := n2_; have BK202 := n3_; have HB := n4_; clear n0_ n1_ n2_ n3_ n4_; (try clear hb); (try clear hb2); (try clear hk); (try clear hi)))
                 (try any_goals (exfalso; have h_ := ‹some undef = some (Value.bool _)›; revert h_; simp [undef]; done))
                 go_meet
                 case rel => exact ⟨_, (false), (by first | rfl | (simp; done) | (simp [*]; done)), H', ⟨by first | omega | exact Nat.le_refl _⟩, ⟨by (with_reducible repeat (first | refine blk_drewN ?_ _ | refine blk_drew ?_ | refine blk_alloc ?_ _)); exact BK181.out⟩, ⟨by (with_reducible repeat (first | refine blk_drewN ?_ _ | refine blk_drew ?_ | refine blk_alloc ?_ _)); exact BK188.out⟩, ⟨by (with_reducible repeat (first | refine blk_drewN ?_ _ | refine blk_drew ?_ | refine blk_alloc ?_ _)); exact BK195.out⟩, ⟨by (with_reducible repeat (first | refine blk_drewN ?_ _ | refine blk_drew ?_ | refine blk_alloc ?_ _)); exact BK202.out⟩, ⟨by repeat (first | (with_reducible first | exact HB.out | apply below_alloc | apply pw_below_drewN | apply below_drew1 | refine below_set ?_ GE181.out | refine below_set ?_ GE188.out | refine below_set ?_ GE195.out | refine below_set ?_ GE202.out) | exact HB.out)⟩⟩
                ·replace c53 := Bool.eq_false_iff.mpr c53
                 subst c53
                 rw [if_neg (show ¬ (false = true) by decide)] at H
                 replace H := Option.bind_eq_some_iff.mp H
                 obtain ⟨t207, A670, H⟩ := H
                 (try dsimp only at H)
                 have A67 := Aside0.mk A670
                 clear A670
                 by_cases c68 : t207 = true
                 ·subst c68
                  rw [if_pos rfl] at H
                  replace H := Option.bind_eq_some_iff.mp H
                  obtain ⟨t208, A690, H⟩ := H
                  (try dsimp only at H)
                  have A69 := Aside0.mk A690
                  clear A690
                  have H' := Aside0.mk H
                  clear H
                  have hnb70 := NB181_188.out
                  have hnc70 := NB188_181.out
                  have hnb71 := NB181_195.out
                  have hnc71 := NB195_181.out
                  have hnb72 := NB181_202.out
                  have hnc72 := NB202_181.out
                  have hcz73_0 : w19.cell? ⟨gb181, 0, none⟩ = some (.int .i64 t175) := (blk_cell BK181.out 0).trans rfl
                  have hcz73_1 : w19.cell? ⟨gb181, 1, none⟩ = some (.string t176) := (blk_cell BK181.out 1).trans rfl
                  have hcz73_2 : w19.cell? ⟨gb181, 2, none⟩ = some (.string t177) := (blk_cell BK181.out 2).trans rfl
                  have hcz73_3 : w19.cell? ⟨gb181, 3, none⟩ = some (.string t178) := (blk_cell BK181.out 3).trans rfl
                  have hcz73_4 : w19.cell? ⟨gb181, 4, none⟩ = some (.bool true) := (blk_cell BK181.out 4).trans rfl
                  have hfz73_0 := blk_frozen BK181.out 0
                  have hfz73_1 := blk_frozen BK181.out 1
                  have hfz73_2 := blk_frozen BK181.out 2
                  have hfz73_3 := blk_frozen BK181.out 3
                  have hfz73_4 := blk_frozen BK181.out 4
                  have hnb74 := NB188_195.out
                  have hnc74 := NB195_188.out
                  have hnb75 := NB188_202.out
                  have hnc75 := NB202_188.out
                  have hcz76_0 : w19.cell? ⟨gb188, 0, none⟩ = some (.int .i64 t182) := (blk_cell BK188.out 0).trans rfl
                  have hcz76_1 : w19.cell? ⟨gb188, 1, none⟩ = some (.string t183) := (blk_cell BK188.out 1).trans rfl
                  have hcz76_2 : w19.cell? ⟨gb188, 2, none⟩ = some (.string t184) := (blk_cell BK188.out 2).trans rfl
                  have hcz76_3 : w19.cell? ⟨gb188, 3, none⟩ = some (.string t185) := (blk_cell BK188.out 3).trans rfl
                  have hcz76_4 : w19.cell? ⟨gb188, 4, none⟩ = some (.bool t186) := (blk_cell BK188.out 4).trans rfl
                  have hfz76_0 := blk_frozen BK188.out 0
                  have hfz76_1 := blk_frozen BK188.out 1
                  have hfz76_2 := blk_frozen BK188.out 2
                  have hfz76_3 := blk_frozen BK188.out 3
                  have hfz76_4 := blk_frozen BK188.out 4
                  have hnb77 := NB202_195.out
                  have hnc77 := NB195_202.out
                  have hcz78_0 : w19.cell? ⟨gb202, 0, none⟩ = some (.int .i64 0) := (blk_cell BK202.out 0).trans rfl
                  have hcz78_1 : w19.cell? ⟨gb202, 1, none⟩ = some (.string (⟨#[]⟩ : ByteArray)) := (blk_cell BK202.out 1).trans rfl
                  have hcz78_2 : w19.cell? ⟨gb202, 2, none⟩ = some (.string (⟨#[]⟩ : ByteArray)) := (blk_cell BK202.out 2).trans rfl
                  have hcz78_3 : w19.cell? ⟨gb202, 3, none⟩ = some (.string (⟨#[]⟩ : ByteArray)) := (blk_cell BK202.out 3).trans rfl
                  have hcz78_4 : w19.cell? ⟨gb202, 4, none⟩ = some (.bool false) := (blk_cell BK202.out 4).trans rfl
                  have hfz78_0 := blk_frozen BK202.out 0
                  have hfz78_1 := blk_frozen BK202.out 1
                  have hfz78_2 := blk_frozen BK202.out 2
                  have hfz78_3 := blk_frozen BK202.out 3
                  have hfz78_4 := blk_frozen BK202.out 4
                  go_wp2_with (first | (go_at_call 13; (with_reducible refine (target_Host.calls k (⟨#[97, 46, 98, 58, 56, 48]⟩ : ByteArray) true _ A35.out).mono ?_); rintro e w79 ⟨rfl, hb⟩; have n0_ := Aside0.mk (blk_below (g := gb181) (o := .cells #[.int .i64 t175, .string t176, .string t177, .string t178, .bool true] 27 (0, 0)) (by (repeat ((with_reducible repeat (first | refine blk_drewN ?_ _ | refine blk_drew ?_ | refine blk_alloc ?_ _)); refine blk_far ?_ NB181_202.out _)); (with_reducible repeat (first | refine blk_drewN ?_ _ | refine blk_drew ?_ | refine blk_alloc ?_ _)); exact BK181.out) hb); have n1_ := Aside0.mk (blk_below (g := gb188) (o := .cells #[.int .i64 t182, .string t183, .string t184, .string t185, .bool t186] 27 (0, 0)) (by (repeat ((with_reducible repeat (first | refine blk_drewN ?_ _ | refine blk_drew ?_ | refine blk_alloc ?_ _)); refine blk_far ?_ NB188_202.out _)); (with_reducible repeat (first | refine blk_drewN ?_ _ | refine blk_drew ?_ | refine blk_alloc ?_ _)); exact BK188.out) hb); have n2_ := Aside0.mk (blk_below (g := gb195) (o := .cells #[.int .i64 t189, .string t190, .string t191, .string t192, .bool t193] 27 (0, 0)) (by (repeat ((with_reducible repeat (first | refine blk_drewN ?_ _ | refine blk_drew ?_ | refine blk_alloc ?_ _)); refine blk_far ?_ NB195_202.out _)); (with_reducible repeat (first | refine blk_drewN ?_ _ | refine blk_drew ?_ | refine blk_alloc ?_ _)); exact BK195.out) hb); have n3_ := Aside0.mk (blk_below (g := gb202) (o := .cells #[.int .i64 t196, .string t197, .string t198, .string t199, .bool t200] 27 (0, 0)) (by (with_reducible repeat (first | refine blk_drewN ?_ _ | refine blk_drew ?_ | refine blk_alloc ?_ _)); refine blk_put (cs := #[.int .i64 t196, .string t197, .string t198, .string t199, .bool false]) ?_ 4 _ rfl; (with_reducible repeat (first | refine blk_drewN ?_ _ | refine blk_drew ?_ | refine blk_alloc ?_ _)); refine blk_put (cs := #[.int .i64 t196, .string t197, .string t198, .string (⟨#[]⟩ : ByteArray), .bool false]) ?_ 3 _ rfl; (with_reducible repeat (first | refine blk_drewN ?_ _ | refine blk_drew ?_ | refine blk_alloc ?_ _)); refine blk_put (cs := #[.int .i64 t196, .string t197, .string (⟨#[]⟩ : ByteArray), .string (⟨#[]⟩ : ByteArray), .bool false]) ?_ 2 _ rfl; (with_reducible repeat (first | refine blk_drewN ?_ _ | refine blk_drew ?_ | refine blk_alloc ?_ _)); refine blk_put (cs := #[.int .i64 t196, .string (⟨#[]⟩ : ByteArray), .string (⟨#[]⟩ : ByteArray), .string (⟨#[]⟩ : ByteArray), .bool false]) ?_ 1 _ rfl; (with_reducible repeat (first | refine blk_drewN ?_ _ | refine blk_drew ?_ | refine blk_alloc ?_ _)); refine blk_put (cs := #[.int .i64 0, .string (⟨#[]⟩ : ByteArray), .string (⟨#[]⟩ : ByteArray), .string (⟨#[]⟩ : ByteArray), .bool false]) ?_ 0 _ rfl; (with_reducible repeat (first | refine blk_drewN ?_ _ | refine blk_drew ?_ | refine blk_alloc ?_ _)); exact BK202.out) hb); have n4_ := Aside0.mk (below_step (by repeat (first | (with_reducible first | exact HB.out | apply below_alloc | apply pw_below_drewN | apply below_drew1 | refine below_set ?_ GE181.out | refine below_set ?_ GE188.out | refine below_set ?_ GE195.out | refine below_set ?_ GE202.out) | exact HB.out)) hb); clear BK181; clear BK188; clear BK195; clear BK202; clear HB; have BK181 := n0_; have BK188 := n1_; have BK195 := n2_; have BK202 := n3_; have HB := n4_; clear n0_ n1_ n2_ n3_ n4_; (try clear hb); (try clear hb2); (try clear hk); (try clear hi)) | (go_at_call 13; (with_reducible refine (target_Host.calls k (⟨#[97, 58]⟩ : ByteArray) false _ A37.out).mono ?_); rintro e w80 ⟨rfl, hb⟩; have n0_ := Aside0.mk (blk_below (g := gb181) (o := .cells #[.int .i64 t175, .string t176, .string t177, .string t178, .bool true] 27 (0, 0)) (by (with_reducible repeat (first | refine blk_drewN ?_ _ | refine blk_drew ?_ | refine blk_alloc ?_ _)); exact BK181.out) hb); have n1_ := Aside0.mk (blk_below (g := gb188) (o := .cells #[.int .i64 t182, .string t183, .string t184, .string t185, .bool t186] 27 (0, 0)) (by (with_reducible repeat (first | refine blk_drewN ?_ _ | refine blk_drew ?_ | refine blk_alloc ?_ _)); exact BK188.out) hb); have n2_ := Aside0.mk (blk_below (g := gb195) (o := .cells #[.int .i64 t189, .string t190, .string t191, .string t192, .bool t193] 27 (0, 0)) (by (with_reducible repeat (first | refine blk_drewN ?_ _ | refine blk_drew ?_ | refine blk_alloc ?_ _)); exact BK195.out) hb); have n3_ := Aside0.mk (blk_below (g := gb202) (o := .cells #[.int .i64 t196, .string t197, .string t198, .string t199, .bool t200] 27 (0, 0)) (by (with_reducible repeat (first | refine blk_drewN ?_ _ | refine blk_drew ?_ | refine blk_alloc ?_ _)); exact BK202.out) hb); have n4_ := Aside0.mk (below_step (by repeat (first | (with_reducible first | exact HB.out | apply below_alloc | apply pw_below_drewN | apply below_drew1 | refine below_set ?_ GE181.out | refine below_set ?_ GE188.out | refine below_set ?_ GE195.out | refine below_set ?_ GE202.out) | exact HB.out)) hb); clear BK181; clear BK188; clear BK195; clear BK202; clear HB; have BK181 := n0_; have BK188 := n1_; have BK195 := n2_; have BK202 := n3_; have HB := n4_; clear n0_ n1_ n2_ n3_ n4_; (try clear hb); (try clear hb2); (try clear hk); (try clear hi)) | (go_at_call 15; (with_reducible refine (target_Path.calls k (⟨#[47, 37, 52, 49]⟩ : ByteArray) true _ A50.out).mono ?_); rintro e w81 ⟨rfl, hb⟩; have n0_ := Aside0.mk (blk_below (g := gb181) (o := .cells #[.int .i64 t175, .string t176, .string t177, .string t178, .bool true] 27 (0, 0)) (by (with_reducible repeat (first | refine blk_drewN ?_ _ | refine blk_drew ?_ | refine blk_alloc ?_ _)); exact BK181.out) hb); have n1_ := Aside0.mk (blk_below (g := gb188) (o := .cells #[.int .i64 t182, .string t183, .string t184, .string t185, .bool t186] 27 (0, 0)) (by (with_reducible repeat (first | refine blk_drewN ?_ _ | refine blk_drew ?_ | refine blk_alloc ?_ _)); exact BK188.out) hb); have n2_ := Aside0.mk (blk_below (g := gb195) (o := .cells #[.int .i64 t189, .string t190, .string t191, .string t192, .bool t193] 27 (0, 0)) (by (with_reducible repeat (first | refine blk_drewN ?_ _ | refine blk_drew ?_ | refine blk_alloc ?_ _)); exact BK195.out) hb); have n3_ := Aside0.mk (blk_below (g := gb202) (o := .cells #[.int .i64 t196, .string t197, .string t198, .string t199, .bool t200] 27 (0, 0)) (by (with_reducible repeat (first | refine blk_drewN ?_ _ | refine blk_drew ?_ | refine blk_alloc ?_ _)); exact BK202.out) hb); have n4_ := Aside0.mk (below_step (by repeat (first | (with_reducible first | exact HB.out | apply below_alloc | apply pw_below_drewN | apply below_drew1 | refine below_set ?_ GE181.out | refine below_set ?_ GE188.out | refine below_set ?_ GE195.out | refine below_set ?_ GE202.out) | exact HB.out)) hb); clear BK181; clear BK188; clear BK195; clear BK202; clear HB; have BK181 := n0_; have BK188 := n1_; have BK195 := n2_; have BK202 := n3_; have HB := n4_; clear n0_ n1_ n2_ n3_ n4_; (try clear hb); (try clear hb2); (try clear hk); (try clear hi)) | (go_at_call 15; (with_reducible refine (target_Path.calls k (⟨#[47, 37, 52]⟩ : ByteArray) false _ A52.out).mono ?_); rintro e w82 ⟨rfl, hb⟩; have n0_ := Aside0.mk (blk_below (g := gb181) (o := .cells #[.int .i64 t175, .string t176, .string t177, .string t178, .bool true] 27 (0, 0)) (by (with_reducible repeat (first | refine blk_drewN ?_ _ | refine blk_drew ?_ | refine blk_alloc ?_ _)); exact BK181.out) hb); have n1_ := Aside0.mk (blk_below (g := gb188) (o := .cells #[.int .i64 t182, .string t183, .string t184, .string t185, .bool t186] 27 (0, 0)) (by (with_reducible repeat (first | refine blk_drewN ?_ _ | refine blk_drew ?_ | refine blk_alloc ?_ _)); exact BK188.out) hb); have n2_ := Aside0.mk (blk_below (g := gb195) (o := .cells #[.int .i64 t189, .string t190, .string t191, .string t192, .bool t193] 27 (0, 0)) (by (with_reducible repeat (first | refine blk_drewN ?_ _ | refine blk_drew ?_ | refine blk_alloc ?_ _)); exact BK195.out) hb); have n3_ := Aside0.mk (blk_below (g := gb202) (o := .cells #[.int .i64 t196, .string t197, .string t198, .string t199, .bool t200] 27 (0, 0)) (by (with_reducible repeat (first | refine blk_drewN ?_ _ | refine blk_drew ?_ | refine blk_alloc ?_ _)); exact BK202.out) hb); have n4_ := Aside0.mk (below_step (by repeat (first | (with_reducible first | exact HB.out | apply below_alloc | apply pw_below_drewN | apply below_drew1 | refine below_set ?_ GE181.out | refine below_set ?_ GE188.out | refine below_set ?_ GE195.out | refine below_set ?_ GE202.out) | exact HB.out)) hb); clear BK181; clear BK188; clear BK195; clear BK202; clear HB; have BK181 := n0_; have BK188 := n1_; have BK195 := n2_; have BK202 := n3_; have HB := n4_; clear n0_ n1_ n2_ n3_ n4_; (try clear hb); (try clear hb2); (try clear hk); (try clear hi)) | (go_at_call 17; (with_reducible refine (target_Query.calls k (⟨#[97, 63, 98]⟩ : ByteArray) true _ A67.out).mono ?_); rintro e w83 ⟨rfl, hb⟩; have n0_ := Aside0.mk (blk_below (g := gb181) (o := .cells #[.int .i64 t175, .string t176, .string t177, .string t178, .bool true] 27 (0, 0)) (by (with_reducible repeat (first | refine blk_drewN ?_ _ | refine blk_drew ?_ | refine blk_alloc ?_ _)); exact BK181.out) hb); have n1_ := Aside0.mk (blk_below (g := gb188) (o := .cells #[.int .i64 t182, .string t183, .string t184, .string t185, .bool t186] 27 (0, 0)) (by (with_reducible repeat (first | refine blk_drewN ?_ _ | refine blk_drew ?_ | refine blk_alloc ?_ _)); exact BK188.out) hb); have n2_ := Aside0.mk (blk_below (g := gb195) (o := .cells #[.int .i64 t189, .string t190, .string t191, .string t192, .bool t193] 27 (0, 0)) (by (with_reducible repeat (first | refine blk_drewN ?_ _ | refine blk_drew ?_ | refine blk_alloc ?_ _)); exact BK195.out) hb); have n3_ := Aside0.mk (blk_below (g := gb202) (o := .cells #[.int .i64 t196, .string t197, .string t198, .string t199, .bool t200] 27 (0, 0)) (by (with_reducible repeat (first | refine blk_drewN ?_ _ | refine blk_drew ?_ | refine blk_alloc ?_ _)); exact BK202.out) hb); have n4_ := Aside0.mk (below_step (by repeat (first | (with_reducible first | exact HB.out | apply below_alloc | apply pw_below_drewN | apply below_drew1 | refine below_set ?_ GE181.out | refine below_set ?_ GE188.out | refine below_set ?_ GE195.out | refine below_set ?_ GE202.out) | exact HB.out)) hb); clear BK181; clear BK188; clear BK195; clear BK202; clear HB; have BK181 := n0_; have BK188 := n1_; have BK195 := n2_; have BK202 := n3_; have HB := n4_; clear n0_ n1_ n2_ n3_ n4_; (try clear hb); (try clear hb2); (try clear hk); (try clear hi); have hcz84_0 : w83.cell? ⟨gb181, 0, none⟩ = some (.int .i64 t175) := (blk_cell BK181.out 0).trans rfl; have hcz84_1 : w83.cell? ⟨gb181, 1, none⟩ = some (.string t176) := (blk_cell BK181.out 1).trans rfl; have hcz84_2 : w83.cell? ⟨gb181, 2, none⟩ = some (.string t177) := (blk_cell BK181.out 2).trans rfl; have hcz84_3 : w83.cell? ⟨gb181, 3, none⟩ = some (.string t178) := (blk_cell BK181.out 3).trans rfl; have hcz84_4 : w83.cell? ⟨gb181, 4, none⟩ = some (.bool true) := (blk_cell BK181.out 4).trans rfl; have hfz84_0 := blk_frozen BK181.out 0; have hfz84_1 := blk_frozen BK181.out 1; have hfz84_2 := blk_frozen BK181.out 2; have hfz84_3 := blk_frozen BK181.out 3; have hfz84_4 := blk_frozen BK181.out 4) | (go_at_call 11; (with_reducible refine (target_Put.calls k t175 t176 t177 t178 true t208 _ A69.out).mono ?_); rintro e w85 ⟨rfl, hb⟩; have n0_ := Aside0.mk (blk_below (g := gb181) (o := .cells #[.int .i64 t175, .string t176, .string t177, .string t178, .bool true] 27 (0, 0)) (by (with_reducible repeat (first | refine blk_drewN ?_ _ | refine blk_drew ?_ | refine blk_alloc ?_ _)); exact BK181.out) hb); have n1_ := Aside0.mk (blk_below (g := gb188) (o := .cells #[.int .i64 t182, .string t183, .string t184, .string t185, .bool t186] 27 (0, 0)) (by (with_reducible repeat (first | refine blk_drewN ?_ _ | refine blk_drew ?_ | refine blk_alloc ?_ _)); exact BK188.out) hb); have n2_ := Aside0.mk (blk_below (g := gb195) (o := .cells #[.int .i64 t189, .string t190, .string t191, .string t192, .bool t193] 27 (0, 0)) (by (with_reducible repeat (first | refine blk_drewN ?_ _ | refine blk_drew ?_ | refine blk_alloc ?_ _)); exact BK195.out) hb); have n3_ := Aside0.mk (blk_below (g := gb202) (o := .cells #[.int .i64 t196, .string t197, .string t198, .string t199, .bool t200] 27 (0, 0)) (by (with_reducible repeat (first | refine blk_drewN ?_ _ | refine blk_drew ?_ | refine blk_alloc ?_ _)); exact BK202.out) hb); have n4_ := Aside0.mk (below_step (by repeat (first | (with_reducible first | exact HB.out | apply below_alloc | apply pw_below_drewN | apply below_drew1 | refine below_set ?_ GE181.out | refine below_set ?_ GE188.out | refine below_set ?_ GE195.out | refine below_set ?_ GE202.out) | exact HB.out)) hb); clear BK181; clear BK188; clear BK195; clear BK202; clear HB; have BK181 := n0_; have BK188 := n1_; have BK195 := n2_; have BK202 := n3_; have HB := n4_; clear n0_ n1_ n2_ n3_ n4_; (try clear hb); (try clear hb2); (try clear hk); (try clear hi)))
                  (try any_goals (exfalso; have h_ := ‹some undef = some (Value.bool _)›; revert h_; simp [undef]; done))
                  go_meet
                  case rel => exact ⟨_, ((t208.toList == ([47, 97, 63, 98] : List UInt8))), (by first | rfl | (simp; done) | (simp [*]; done)), H', ⟨by first | omega | exact Nat.le_refl _⟩, ⟨by (with_reducible repeat (first | refine blk_drewN ?_ _ | refine blk_drew ?_ | refine blk_alloc ?_ _)); exact BK181.out⟩, ⟨by (with_reducible repeat (first | refine blk_drewN ?_ _ | refine blk_drew ?_ | refine blk_alloc ?_ _)); exact BK188.out⟩, ⟨by (with_reducible repeat (first | refine blk_drewN ?_ _ | refine blk_drew ?_ | refine blk_alloc ?_ _)); exact BK195.out⟩, ⟨by (with_reducible repeat (first | refine blk_drewN ?_ _ | refine blk_drew ?_ | refine blk_alloc ?_ _)); exact BK202.out⟩, ⟨by repeat (first | (with_reducible first | exact HB.out | apply below_alloc | apply pw_below_drewN | apply below_drew1 | refine below_set ?_ GE181.out | refine below_set ?_ GE188.out | refine below_set ?_ GE195.out | refine below_set ?_ GE202.out) | exact HB.out)⟩⟩
                 ·replace c68 := Bool.eq_false_iff.mpr c68
                  subst c68
                  rw [if_neg (show ¬ (false = true) by decide)] at H
                  have H' := Aside0.mk H
                  clear H
                  have hnb86 := NB181_188.out
                  have hnc86 := NB188_181.out
                  have hnb87 := NB181_195.out
                  have hnc87 := NB195_181.out
                  have hnb88 := NB181_202.out
                  have hnc88 := NB202_181.out
                  have hcz89_0 : w19.cell? ⟨gb181, 0, none⟩ = some (.int .i64 t175) := (blk_cell BK181.out 0).trans rfl
                  have hcz89_1 : w19.cell? ⟨gb181, 1, none⟩ = some (.string t176) := (blk_cell BK181.out 1).trans rfl
                  have hcz89_2 : w19.cell? ⟨gb181, 2, none⟩ = some (.string t177) := (blk_cell BK181.out 2).trans rfl
                  have hcz89_3 : w19.cell? ⟨gb181, 3, none⟩ = some (.string t178) := (blk_cell BK181.out 3).trans rfl
                  have hcz89_4 : w19.cell? ⟨gb181, 4, none⟩ = some (.bool true) := (blk_cell BK181.out 4).trans rfl
                  have hfz89_0 := blk_frozen BK181.out 0
                  have hfz89_1 := blk_frozen BK181.out 1
                  have hfz89_2 := blk_frozen BK181.out 2
                  have hfz89_3 := blk_frozen BK181.out 3
                  have hfz89_4 := blk_frozen BK181.out 4
                  have hnb90 := NB188_195.out
                  have hnc90 := NB195_188.out
                  have hnb91 := NB188_202.out
                  have hnc91 := NB202_188.out
                  have hcz92_0 : w19.cell? ⟨gb188, 0, none⟩ = some (.int .i64 t182) := (blk_cell BK188.out 0).trans rfl
                  have hcz92_1 : w19.cell? ⟨gb188, 1, none⟩ = some (.string t183) := (blk_cell BK188.out 1).trans rfl
                  have hcz92_2 : w19.cell? ⟨gb188, 2, none⟩ = some (.string t184) := (blk_cell BK188.out 2).trans rfl
                  have hcz92_3 : w19.cell? ⟨gb188, 3, none⟩ = some (.string t185) := (blk_cell BK188.out 3).trans rfl
                  have hcz92_4 : w19.cell? ⟨gb188, 4, none⟩ = some (.bool t186) := (blk_cell BK188.out 4).trans rfl
                  have hfz92_0 := blk_frozen BK188.out 0
                  have hfz92_1 := blk_frozen BK188.out 1
                  have hfz92_2 := blk_frozen BK188.out 2
                  have hfz92_3 := blk_frozen BK188.out 3
                  have hfz92_4 := blk_frozen BK188.out 4
                  have hnb93 := NB202_195.out
                  have hnc93 := NB195_202.out
                  have hcz94_0 : w19.cell? ⟨gb202, 0, none⟩ = some (.int .i64 0) := (blk_cell BK202.out 0).trans rfl
                  have hcz94_1 : w19.cell? ⟨gb202, 1, none⟩ = some (.string (⟨#[]⟩ : ByteArray)) := (blk_cell BK202.out 1).trans rfl
                  have hcz94_2 : w19.cell? ⟨gb202, 2, none⟩ = some (.string (⟨#[]⟩ : ByteArray)) := (blk_cell BK202.out 2).trans rfl
                  have hcz94_3 : w19.cell? ⟨gb202, 3, none⟩ = some (.string (⟨#[]⟩ : ByteArray)) := (blk_cell BK202.out 3).trans rfl
                  have hcz94_4 : w19.cell? ⟨gb202, 4, none⟩ = some (.bool false) := (blk_cell BK202.out 4).trans rfl
                  have hfz94_0 := blk_frozen BK202.out 0
                  have hfz94_1 := blk_frozen BK202.out 1
                  have hfz94_2 := blk_frozen BK202.out 2
                  have hfz94_3 := blk_frozen BK202.out 3
                  have hfz94_4 := blk_frozen BK202.out 4
                  go_wp2_with (first | (go_at_call 13; (with_reducible refine (target_Host.calls k (⟨#[97, 46, 98, 58, 56, 48]⟩ : ByteArray) true _ A35.out).mono ?_); rintro e w95 ⟨rfl, hb⟩; have n0_ := Aside0.mk (blk_below (g := gb181) (o := .cells #[.int .i64 t175, .string t176, .string t177, .string t178, .bool true] 27 (0, 0)) (by (repeat ((with_reducible repeat (first | refine blk_drewN ?_ _ | refine blk_drew ?_ | refine blk_alloc ?_ _)); refine blk_far ?_ NB181_202.out _)); (with_reducible repeat (first | refine blk_drewN ?_ _ | refine blk_drew ?_ | refine blk_alloc ?_ _)); exact BK181.out) hb); have n1_ := Aside0.mk (blk_below (g := gb188) (o := .cells #[.int .i64 t182, .string t183, .string t184, .string t185, .bool t186] 27 (0, 0)) (by (repeat ((with_reducible repeat (first | refine blk_drewN ?_ _ | refine blk_drew ?_ | refine blk_alloc ?_ _)); refine blk_far ?_ NB188_202.out _)); (with_reducible repeat (first | refine blk_drewN ?_ _ | refine blk_drew ?_ | refine blk_alloc ?_ _)); exact BK188.out) hb); have n2_ := Aside0.mk (blk_below (g := gb195) (o := .cells #[.int .i64 t189, .string t190, .string t191, .string t192, .bool t193] 27 (0, 0)) (by (repeat ((with_reducible repeat (first | refine blk_drewN ?_ _ | refine blk_drew ?_ | refine blk_alloc ?_ _)); refine blk_far ?_ NB195_202.out _)); (with_reducible repeat (first | refine blk_drewN ?_ _ | refine blk_drew ?_ | refine blk_alloc ?_ _)); exact BK195.out) hb); have n3_ := Aside0.mk (blk_below (g := gb202) (o := .cells #[.int .i64 t196, .string t197, .string t198, .string t199, .bool t200] 27 (0, 0)) (by (with_reducible repeat (first | refine blk_drewN ?_ _ | refine blk_drew ?_ | refine blk_alloc ?_ _)); refine blk_put (cs := #[.int .i64 t196, .string t197, .string t198, .string t199, .bool false]) ?_ 4 _ rfl; (with_reducible repeat (first | refine blk_drewN ?_ _ | refine blk_drew ?_ | refine blk_alloc ?_ _)); refine blk_put (cs := #[.int .i64 t196, .string t197, .string t198, .string (⟨#[]⟩ : ByteArray), .bool false]) ?_ 3 _ rfl; (with_reducible repeat (first | refine blk_drewN ?_ _ | refine blk_drew ?_ | refine blk_alloc ?_ _)); refine blk_put (cs := #[.int .i64 t196, .string t197, .string (⟨#[]⟩ : ByteArray), .string (⟨#[]⟩ : ByteArray), .bool false]) ?_ 2 _ rfl; (with_reducible repeat (first | refine blk_drewN ?_ _ | refine blk_drew ?_ | refine blk_alloc ?_ _)); refine blk_put (cs := #[.int .i64 t196, .string (⟨#[]⟩ : ByteArray), .string (⟨#[]⟩ : ByteArray), .string (⟨#[]⟩ : ByteArray), .bool false]) ?_ 1 _ rfl; (with_reducible repeat (first | refine blk_drewN ?_ _ | refine blk_drew ?_ | refine blk_alloc ?_ _)); refine blk_put (cs := #[.int .i64 0, .string (⟨#[]⟩ : ByteArray), .string (⟨#[]⟩ : ByteArray), .string (⟨#[]⟩ : ByteArray), .bool false]) ?_ 0 _ rfl; (with_reducible repeat (first | refine blk_drewN ?_ _ | refine blk_drew ?_ | refine blk_alloc ?_ _)); exact BK202.out) hb); have n4_ := Aside0.mk (below_step (by repeat (first | (with_reducible first | exact HB.out | apply below_alloc | apply pw_below_drewN | apply below_drew1 | refine below_set ?_ GE181.out | refine below_set ?_ GE188.out | refine below_set ?_ GE195.out | refine below_set ?_ GE202.out) | exact HB.out)) hb); clear BK181; clear BK188; clear BK195; clear BK202; clear HB; have BK181 := n0_; have BK188 := n1_; have BK195 := n2_; have BK202 := n3_; have HB := n4_; clear n0_ n1_ n2_ n3_ n4_; (try clear hb); (try clear hb2); (try clear hk); (try clear hi)) | (go_at_call 13; (with_reducible refine (target_Host.calls k (⟨#[97, 58]⟩ : ByteArray) false _ A37.out).mono ?_); rintro e w96 ⟨rfl, hb⟩; have n0_ := Aside0.mk (blk_below (g := gb181) (o := .cells #[.int .i64 t175, .string t176, .string t177, .string t178, .bool true] 27 (0, 0)) (by (with_reducible repeat (first | refine blk_drewN ?_ _ | refine blk_drew ?_ | refine blk_alloc ?_ _)); exact BK181.out) hb); have n1_ := Aside0.mk (blk_below (g := gb188) (o := .cells #[.int .i64 t182, .string t183, .string t184, .string t185, .bool t186] 27 (0, 0)) (by (with_reducible repeat (first | refine blk_drewN ?_ _ | refine blk_drew ?_ | refine blk_alloc ?_ _)); exact BK188.out) hb); have n2_ := Aside0.mk (blk_below (g := gb195) (o := .cells #[.int .i64 t189, .string t190, .string t191, .string t192, .bool t193] 27 (0, 0)) (by (with_reducible repeat (first | refine blk_drewN ?_ _ | refine blk_drew ?_ | refine blk_alloc ?_ _)); exact BK195.out) hb); have n3_ := Aside0.mk (blk_below (g := gb202) (o := .cells #[.int .i64 t196, .string t197, .string t198, .string t199, .bool t200] 27 (0, 0)) (by (with_reducible repeat (first | refine blk_drewN ?_ _ | refine blk_drew ?_ | refine blk_alloc ?_ _)); exact BK202.out) hb); have n4_ := Aside0.mk (below_step (by repeat (first | (with_reducible first | exact HB.out | apply below_alloc | apply pw_below_drewN | apply below_drew1 | refine below_set ?_ GE181.out | refine below_set ?_ GE188.out | refine below_set ?_ GE195.out | refine below_set ?_ GE202.out) | exact HB.out)) hb); clear BK181; clear BK188; clear BK195; clear BK202; clear HB; have BK181 := n0_; have BK188 := n1_; have BK195 := n2_; have BK202 := n3_; have HB := n4_; clear n0_ n1_ n2_ n3_ n4_; (try clear hb); (try clear hb2); (try clear hk); (try clear hi)) | (go_at_call 15; (with_reducible refine (target_Path.calls k (⟨#[47, 37, 52, 49]⟩ : ByteArray) true _ A50.out).mono ?_); rintro e w97 ⟨rfl, hb⟩; have n0_ := Aside0.mk (blk_below (g := gb181) (o := .cells #[.int .i64 t175, .string t176, .string t177, .string t178, .bool true] 27 (0, 0)) (by (with_reducible repeat (first | refine blk_drewN ?_ _ | refine blk_drew ?_ | refine blk_alloc ?_ _)); exact BK181.out) hb); have n1_ := Aside0.mk (blk_below (g := gb188) (o := .cells #[.int .i64 t182, .string t183, .string t184, .string t185, .bool t186] 27 (0, 0)) (by (with_reducible repeat (first | refine blk_drewN ?_ _ | refine blk_drew ?_ | refine blk_alloc ?_ _)); exact BK188.out) hb); have n2_ := Aside0.mk (blk_below (g := gb195) (o := .cells #[.int .i64 t189, .string t190, .string t191, .string t192, .bool t193] 27 (0, 0)) (by (with_reducible repeat (first | refine blk_drewN ?_ _ | refine blk_drew ?_ | refine blk_alloc ?_ _)); exact BK195.out) hb); have n3_ := Aside0.mk (blk_below (g := gb202) (o := .cells #[.int .i64 t196, .string t197, .string t198, .string t199, .bool t200] 27 (0, 0)) (by (with_reducible repeat (first | refine blk_drewN ?_ _ | refine blk_drew ?_ | refine blk_alloc ?_ _)); exact BK202.out) hb); have n4_ := Aside0.mk (below_step (by repeat (first | (with_reducible first | exact HB.out | apply below_alloc | apply pw_below_drewN | apply below_drew1 | refine below_set ?_ GE181.out | refine below_set ?_ GE188.out | refine below_set ?_ GE195.out | refine below_set ?_ GE202.out) | exact HB.out)) hb); clear BK181; clear BK188; clear BK195; clear BK202; clear HB; have BK181 := n0_; have BK188 := n1_; have BK195 := n2_; have BK202 := n3_; have HB := n4_; clear n0_ n1_ n2_ n3_ n4_; (try clear hb); (try clear hb2); (try clear hk); (try clear hi)) | (go_at_call 15; (with_reducible refine (target_Path.calls k (⟨#[47, 37, 52]⟩ : ByteArray) false _ A52.out).mono ?_); rintro e w98 ⟨rfl, hb⟩; have n0_ := Aside0.mk (blk_below (g := gb181) (o := .cells #[.int .i64 t175, .string t176, .string t177, .string t178, .bool true] 27 (0, 0)) (by (with_reducible repeat (first | refine blk_drewN ?_ _ | refine blk_drew ?_ | refine blk_alloc ?_ _)); exact BK181.out) hb); have n1_ := Aside0.mk (blk_below (g := gb188) (o := .cells #[.int .i64 t182, .string t183, .string t184, .string t185, .bool t186] 27 (0, 0)) (by (with_reducible repeat (first | refine blk_drewN ?_ _ | refine blk_drew ?_ | refine blk_alloc ?_ _)); exact BK188.out) hb); have n2_ := Aside0.mk (blk_below (g := gb195) (o := .cells #[.int .i64 t189, .string t190, .string t191, .string t192, .bool t193] 27 (0, 0)) (by (with_reducible repeat (first | refine blk_drewN ?_ _ | refine blk_drew ?_ | refine blk_alloc ?_ _)); exact BK195.out) hb); have n3_ := Aside0.mk (blk_below (g := gb202) (o := .cells #[.int .i64 t196, .string t197, .string t198, .string t199, .bool t200] 27 (0, 0)) (by (with_reducible repeat (first | refine blk_drewN ?_ _ | refine blk_drew ?_ | refine blk_alloc ?_ _)); exact BK202.out) hb); have n4_ := Aside0.mk (below_step (by repeat (first | (with_reducible first | exact HB.out | apply below_alloc | apply pw_below_drewN | apply below_drew1 | refine below_set ?_ GE181.out | refine below_set ?_ GE188.out | refine below_set ?_ GE195.out | refine below_set ?_ GE202.out) | exact HB.out)) hb); clear BK181; clear BK188; clear BK195; clear BK202; clear HB; have BK181 := n0_; have BK188 := n1_; have BK195 := n2_; have BK202 := n3_; have HB := n4_; clear n0_ n1_ n2_ n3_ n4_; (try clear hb); (try clear hb2); (try clear hk); (try clear hi)) | (go_at_call 17; (with_reducible refine (target_Query.calls k (⟨#[97, 63, 98]⟩ : ByteArray) false _ A67.out).mono ?_); rintro e w99 ⟨rfl, hb⟩; have n0_ := Aside0.mk (blk_below (g := gb181) (o := .cells #[.int .i64 t175, .string t176, .string t177, .string t178, .bool true] 27 (0, 0)) (by (with_reducible repeat (first | refine blk_drewN ?_ _ | refine blk_drew ?_ | refine blk_alloc ?_ _)); exact BK181.out) hb); have n1_ := Aside0.mk (blk_below (g := gb188) (o := .cells #[.int .i64 t182, .string t183, .string t184, .string t185, .bool t186] 27 (0, 0)) (by (with_reducible repeat (first | refine blk_drewN ?_ _ | refine blk_drew ?_ | refine blk_alloc ?_ _)); exact BK188.out) hb); have n2_ := Aside0.mk (blk_below (g := gb195) (o := .cells #[.int .i64 t189, .string t190, .string t191, .string t192, .bool t193] 27 (0, 0)) (by (with_reducible repeat (first | refine blk_drewN ?_ _ | refine blk_drew ?_ | refine blk_alloc ?_ _)); exact BK195.out) hb); have n3_ := Aside0.mk (blk_below (g := gb202) (o := .cells #[.int .i64 t196, .string t197, .string t198, .string t199, .bool t200] 27 (0, 0)) (by (with_reducible repeat (first | refine blk_drewN ?_ _ | refine blk_drew ?_ | refine blk_alloc ?_ _)); exact BK202.out) hb); have n4_ := Aside0.mk (below_step (by repeat (first | (with_reducible first | exact HB.out | apply below_alloc | apply pw_below_drewN | apply below_drew1 | refine below_set ?_ GE181.out | refine below_set ?_ GE188.out | refine below_set ?_ GE195.out | refine below_set ?_ GE202.out) | exact HB.out)) hb); clear BK181; clear BK188; clear BK195; clear BK202; clear HB; have BK181 := n0_; have BK188 := n1_; have BK195 := n2_; have BK202 := n3_; have HB := n4_; clear n0_ n1_ n2_ n3_ n4_; (try clear hb); (try clear hb2); (try clear hk); (try clear hi)))
                  (try any_goals (exfalso; have h_ := ‹some undef = some (Value.bool _)›; revert h_; simp [undef]; done))
                  go_meet
                  case rel => exact ⟨_, (false), (by first | rfl | (simp; done) | (simp [*]; done)), H', ⟨by first | omega | exact Nat.le_refl _⟩, ⟨by (with_reducible repeat (first | refine blk_drewN ?_ _ | refine blk_drew ?_ | refine blk_alloc ?_ _)); exact BK181.out⟩, ⟨by (with_reducible repeat (first | refine blk_drewN ?_ _ | refine blk_drew ?_ | refine blk_alloc ?_ _)); exact BK188.out⟩, ⟨by (with_reducible repeat (first | refine blk_drewN ?_ _ | refine blk_drew ?_ | refine blk_alloc ?_ _)); exact BK195.out⟩, ⟨by (with_reducible repeat (first | refine blk_drewN ?_ _ | refine blk_drew ?_ | refine blk_alloc ?_ _)); exact BK202.out⟩, ⟨by repeat (first | (with_reducible first | exact HB.out | apply below_alloc | apply pw_below_drewN | apply below_drew1 | refine below_set ?_ GE181.out | refine below_set ?_ GE188.out | refine below_set ?_ GE195.out | refine below_set ?_ GE202.out) | exact HB.out)⟩⟩
               ·replace c51 := Bool.eq_false_iff.mpr c51
                subst c51
                rw [if_neg (show ¬ (false = true) by decide)] at H
                have H' := Aside0.mk H
                clear H
                have hnb100 := NB181_188.out
                have hnc100 := NB188_181.out
                have hnb101 := NB181_195.out
                have hnc101 := NB195_181.out
                have hnb102 := NB181_202.out
                have hnc102 := NB202_181.out
                have hcz103_0 : w19.cell? ⟨gb181, 0, none⟩ = some (.int .i64 t175) := (blk_cell BK181.out 0).trans rfl
                have hcz103_1 : w19.cell? ⟨gb181, 1, none⟩ = some (.string t176) := (blk_cell BK181.out 1).trans rfl
                have hcz103_2 : w19.cell? ⟨gb181, 2, none⟩ = some (.string t177) := (blk_cell BK181.out 2).trans rfl
                have hcz103_3 : w19.cell? ⟨gb181, 3, none⟩ = some (.string t178) := (blk_cell BK181.out 3).trans rfl
                have hcz103_4 : w19.cell? ⟨gb181, 4, none⟩ = some (.bool true) := (blk_cell BK181.out 4).trans rfl
                have hfz103_0 := blk_frozen BK181.out 0
                have hfz103_1 := blk_frozen BK181.out 1
                have hfz103_2 := blk_frozen BK181.out 2
                have hfz103_3 := blk_frozen BK181.out 3
                have hfz103_4 := blk_frozen BK181.out 4
                have hnb104 := NB188_195.out
                have hnc104 := NB195_188.out
                have hnb105 := NB188_202.out
                have hnc105 := NB202_188.out
                have hcz106_0 : w19.cell? ⟨gb188, 0, none⟩ = some (.int .i64 t182) := (blk_cell BK188.out 0).trans rfl
                have hcz106_1 : w19.cell? ⟨gb188, 1, none⟩ = some (.string t183) := (blk_cell BK188.out 1).trans rfl
                have hcz106_2 : w19.cell? ⟨gb188, 2, none⟩ = some (.string t184) := (blk_cell BK188.out 2).trans rfl
                have hcz106_3 : w19.cell? ⟨gb188, 3, none⟩ = some (.string t185) := (blk_cell BK188.out 3).trans rfl
                have hcz106_4 : w19.cell? ⟨gb188, 4, none⟩ = some (.bool t186) := (blk_cell BK188.out 4).trans rfl
                have hfz106_0 := blk_frozen BK188.out 0
                have hfz106_1 := blk_frozen BK188.out 1
                have hfz106_2 := blk_frozen BK188.out 2
                have hfz106_3 := blk_frozen BK188.out 3
                have hfz106_4 := blk_frozen BK188.out 4
                have hnb107 := NB202_195.out
                have hnc107 := NB195_202.out
                have hcz108_0 : w19.cell? ⟨gb202, 0, none⟩ = some (.int .i64 0) := (blk_cell BK202.out 0).trans rfl
                have hcz108_1 : w19.cell? ⟨gb202, 1, none⟩ = some (.string (⟨#[]⟩ : ByteArray)) := (blk_cell BK202.out 1).trans rfl
                have hcz108_2 : w19.cell? ⟨gb202, 2, none⟩ = some (.string (⟨#[]⟩ : ByteArray)) := (blk_cell BK202.out 2).trans rfl
                have hcz108_3 : w19.cell? ⟨gb202, 3, none⟩ = some (.string (⟨#[]⟩ : ByteArray)) := (blk_cell BK202.out 3).trans rfl
                have hcz108_4 : w19.cell? ⟨gb202, 4, none⟩ = some (.bool false) := (blk_cell BK202.out 4).trans rfl
                have hfz108_0 := blk_frozen BK202.out 0
                have hfz108_1 := blk_frozen BK202.out 1
                have hfz108_2 := blk_frozen BK202.out 2
                have hfz108_3 := blk_frozen BK202.out 3
                have hfz108_4 := blk_frozen BK202.out 4
                go_wp2_with (first | (go_at_call 13; (with_reducible refine (target_Host.calls k (⟨#[97, 46, 98, 58, 56, 48]⟩ : ByteArray) true _ A35.out).mono ?_); rintro e w109 ⟨rfl, hb⟩; have n0_ := Aside0.mk (blk_below (g := gb181) (o := .cells #[.int .i64 t175, .string t176, .string t177, .string t178, .bool true] 27 (0, 0)) (by (repeat ((with_reducible repeat (first | refine blk_drewN ?_ _ | refine blk_drew ?_ | refine blk_alloc ?_ _)); refine blk_far ?_ NB181_202.out _)); (with_reducible repeat (first | refine blk_drewN ?_ _ | refine blk_drew ?_ | refine blk_alloc ?_ _)); exact BK181.out) hb); have n1_ := Aside0.mk (blk_below (g := gb188) (o := .cells #[.int .i64 t182, .string t183, .string t184, .string t185, .bool t186] 27 (0, 0)) (by (repeat ((with_reducible repeat (first | refine blk_drewN ?_ _ | refine blk_drew ?_ | refine blk_alloc ?_ _)); refine blk_far ?_ NB188_202.out _)); (with_reducible repeat (first | refine blk_drewN ?_ _ | refine blk_drew ?_ | refine blk_alloc ?_ _)); exact BK188.out) hb); have n2_ := Aside0.mk (blk_below (g := gb195) (o := .cells #[.int .i64 t189, .string t190, .string t191, .string t192, .bool t193] 27 (0, 0)) (by (repeat ((with_reducible repeat (first | refine blk_drewN ?_ _ | refine blk_drew ?_ | refine blk_alloc ?_ _)); refine blk_far ?_ NB195_202.out _)); (with_reducible repeat (first | refine blk_drewN ?_ _ | refine blk_drew ?_ | refine blk_alloc ?_ _)); exact BK195.out) hb); have n3_ := Aside0.mk (blk_below (g := gb202) (o := .cells #[.int .i64 t196, .string t197, .string t198, .string t199, .bool t200] 27 (0, 0)) (by (with_reducible repeat (first | refine blk_drewN ?_ _ | refine blk_drew ?_ | refine blk_alloc ?_ _)); refine blk_put (cs := #[.int .i64 t196, .string t197, .string t198, .string t199, .bool false]) ?_ 4 _ rfl; (with_reducible repeat (first | refine blk_drewN ?_ _ | refine blk_drew ?_ | refine blk_alloc ?_ _)); refine blk_put (cs := #[.int .i64 t196, .string t197, .string t198, .string (⟨#[]⟩ : ByteArray), .bool false]) ?_ 3 _ rfl; (with_reducible repeat (first | refine blk_drewN ?_ _ | refine blk_drew ?_ | refine blk_alloc ?_ _)); refine blk_put (cs := #[.int .i64 t196, .string t197, .string (⟨#[]⟩ : ByteArray), .string (⟨#[]⟩ : ByteArray), .bool false]) ?_ 2 _ rfl; (with_reducible repeat (first | refine blk_drewN ?_ _ | refine blk_drew ?_ | refine blk_alloc ?_ _)); refine blk_put (cs := #[.int .i64 t196, .string (⟨#[]⟩ : ByteArray), .string (⟨#[]⟩ : ByteArray), .string (⟨#[]⟩ : ByteArray), .bool false]) ?_ 1 _ rfl; (with_reducible repeat (first | refine blk_drewN ?_ _ | refine blk_drew ?_ | refine blk_alloc ?_ _)); refine blk_put (cs := #[.int .i64 0, .string (⟨#[]⟩ : ByteArray), .string (⟨#[]⟩ : ByteArray), .string (⟨#[]⟩ : ByteArray), .bool false]) ?_ 0 _ rfl; (with_reducible repeat (first | refine blk_drewN ?_ _ | refine blk_drew ?_ | refine blk_alloc ?_ _)); exact BK202.out) hb); have n4_ := Aside0.mk (below_step (by repeat (first | (with_reducible first | exact HB.out | apply below_alloc | apply pw_below_drewN | apply below_drew1 | refine below_set ?_ GE181.out | refine below_set ?_ GE188.out | refine below_set ?_ GE195.out | refine below_set ?_ GE202.out) | exact HB.out)) hb); clear BK181; clear BK188; clear BK195; clear BK202; clear HB; have BK181 := n0_; have BK188 := n1_; have BK195 := n2_; have BK202 := n3_; have HB := n4_; clear n0_ n1_ n2_ n3_ n4_; (try clear hb); (try clear hb2); (try clear hk); (try clear hi)) | (go_at_call 13; (with_reducible refine (target_Host.calls k (⟨#[97, 58]⟩ : ByteArray) false _ A37.out).mono ?_); rintro e w110 ⟨rfl, hb⟩; have n0_ := Aside0.mk (blk_below (g := gb181) (o := .cells #[.int .i64 t175, .string t176, .string t177, .string t178, .bool true] 27 (0, 0)) (by (with_reducible repeat (first | refine blk_drewN ?_ _ | refine blk_drew ?_ | refine blk_alloc ?_ _)); exact BK181.out) hb); have n1_ := Aside0.mk (blk_below (g := gb188) (o := .cells #[.int .i64 t182, .string t183, .string t184, .string t185, .bool t186] 27 (0, 0)) (by (with_reducible repeat (first | refine blk_drewN ?_ _ | refine blk_drew ?_ | refine blk_alloc ?_ _)); exact BK188.out) hb); have n2_ := Aside0.mk (blk_below (g := gb195) (o := .cells #[.int .i64 t189, .string t190, .string t191, .string t192, .bool t193] 27 (0, 0)) (by (with_reducible repeat (first | refine blk_drewN ?_ _ | refine blk_drew ?_ | refine blk_alloc ?_ _)); exact BK195.out) hb); have n3_ := Aside0.mk (blk_below (g := gb202) (o := .cells #[.int .i64 t196, .string t197, .string t198, .string t199, .bool t200] 27 (0, 0)) (by (with_reducible repeat (first | refine blk_drewN ?_ _ | refine blk_drew ?_ | refine blk_alloc ?_ _)); exact BK202.out) hb); have n4_ := Aside0.mk (below_step (by repeat (first | (with_reducible first | exact HB.out | apply below_alloc | apply pw_below_drewN | apply below_drew1 | refine below_set ?_ GE181.out | refine below_set ?_ GE188.out | refine below_set ?_ GE195.out | refine below_set ?_ GE202.out) | exact HB.out)) hb); clear BK181; clear BK188; clear BK195; clear BK202; clear HB; have BK181 := n0_; have BK188 := n1_; have BK195 := n2_; have BK202 := n3_; have HB := n4_; clear n0_ n1_ n2_ n3_ n4_; (try clear hb); (try clear hb2); (try clear hk); (try clear hi)) | (go_at_call 15; (with_reducible refine (target_Path.calls k (⟨#[47, 37, 52, 49]⟩ : ByteArray) false _ A50.out).mono ?_); rintro e w111 ⟨rfl, hb⟩; have n0_ := Aside0.mk (blk_below (g := gb181) (o := .cells #[.int .i64 t175, .string t176, .string t177, .string t178, .bool true] 27 (0, 0)) (by (with_reducible repeat (first | refine blk_drewN ?_ _ | refine blk_drew ?_ | refine blk_alloc ?_ _)); exact BK181.out) hb); have n1_ := Aside0.mk (blk_below (g := gb188) (o := .cells #[.int .i64 t182, .string t183, .string t184, .string t185, .bool t186] 27 (0, 0)) (by (with_reducible repeat (first | refine blk_drewN ?_ _ | refine blk_drew ?_ | refine blk_alloc ?_ _)); exact BK188.out) hb); have n2_ := Aside0.mk (blk_below (g := gb195) (o := .cells #[.int .i64 t189, .string t190, .string t191, .string t192, .bool t193] 27 (0, 0)) (by (with_reducible repeat (first | refine blk_drewN ?_ _ | refine blk_drew ?_ | refine blk_alloc ?_ _)); exact BK195.out) hb); have n3_ := Aside0.mk (blk_below (g := gb202) (o := .cells #[.int .i64 t196, .string t197, .string t198, .string t199, .bool t200] 27 (0, 0)) (by (with_reducible repeat (first | refine blk_drewN ?_ _ | refine blk_drew ?_ | refine blk_alloc ?_ _)); exact BK202.out) hb); have n4_ := Aside0.mk (below_step (by repeat (first | (with_reducible first | exact HB.out | apply below_alloc | apply pw_below_drewN | apply below_drew1 | refine below_set ?_ GE181.out | refine below_set ?_ GE188.out | refine below_set ?_ GE195.out | refine below_set ?_ GE202.out) | exact HB.out)) hb); clear BK181; clear BK188; clear BK195; clear BK202; clear HB; have BK181 := n0_; have BK188 := n1_; have BK195 := n2_; have BK202 := n3_; have HB := n4_; clear n0_ n1_ n2_ n3_ n4_; (try clear hb); (try clear hb2); (try clear hk); (try clear hi)))
                (try any_goals (exfalso; have h_ := ‹some undef = some (Value.bool _)›; revert h_; simp [undef]; done))
                go_meet
                case rel => exact ⟨_, (false), (by first | rfl | (simp; done) | (simp [*]; done)), H', ⟨by first | omega | exact Nat.le_refl _⟩, ⟨by (with_reducible repeat (first | refine blk_drewN ?_ _ | refine blk_drew ?_ | refine blk_alloc ?_ _)); exact BK181.out⟩, ⟨by (with_reducible repeat (first | refine blk_drewN ?_ _ | refine blk_drew ?_ | refine blk_alloc ?_ _)); exact BK188.out⟩, ⟨by (with_reducible repeat (first | refine blk_drewN ?_ _ | refine blk_drew ?_ | refine blk_alloc ?_ _)); exact BK195.out⟩, ⟨by (with_reducible repeat (first | refine blk_drewN ?_ _ | refine blk_drew ?_ | refine blk_alloc ?_ _)); exact BK202.out⟩, ⟨by repeat (first | (with_reducible first | exact HB.out | apply below_alloc | apply pw_below_drewN | apply below_drew1 | refine below_set ?_ GE181.out | refine below_set ?_ GE188.out | refine below_set ?_ GE195.out | refine below_set ?_ GE202.out) | exact HB.out)⟩⟩
             ·replace c36 := Bool.eq_false_iff.mpr c36
              subst c36
              rw [if_neg (show ¬ (false = true) by decide)] at H
              have H' := Aside0.mk H
              clear H
              have hnb112 := NB181_188.out
              have hnc112 := NB188_181.out
              have hnb113 := NB181_195.out
              have hnc113 := NB195_181.out
              have hnb114 := NB181_202.out
              have hnc114 := NB202_181.out
              have hcz115_0 : w19.cell? ⟨gb181, 0, none⟩ = some (.int .i64 t175) := (blk_cell BK181.out 0).trans rfl
              have hcz115_1 : w19.cell? ⟨gb181, 1, none⟩ = some (.string t176) := (blk_cell BK181.out 1).trans rfl
              have hcz115_2 : w19.cell? ⟨gb181, 2, none⟩ = some (.string t177) := (blk_cell BK181.out 2).trans rfl
              have hcz115_3 : w19.cell? ⟨gb181, 3, none⟩ = some (.string t178) := (blk_cell BK181.out 3).trans rfl
              have hcz115_4 : w19.cell? ⟨gb181, 4, none⟩ = some (.bool true) := (blk_cell BK181.out 4).trans rfl
              have hfz115_0 := blk_frozen BK181.out 0
              have hfz115_1 := blk_frozen BK181.out 1
              have hfz115_2 := blk_frozen BK181.out 2
              have hfz115_3 := blk_frozen BK181.out 3
              have hfz115_4 := blk_frozen BK181.out 4
              have hnb116 := NB188_195.out
              have hnc116 := NB195_188.out
              have hnb117 := NB188_202.out
              have hnc117 := NB202_188.out
              have hcz118_0 : w19.cell? ⟨gb188, 0, none⟩ = some (.int .i64 t182) := (blk_cell BK188.out 0).trans rfl
              have hcz118_1 : w19.cell? ⟨gb188, 1, none⟩ = some (.string t183) := (blk_cell BK188.out 1).trans rfl
              have hcz118_2 : w19.cell? ⟨gb188, 2, none⟩ = some (.string t184) := (blk_cell BK188.out 2).trans rfl
              have hcz118_3 : w19.cell? ⟨gb188, 3, none⟩ = some (.string t185) := (blk_cell BK188.out 3).trans rfl
              have hcz118_4 : w19.cell? ⟨gb188, 4, none⟩ = some (.bool t186) := (blk_cell BK188.out 4).trans rfl
              have hfz118_0 := blk_frozen BK188.out 0
              have hfz118_1 := blk_frozen BK188.out 1
              have hfz118_2 := blk_frozen BK188.out 2
              have hfz118_3 := blk_frozen BK188.out 3
              have hfz118_4 := blk_frozen BK188.out 4
              have hnb119 := NB202_195.out
              have hnc119 := NB195_202.out
              have hcz120_0 : w19.cell? ⟨gb202, 0, none⟩ = some (.int .i64 0) := (blk_cell BK202.out 0).trans rfl
              have hcz120_1 : w19.cell? ⟨gb202, 1, none⟩ = some (.string (⟨#[]⟩ : ByteArray)) := (blk_cell BK202.out 1).trans rfl
              have hcz120_2 : w19.cell? ⟨gb202, 2, none⟩ = some (.string (⟨#[]⟩ : ByteArray)) := (blk_cell BK202.out 2).trans rfl
              have hcz120_3 : w19.cell? ⟨gb202, 3, none⟩ = some (.string (⟨#[]⟩ : ByteArray)) := (blk_cell BK202.out 3).trans rfl
              have hcz120_4 : w19.cell? ⟨gb202, 4, none⟩ = some (.bool false) := (blk_cell BK202.out 4).trans rfl
              have hfz120_0 := blk_frozen BK202.out 0
              have hfz120_1 := blk_frozen BK202.out 1
              have hfz120_2 := blk_frozen BK202.out 2
              have hfz120_3 := blk_frozen BK202.out 3
              have hfz120_4 := blk_frozen BK202.out 4
              go_wp2_with (first | (go_at_call 13; (with_reducible refine (target_Host.calls k (⟨#[97, 46, 98, 58, 56, 48]⟩ : ByteArray) false _ A35.out).mono ?_); rintro e w121 ⟨rfl, hb⟩; have n0_ := Aside0.mk (blk_below (g := gb181) (o := .cells #[.int .i64 t175, .string t176, .string t177, .string t178, .bool true] 27 (0, 0)) (by (repeat ((with_reducible repeat (first | refine blk_drewN ?_ _ | refine blk_drew ?_ | refine blk_alloc ?_ _)); refine blk_far ?_ NB181_202.out _)); (with_reducible repeat (first | refine blk_drewN ?_ _ | refine blk_drew ?_ | refine blk_alloc ?_ _)); exact BK181.out) hb); have n1_ := Aside0.mk (blk_below (g := gb188) (o := .cells #[.int .i64 t182, .string t183, .string t184, .string t185, .bool t186] 27 (0, 0)) (by (repeat ((with_reducible repeat (first | refine blk_drewN ?_ _ | refine blk_drew ?_ | refine blk_alloc ?_ _)); refine blk_far ?_ NB188_202.out _)); (with_reducible repeat (first | refine blk_drewN ?_ _ | refine blk_drew ?_ | refine blk_alloc ?_ _)); exact BK188.out) hb); have n2_ := Aside0.mk (blk_below (g := gb195) (o := .cells #[.int .i64 t189, .string t190, .string t191, .string t192, .bool t193] 27 (0, 0)) (by (repeat ((with_reducible repeat (first | refine blk_drewN ?_ _ | refine blk_drew ?_ | refine blk_alloc ?_ _)); refine blk_far ?_ NB195_202.out _)); (with_reducible repeat (first | refine blk_drewN ?_ _ | refine blk_drew ?_ | refine blk_alloc ?_ _)); exact BK195.out) hb); have n3_ := Aside0.mk (blk_below (g := gb202) (o := .cells #[.int .i64 t196, .string t197, .string t198, .string t199, .bool t200] 27 (0, 0)) (by (with_reducible repeat (first | refine blk_drewN ?_ _ | refine blk_drew ?_ | refine blk_alloc ?_ _)); refine blk_put (cs := #[.int .i64 t196, .string t197, .string t198, .string t199, .bool false]) ?_ 4 _ rfl; (with_reducible repeat (first | refine blk_drewN ?_ _ | refine blk_drew ?_ | refine blk_alloc ?_ _)); refine blk_put (cs := #[.int .i64 t196, .string t197, .string t198, .string (⟨#[]⟩ : ByteArray), .bool false]) ?_ 3 _ rfl; (with_reducible repeat (first | refine blk_drewN ?_ _ | refine blk_drew ?_ | refine blk_alloc ?_ _)); refine blk_put (cs := #[.int .i64 t196, .string t197, .string (⟨#[]⟩ : ByteArray), .string (⟨#[]⟩ : ByteArray), .bool false]) ?_ 2 _ rfl; (with_reducible repeat (first | refine blk_drewN ?_ _ | refine blk_drew ?_ | refine blk_alloc ?_ _)); refine blk_put (cs := #[.int .i64 t196, .string (⟨#[]⟩ : ByteArray), .string (⟨#[]⟩ : ByteArray), .string (⟨#[]⟩ : ByteArray), .bool false]) ?_ 1 _ rfl; (with_reducible repeat (first | refine blk_drewN ?_ _ | refine blk_drew ?_ | refine blk_alloc ?_ _)); refine blk_put (cs := #[.int .i64 0, .string (⟨#[]⟩ : ByteArray), .string (⟨#[]⟩ : ByteArray), .string (⟨#[]⟩ : ByteArray), .bool false]) ?_ 0 _ rfl; (with_reducible repeat (first | refine blk_drewN ?_ _ | refine blk_drew ?_ | refine blk_alloc ?_ _)); exact BK202.out) hb); have n4_ := Aside0.mk (below_step (by repeat (first | (with_reducible first | exact HB.out | apply below_alloc | apply pw_below_drewN | apply below_drew1 | refine below_set ?_ GE181.out | refine below_set ?_ GE188.out | refine below_set ?_ GE195.out | refine below_set ?_ GE202.out) | exact HB.out)) hb); clear BK181; clear BK188; clear BK195; clear BK202; clear HB; have BK181 := n0_; have BK188 := n1_; have BK195 := n2_; have BK202 := n3_; have HB := n4_; clear n0_ n1_ n2_ n3_ n4_; (try clear hb); (try clear hb2); (try clear hk); (try clear hi)))
              (try any_goals (exfalso; have h_ := ‹some undef = some (Value.bool _)›; revert h_; simp [undef]; done))
              go_meet
              case rel => exact ⟨_, (false), (by first | rfl | (simp; done) | (simp [*]; done)), H', ⟨by first | omega | exact Nat.le_refl _⟩, ⟨by (with_reducible repeat (first | refine blk_drewN ?_ _ | refine blk_drew ?_ | refine blk_alloc ?_ _)); exact BK181.out⟩, ⟨by (with_reducible repeat (first | refine blk_drewN ?_ _ | refine blk_drew ?_ | refine blk_alloc ?_ _)); exact BK188.out⟩, ⟨by (with_reducible repeat (first | refine blk_drewN ?_ _ | refine blk_drew ?_ | refine blk_alloc ?_ _)); exact BK195.out⟩, ⟨by (with_reducible repeat (first | refine blk_drewN ?_ _ | refine blk_drew ?_ | refine blk_alloc ?_ _)); exact BK202.out⟩, ⟨by repeat (first | (with_reducible first | exact HB.out | apply below_alloc | apply pw_below_drewN | apply below_drew1 | refine below_set ?_ GE181.out | refine below_set ?_ GE188.out | refine below_set ?_ GE195.out | refine below_set ?_ GE202.out) | exact HB.out)⟩⟩
            ·rw [if_neg c34] at H
             have c34b0 : (t196 == 4) = false := beq_eq_false_iff_ne.mpr c34
             have c34b1 : (t196 != 4) = true := bne_iff_ne.mpr c34
             have H' := Aside0.mk H
             clear H
             have hnb122 := NB181_188.out
             have hnc122 := NB188_181.out
             have hnb123 := NB181_195.out
             have hnc123 := NB195_181.out
             have hnb124 := NB181_202.out
             have hnc124 := NB202_181.out
             have hcz125_0 : w19.cell? ⟨gb181, 0, none⟩ = some (.int .i64 t175) := (blk_cell BK181.out 0).trans rfl
             have hcz125_1 : w19.cell? ⟨gb181, 1, none⟩ = some (.string t176) := (blk_cell BK181.out 1).trans rfl
             have hcz125_2 : w19.cell? ⟨gb181, 2, none⟩ = some (.string t177) := (blk_cell BK181.out 2).trans rfl
             have hcz125_3 : w19.cell? ⟨gb181, 3, none⟩ = some (.string t178) := (blk_cell BK181.out 3).trans rfl
             have hcz125_4 : w19.cell? ⟨gb181, 4, none⟩ = some (.bool true) := (blk_cell BK181.out 4).trans rfl
             have hfz125_0 := blk_frozen BK181.out 0
             have hfz125_1 := blk_frozen BK181.out 1
             have hfz125_2 := blk_frozen BK181.out 2
             have hfz125_3 := blk_frozen BK181.out 3
             have hfz125_4 := blk_frozen BK181.out 4
             have hnb126 := NB188_195.out
             have hnc126 := NB195_188.out
             have hnb127 := NB188_202.out
             have hnc127 := NB202_188.out
             have hcz128_0 : w19.cell? ⟨gb188, 0, none⟩ = some (.int .i64 t182) := (blk_cell BK188.out 0).trans rfl
             have hcz128_1 : w19.cell? ⟨gb188, 1, none⟩ = some (.string t183) := (blk_cell BK188.out 1).trans rfl
             have hcz128_2 : w19.cell? ⟨gb188, 2, none⟩ = some (.string t184) := (blk_cell BK188.out 2).trans rfl
             have hcz128_3 : w19.cell? ⟨gb188, 3, none⟩ = some (.string t185) := (blk_cell BK188.out 3).trans rfl
             have hcz128_4 : w19.cell? ⟨gb188, 4, none⟩ = some (.bool t186) := (blk_cell BK188.out 4).trans rfl
             have hfz128_0 := blk_frozen BK188.out 0
             have hfz128_1 := blk_frozen BK188.out 1
             have hfz128_2 := blk_frozen BK188.out 2
             have hfz128_3 := blk_frozen BK188.out 3
             have hfz128_4 := blk_frozen BK188.out 4
             have hnb129 := NB202_195.out
             have hnc129 := NB195_202.out
             have hcz130_0 : w19.cell? ⟨gb202, 0, none⟩ = some (.int .i64 0) := (blk_cell BK202.out 0).trans rfl
             have hcz130_1 : w19.cell? ⟨gb202, 1, none⟩ = some (.string (⟨#[]⟩ : ByteArray)) := (blk_cell BK202.out 1).trans rfl
             have hcz130_2 : w19.cell? ⟨gb202, 2, none⟩ = some (.string (⟨#[]⟩ : ByteArray)) := (blk_cell BK202.out 2).trans rfl
             have hcz130_3 : w19.cell? ⟨gb202, 3, none⟩ = some (.string (⟨#[]⟩ : ByteArray)) := (blk_cell BK202.out 3).trans rfl
             have hcz130_4 : w19.cell? ⟨gb202, 4, none⟩ = some (.bool false) := (blk_cell BK202.out 4).trans rfl
             have hfz130_0 := blk_frozen BK202.out 0
             have hfz130_1 := blk_frozen BK202.out 1
             have hfz130_2 := blk_frozen BK202.out 2
             have hfz130_3 := blk_frozen BK202.out 3
             have hfz130_4 := blk_frozen BK202.out 4
             go_wp2
             (try any_goals (exfalso; have h_ := ‹some undef = some (Value.bool _)›; revert h_; simp [undef]; done))
             go_meet
             case rel => exact ⟨_, (false), (by first | rfl | (simp; done) | (simp [*]; done)), H', ⟨by first | omega | exact Nat.le_refl _⟩, ⟨by (repeat ((with_reducible repeat (first | refine blk_drewN ?_ _ | refine blk_drew ?_ | refine blk_alloc ?_ _)); refine blk_far ?_ NB181_202.out _)); (with_reducible repeat (first | refine blk_drewN ?_ _ | refine blk_drew ?_ | refine blk_alloc ?_ _)); exact BK181.out⟩, ⟨by (repeat ((with_reducible repeat (first | refine blk_drewN ?_ _ | refine blk_drew ?_ | refine blk_alloc ?_ _)); refine blk_far ?_ NB188_202.out _)); (with_reducible repeat (first | refine blk_drewN ?_ _ | refine blk_drew ?_ | refine blk_alloc ?_ _)); exact BK188.out⟩, ⟨by (repeat ((with_reducible repeat (first | refine blk_drewN ?_ _ | refine blk_drew ?_ | refine blk_alloc ?_ _)); refine blk_far ?_ NB195_202.out _)); (with_reducible repeat (first | refine blk_drewN ?_ _ | refine blk_drew ?_ | refine blk_alloc ?_ _)); exact BK195.out⟩, ⟨by (with_reducible repeat (first | refine blk_drewN ?_ _ | refine blk_drew ?_ | refine blk_alloc ?_ _)); refine blk_put (cs := #[.int .i64 t196, .string t197, .string t198, .string t199, .bool false]) ?_ 4 _ rfl; (with_reducible repeat (first | refine blk_drewN ?_ _ | refine blk_drew ?_ | refine blk_alloc ?_ _)); refine blk_put (cs := #[.int .i64 t196, .string t197, .string t198, .string (⟨#[]⟩ : ByteArray), .bool false]) ?_ 3 _ rfl; (with_reducible repeat (first | refine blk_drewN ?_ _ | refine blk_drew ?_ | refine blk_alloc ?_ _)); refine blk_put (cs := #[.int .i64 t196, .string t197, .string (⟨#[]⟩ : ByteArray), .string (⟨#[]⟩ : ByteArray), .bool false]) ?_ 2 _ rfl; (with_reducible repeat (first | refine blk_drewN ?_ _ | refine blk_drew ?_ | refine blk_alloc ?_ _)); refine blk_put (cs := #[.int .i64 t196, .string (⟨#[]⟩ : ByteArray), .string (⟨#[]⟩ : ByteArray), .string (⟨#[]⟩ : ByteArray), .bool false]) ?_ 1 _ rfl; (with_reducible repeat (first | refine blk_drewN ?_ _ | refine blk_drew ?_ | refine blk_alloc ?_ _)); refine blk_put (cs := #[.int .i64 0, .string (⟨#[]⟩ : ByteArray), .string (⟨#[]⟩ : ByteArray), .string (⟨#[]⟩ : ByteArray), .bool false]) ?_ 0 _ rfl; (with_reducible repeat (first | refine blk_drewN ?_ _ | refine blk_drew ?_ | refine blk_alloc ?_ _)); exact BK202.out⟩, ⟨by repeat (first | (with_reducible first | exact HB.out | apply below_alloc | apply pw_below_drewN | apply below_drew1 | refine below_set ?_ GE181.out | refine below_set ?_ GE188.out | refine below_set ?_ GE195.out | refine below_set ?_ GE202.out) | exact HB.out)⟩⟩
           ·rw [if_neg c33] at H
            have c33b0 : (t201 == 0) = false := beq_eq_false_iff_ne.mpr c33
            have c33b1 : (t201 != 0) = true := bne_iff_ne.mpr c33
            have H' := Aside0.mk H
            clear H
            have hnb131 := NB181_188.out
            have hnc131 := NB188_181.out
            have hnb132 := NB181_195.out
            have hnc132 := NB195_181.out
            have hnb133 := NB181_202.out
            have hnc133 := NB202_181.out
            have hcz134_0 : w19.cell? ⟨gb181, 0, none⟩ = some (.int .i64 t175) := (blk_cell BK181.out 0).trans rfl
            have hcz134_1 : w19.cell? ⟨gb181, 1, none⟩ = some (.string t176) := (blk_cell BK181.out 1).trans rfl
            have hcz134_2 : w19.cell? ⟨gb181, 2, none⟩ = some (.string t177) := (blk_cell BK181.out 2).trans rfl
            have hcz134_3 : w19.cell? ⟨gb181, 3, none⟩ = some (.string t178) := (blk_cell BK181.out 3).trans rfl
            have hcz134_4 : w19.cell? ⟨gb181, 4, none⟩ = some (.bool true) := (blk_cell BK181.out 4).trans rfl
            have hfz134_0 := blk_frozen BK181.out 0
            have hfz134_1 := blk_frozen BK181.out 1
            have hfz134_2 := blk_frozen BK181.out 2
            have hfz134_3 := blk_frozen BK181.out 3
            have hfz134_4 := blk_frozen BK181.out 4
            have hnb135 := NB188_195.out
            have hnc135 := NB195_188.out
            have hnb136 := NB188_202.out
            have hnc136 := NB202_188.out
            have hcz137_0 : w19.cell? ⟨gb188, 0, none⟩ = some (.int .i64 t182) := (blk_cell BK188.out 0).trans rfl
            have hcz137_1 : w19.cell? ⟨gb188, 1, none⟩ = some (.string t183) := (blk_cell BK188.out 1).trans rfl
            have hcz137_2 : w19.cell? ⟨gb188, 2, none⟩ = some (.string t184) := (blk_cell BK188.out 2).trans rfl
            have hcz137_3 : w19.cell? ⟨gb188, 3, none⟩ = some (.string t185) := (blk_cell BK188.out 3).trans rfl
            have hcz137_4 : w19.cell? ⟨gb188, 4, none⟩ = some (.bool t186) := (blk_cell BK188.out 4).trans rfl
            have hfz137_0 := blk_frozen BK188.out 0
            have hfz137_1 := blk_frozen BK188.out 1
            have hfz137_2 := blk_frozen BK188.out 2
            have hfz137_3 := blk_frozen BK188.out 3
            have hfz137_4 := blk_frozen BK188.out 4
            go_wp2
            (try any_goals (exfalso; have h_ := ‹some undef = some (Value.bool _)›; revert h_; simp [undef]; done))
            go_meet
            case rel => exact ⟨_, (false), (by first | rfl | (simp; done) | (simp [*]; done)), H', ⟨by first | omega | exact Nat.le_refl _⟩, ⟨by (repeat ((with_reducible repeat (first | refine blk_drewN ?_ _ | refine blk_drew ?_ | refine blk_alloc ?_ _)); refine blk_far ?_ NB181_202.out _)); (with_reducible repeat (first | refine blk_drewN ?_ _ | refine blk_drew ?_ | refine blk_alloc ?_ _)); exact BK181.out⟩, ⟨by (repeat ((with_reducible repeat (first | refine blk_drewN ?_ _ | refine blk_drew ?_ | refine blk_alloc ?_ _)); refine blk_far ?_ NB188_202.out _)); (with_reducible repeat (first | refine blk_drewN ?_ _ | refine blk_drew ?_ | refine blk_alloc ?_ _)); exact BK188.out⟩, ⟨by (repeat ((with_reducible repeat (first | refine blk_drewN ?_ _ | refine blk_drew ?_ | refine blk_alloc ?_ _)); refine blk_far ?_ NB195_202.out _)); (with_reducible repeat (first | refine blk_drewN ?_ _ | refine blk_drew ?_ | refine blk_alloc ?_ _)); exact BK195.out⟩, ⟨by (with_reducible repeat (first | refine blk_drewN ?_ _ | refine blk_drew ?_ | refine blk_alloc ?_ _)); refine blk_put (cs := #[.int .i64 t196, .string t197, .string t198, .string t199, .bool false]) ?_ 4 _ rfl; (with_reducible repeat (first | refine blk_drewN ?_ _ | refine blk_drew ?_ | refine blk_alloc ?_ _)); refine blk_put (cs := #[.int .i64 t196, .string t197, .string t198, .string (⟨#[]⟩ : ByteArray), .bool false]) ?_ 3 _ rfl; (with_reducible repeat (first | refine blk_drewN ?_ _ | refine blk_drew ?_ | refine blk_alloc ?_ _)); refine blk_put (cs := #[.int .i64 t196, .string t197, .string (⟨#[]⟩ : ByteArray), .string (⟨#[]⟩ : ByteArray), .bool false]) ?_ 2 _ rfl; (with_reducible repeat (first | refine blk_drewN ?_ _ | refine blk_drew ?_ | refine blk_alloc ?_ _)); refine blk_put (cs := #[.int .i64 t196, .string (⟨#[]⟩ : ByteArray), .string (⟨#[]⟩ : ByteArray), .string (⟨#[]⟩ : ByteArray), .bool false]) ?_ 1 _ rfl; (with_reducible repeat (first | refine blk_drewN ?_ _ | refine blk_drew ?_ | refine blk_alloc ?_ _)); refine blk_put (cs := #[.int .i64 0, .string (⟨#[]⟩ : ByteArray), .string (⟨#[]⟩ : ByteArray), .string (⟨#[]⟩ : ByteArray), .bool false]) ?_ 0 _ rfl; (with_reducible repeat (first | refine blk_drewN ?_ _ | refine blk_drew ?_ | refine blk_alloc ?_ _)); exact BK202.out⟩, ⟨by repeat (first | (with_reducible first | exact HB.out | apply below_alloc | apply pw_below_drewN | apply below_drew1 | refine below_set ?_ GE181.out | refine below_set ?_ GE188.out | refine below_set ?_ GE195.out | refine below_set ?_ GE202.out) | exact HB.out)⟩⟩
          ·rw [if_neg c32] at H
           have c32b0 : (t194 == 400) = false := beq_eq_false_iff_ne.mpr c32
           have c32b1 : (t194 != 400) = true := bne_iff_ne.mpr c32
           have H' := Aside0.mk H
           clear H
           have hnb138 := NB181_188.out
           have hnc138 := NB188_181.out
           have hnb139 := NB181_195.out
           have hnc139 := NB195_181.out
           have hnb140 := NB181_202.out
           have hnc140 := NB202_181.out
           have hcz141_0 : w19.cell? ⟨gb181, 0, none⟩ = some (.int .i64 t175) := (blk_cell BK181.out 0).trans rfl
           have hcz141_1 : w19.cell? ⟨gb181, 1, none⟩ = some (.string t176) := (blk_cell BK181.out 1).trans rfl
           have hcz141_2 : w19.cell? ⟨gb181, 2, none⟩ = some (.string t177) := (blk_cell BK181.out 2).trans rfl
           have hcz141_3 : w19.cell? ⟨gb181, 3, none⟩ = some (.string t178) := (blk_cell BK181.out 3).trans rfl
           have hcz141_4 : w19.cell? ⟨gb181, 4, none⟩ = some (.bool true) := (blk_cell BK181.out 4).trans rfl
           have hfz141_0 := blk_frozen BK181.out 0
           have hfz141_1 := blk_frozen BK181.out 1
           have hfz141_2 := blk_frozen BK181.out 2
           have hfz141_3 := blk_frozen BK181.out 3
           have hfz141_4 := blk_frozen BK181.out 4
           have hnb142 := NB188_195.out
           have hnc142 := NB195_188.out
           have hnb143 := NB188_202.out
           have hnc143 := NB202_188.out
           have hcz144_0 : w19.cell? ⟨gb188, 0, none⟩ = some (.int .i64 t182) := (blk_cell BK188.out 0).trans rfl
           have hcz144_1 : w19.cell? ⟨gb188, 1, none⟩ = some (.string t183) := (blk_cell BK188.out 1).trans rfl
           have hcz144_2 : w19.cell? ⟨gb188, 2, none⟩ = some (.string t184) := (blk_cell BK188.out 2).trans rfl
           have hcz144_3 : w19.cell? ⟨gb188, 3, none⟩ = some (.string t185) := (blk_cell BK188.out 3).trans rfl
           have hcz144_4 : w19.cell? ⟨gb188, 4, none⟩ = some (.bool t186) := (blk_cell BK188.out 4).trans rfl
           have hfz144_0 := blk_frozen BK188.out 0
           have hfz144_1 := blk_frozen BK188.out 1
           have hfz144_2 := blk_frozen BK188.out 2
           have hfz144_3 := blk_frozen BK188.out 3
           have hfz144_4 := blk_frozen BK188.out 4
           go_wp2
           (try any_goals (exfalso; have h_ := ‹some undef = some (Value.bool _)›; revert h_; simp [undef]; done))
           go_meet
           case rel => exact ⟨_, (false), (by first | rfl | (simp; done) | (simp [*]; done)), H', ⟨by first | omega | exact Nat.le_refl _⟩, ⟨by (repeat ((with_reducible repeat (first | refine blk_drewN ?_ _ | refine blk_drew ?_ | refine blk_alloc ?_ _)); refine blk_far ?_ NB181_202.out _)); (with_reducible repeat (first | refine blk_drewN ?_ _ | refine blk_drew ?_ | refine blk_alloc ?_ _)); exact BK181.out⟩, ⟨by (repeat ((with_reducible repeat (first | refine blk_drewN ?_ _ | refine blk_drew ?_ | refine blk_alloc ?_ _)); refine blk_far ?_ NB188_202.out _)); (with_reducible repeat (first | refine blk_drewN ?_ _ | refine blk_drew ?_ | refine blk_alloc ?_ _)); exact BK188.out⟩, ⟨by (repeat ((with_reducible repeat (first | refine blk_drewN ?_ _ | refine blk_drew ?_ | refine blk_alloc ?_ _)); refine blk_far ?_ NB195_202.out _)); (with_reducible repeat (first | refine blk_drewN ?_ _ | refine blk_drew ?_ | refine blk_alloc ?_ _)); exact BK195.out⟩, ⟨by (with_reducible repeat (first | refine blk_drewN ?_ _ | refine blk_drew ?_ | refine blk_alloc ?_ _)); refine blk_put (cs := #[.int .i64 t196, .string t197, .string t198, .string t199, .bool false]) ?_ 4 _ rfl; (with_reducible repeat (first | refine blk_drewN ?_ _ | refine blk_drew ?_ | refine blk_alloc ?_ _)); refine blk_put (cs := #[.int .i64 t196, .string t197, .string t198, .string (⟨#[]⟩ : ByteArray), .bool false]) ?_ 3 _ rfl; (with_reducible repeat (first | refine blk_drewN ?_ _ | refine blk_drew ?_ | refine blk_alloc ?_ _)); refine blk_put (cs := #[.int .i64 t196, .string t197, .string (⟨#[]⟩ : ByteArray), .string (⟨#[]⟩ : ByteArray), .bool false]) ?_ 2 _ rfl; (with_reducible repeat (first | refine blk_drewN ?_ _ | refine blk_drew ?_ | refine blk_alloc ?_ _)); refine blk_put (cs := #[.int .i64 t196, .string (⟨#[]⟩ : ByteArray), .string (⟨#[]⟩ : ByteArray), .string (⟨#[]⟩ : ByteArray), .bool false]) ?_ 1 _ rfl; (with_reducible repeat (first | refine blk_drewN ?_ _ | refine blk_drew ?_ | refine blk_alloc ?_ _)); refine blk_put (cs := #[.int .i64 0, .string (⟨#[]⟩ : ByteArray), .string (⟨#[]⟩ : ByteArray), .string (⟨#[]⟩ : ByteArray), .bool false]) ?_ 0 _ rfl; (with_reducible repeat (first | refine blk_drewN ?_ _ | refine blk_drew ?_ | refine blk_alloc ?_ _)); exact BK202.out⟩, ⟨by repeat (first | (with_reducible first | exact HB.out | apply below_alloc | apply pw_below_drewN | apply below_drew1 | refine below_set ?_ GE181.out | refine below_set ?_ GE188.out | refine below_set ?_ GE195.out | refine below_set ?_ GE202.out) | exact HB.out)⟩⟩
         ·rw [if_neg c31] at H
          have c31b0 : (t184.toList == ([47] : List UInt8)) = false := beq_eq_false_iff_ne.mpr c31
          have c31b1 : (t184.toList != ([47] : List UInt8)) = true := bne_iff_ne.mpr c31
          have H' := Aside0.mk H
          clear H
          have hnb145 := NB181_188.out
          have hnc145 := NB188_181.out
          have hnb146 := NB181_195.out
          have hnc146 := NB195_181.out
          have hnb147 := NB181_202.out
          have hnc147 := NB202_181.out
          have hcz148_0 : w19.cell? ⟨gb181, 0, none⟩ = some (.int .i64 t175) := (blk_cell BK181.out 0).trans rfl
          have hcz148_1 : w19.cell? ⟨gb181, 1, none⟩ = some (.string t176) := (blk_cell BK181.out 1).trans rfl
          have hcz148_2 : w19.cell? ⟨gb181, 2, none⟩ = some (.string t177) := (blk_cell BK181.out 2).trans rfl
          have hcz148_3 : w19.cell? ⟨gb181, 3, none⟩ = some (.string t178) := (blk_cell BK181.out 3).trans rfl
          have hcz148_4 : w19.cell? ⟨gb181, 4, none⟩ = some (.bool true) := (blk_cell BK181.out 4).trans rfl
          have hfz148_0 := blk_frozen BK181.out 0
          have hfz148_1 := blk_frozen BK181.out 1
          have hfz148_2 := blk_frozen BK181.out 2
          have hfz148_3 := blk_frozen BK181.out 3
          have hfz148_4 := blk_frozen BK181.out 4
          have hnb149 := NB188_195.out
          have hnc149 := NB195_188.out
          have hnb150 := NB188_202.out
          have hnc150 := NB202_188.out
          have hcz151_0 : w19.cell? ⟨gb188, 0, none⟩ = some (.int .i64 t182) := (blk_cell BK188.out 0).trans rfl
          have hcz151_1 : w19.cell? ⟨gb188, 1, none⟩ = some (.string t183) := (blk_cell BK188.out 1).trans rfl
          have hcz151_2 : w19.cell? ⟨gb188, 2, none⟩ = some (.string t184) := (blk_cell BK188.out 2).trans rfl
          have hcz151_3 : w19.cell? ⟨gb188, 3, none⟩ = some (.string t185) := (blk_cell BK188.out 3).trans rfl
          have hcz151_4 : w19.cell? ⟨gb188, 4, none⟩ = some (.bool t186) := (blk_cell BK188.out 4).trans rfl
          have hfz151_0 := blk_frozen BK188.out 0
          have hfz151_1 := blk_frozen BK188.out 1
          have hfz151_2 := blk_frozen BK188.out 2
          have hfz151_3 := blk_frozen BK188.out 3
          have hfz151_4 := blk_frozen BK188.out 4
          go_wp2
          (try any_goals (exfalso; have h_ := ‹some undef = some (Value.bool _)›; revert h_; simp [undef]; done))
          go_meet
          case rel => exact ⟨_, (false), (by first | rfl | (simp; done) | (simp [*]; done)), H', ⟨by first | omega | exact Nat.le_refl _⟩, ⟨by (repeat ((with_reducible repeat (first | refine blk_drewN ?_ _ | refine blk_drew ?_ | refine blk_alloc ?_ _)); refine blk_far ?_ NB181_202.out _)); (with_reducible repeat (first | refine blk_drewN ?_ _ | refine blk_drew ?_ | refine blk_alloc ?_ _)); exact BK181.out⟩, ⟨by (repeat ((with_reducible repeat (first | refine blk_drewN ?_ _ | refine blk_drew ?_ | refine blk_alloc ?_ _)); refine blk_far ?_ NB188_202.out _)); (with_reducible repeat (first | refine blk_drewN ?_ _ | refine blk_drew ?_ | refine blk_alloc ?_ _)); exact BK188.out⟩, ⟨by (repeat ((with_reducible repeat (first | refine blk_drewN ?_ _ | refine blk_drew ?_ | refine blk_alloc ?_ _)); refine blk_far ?_ NB195_202.out _)); (with_reducible repeat (first | refine blk_drewN ?_ _ | refine blk_drew ?_ | refine blk_alloc ?_ _)); exact BK195.out⟩, ⟨by (with_reducible repeat (first | refine blk_drewN ?_ _ | refine blk_drew ?_ | refine blk_alloc ?_ _)); refine blk_put (cs := #[.int .i64 t196, .string t197, .string t198, .string t199, .bool false]) ?_ 4 _ rfl; (with_reducible repeat (first | refine blk_drewN ?_ _ | refine blk_drew ?_ | refine blk_alloc ?_ _)); refine blk_put (cs := #[.int .i64 t196, .string t197, .string t198, .string (⟨#[]⟩ : ByteArray), .bool false]) ?_ 3 _ rfl; (with_reducible repeat (first | refine blk_drewN ?_ _ | refine blk_drew ?_ | refine blk_alloc ?_ _)); refine blk_put (cs := #[.int .i64 t196, .string t197, .string (⟨#[]⟩ : ByteArray), .string (⟨#[]⟩ : ByteArray), .bool false]) ?_ 2 _ rfl; (with_reducible repeat (first | refine blk_drewN ?_ _ | refine blk_drew ?_ | refine blk_alloc ?_ _)); refine blk_put (cs := #[.int .i64 t196, .string (⟨#[]⟩ : ByteArray), .string (⟨#[]⟩ : ByteArray), .string (⟨#[]⟩ : ByteArray), .bool false]) ?_ 1 _ rfl; (with_reducible repeat (first | refine blk_drewN ?_ _ | refine blk_drew ?_ | refine blk_alloc ?_ _)); refine blk_put (cs := #[.int .i64 0, .string (⟨#[]⟩ : ByteArray), .string (⟨#[]⟩ : ByteArray), .string (⟨#[]⟩ : ByteArray), .bool false]) ?_ 0 _ rfl; (with_reducible repeat (first | refine blk_drewN ?_ _ | refine blk_drew ?_ | refine blk_alloc ?_ _)); exact BK202.out⟩, ⟨by repeat (first | (with_reducible first | exact HB.out | apply below_alloc | apply pw_below_drewN | apply below_drew1 | refine below_set ?_ GE181.out | refine below_set ?_ GE188.out | refine below_set ?_ GE195.out | refine below_set ?_ GE202.out) | exact HB.out)⟩⟩
        ·rw [if_neg c30] at H
         have c30b0 : (t183.toList == ([104] : List UInt8)) = false := beq_eq_false_iff_ne.mpr c30
         have c30b1 : (t183.toList != ([104] : List UInt8)) = true := bne_iff_ne.mpr c30
         have H' := Aside0.mk H
         clear H
         have hnb152 := NB181_188.out
         have hnc152 := NB188_181.out
         have hnb153 := NB181_195.out
         have hnc153 := NB195_181.out
         have hnb154 := NB181_202.out
         have hnc154 := NB202_181.out
         have hcz155_0 : w19.cell? ⟨gb181, 0, none⟩ = some (.int .i64 t175) := (blk_cell BK181.out 0).trans rfl
         have hcz155_1 : w19.cell? ⟨gb181, 1, none⟩ = some (.string t176) := (blk_cell BK181.out 1).trans rfl
         have hcz155_2 : w19.cell? ⟨gb181, 2, none⟩ = some (.string t177) := (blk_cell BK181.out 2).trans rfl
         have hcz155_3 : w19.cell? ⟨gb181, 3, none⟩ = some (.string t178) := (blk_cell BK181.out 3).trans rfl
         have hcz155_4 : w19.cell? ⟨gb181, 4, none⟩ = some (.bool true) := (blk_cell BK181.out 4).trans rfl
         have hfz155_0 := blk_frozen BK181.out 0
         have hfz155_1 := blk_frozen BK181.out 1
         have hfz155_2 := blk_frozen BK181.out 2
         have hfz155_3 := blk_frozen BK181.out 3
         have hfz155_4 := blk_frozen BK181.out 4
         have hnb156 := NB188_195.out
         have hnc156 := NB195_188.out
         have hnb157 := NB188_202.out
         have hnc157 := NB202_188.out
         have hcz158_0 : w19.cell? ⟨gb188, 0, none⟩ = some (.int .i64 t182) := (blk_cell BK188.out 0).trans rfl
         have hcz158_1 : w19.cell? ⟨gb188, 1, none⟩ = some (.string t183) := (blk_cell BK188.out 1).trans rfl
         have hcz158_2 : w19.cell? ⟨gb188, 2, none⟩ = some (.string t184) := (blk_cell BK188.out 2).trans rfl
         have hcz158_3 : w19.cell? ⟨gb188, 3, none⟩ = some (.string t185) := (blk_cell BK188.out 3).trans rfl
         have hcz158_4 : w19.cell? ⟨gb188, 4, none⟩ = some (.bool t186) := (blk_cell BK188.out 4).trans rfl
         have hfz158_0 := blk_frozen BK188.out 0
         have hfz158_1 := blk_frozen BK188.out 1
         have hfz158_2 := blk_frozen BK188.out 2
         have hfz158_3 := blk_frozen BK188.out 3
         have hfz158_4 := blk_frozen BK188.out 4
         go_wp2
         (try any_goals (exfalso; have h_ := ‹some undef = some (Value.bool _)›; revert h_; simp [undef]; done))
         go_meet
         case rel => exact ⟨_, (false), (by first | rfl | (simp; done) | (simp [*]; done)), H', ⟨by first | omega | exact Nat.le_refl _⟩, ⟨by (repeat ((with_reducible repeat (first | refine blk_drewN ?_ _ | refine blk_drew ?_ | refine blk_alloc ?_ _)); refine blk_far ?_ NB181_202.out _)); (with_reducible repeat (first | refine blk_drewN ?_ _ | refine blk_drew ?_ | refine blk_alloc ?_ _)); exact BK181.out⟩, ⟨by (repeat ((with_reducible repeat (first | refine blk_drewN ?_ _ | refine blk_drew ?_ | refine blk_alloc ?_ _)); refine blk_far ?_ NB188_202.out _)); (with_reducible repeat (first | refine blk_drewN ?_ _ | refine blk_drew ?_ | refine blk_alloc ?_ _)); exact BK188.out⟩, ⟨by (repeat ((with_reducible repeat (first | refine blk_drewN ?_ _ | refine blk_drew ?_ | refine blk_alloc ?_ _)); refine blk_far ?_ NB195_202.out _)); (with_reducible repeat (first | refine blk_drewN ?_ _ | refine blk_drew ?_ | refine blk_alloc ?_ _)); exact BK195.out⟩, ⟨by (with_reducible repeat (first | refine blk_drewN ?_ _ | refine blk_drew ?_ | refine blk_alloc ?_ _)); refine blk_put (cs := #[.int .i64 t196, .string t197, .string t198, .string t199, .bool false]) ?_ 4 _ rfl; (with_reducible repeat (first | refine blk_drewN ?_ _ | refine blk_drew ?_ | refine blk_alloc ?_ _)); refine blk_put (cs := #[.int .i64 t196, .string t197, .string t198, .string (⟨#[]⟩ : ByteArray), .bool false]) ?_ 3 _ rfl; (with_reducible repeat (first | refine blk_drewN ?_ _ | refine blk_drew ?_ | refine blk_alloc ?_ _)); refine blk_put (cs := #[.int .i64 t196, .string t197, .string (⟨#[]⟩ : ByteArray), .string (⟨#[]⟩ : ByteArray), .bool false]) ?_ 2 _ rfl; (with_reducible repeat (first | refine blk_drewN ?_ _ | refine blk_drew ?_ | refine blk_alloc ?_ _)); refine blk_put (cs := #[.int .i64 t196, .string (⟨#[]⟩ : ByteArray), .string (⟨#[]⟩ : ByteArray), .string (⟨#[]⟩ : ByteArray), .bool false]) ?_ 1 _ rfl; (with_reducible repeat (first | refine blk_drewN ?_ _ | refine blk_drew ?_ | refine blk_alloc ?_ _)); refine blk_put (cs := #[.int .i64 0, .string (⟨#[]⟩ : ByteArray), .string (⟨#[]⟩ : ByteArray), .string (⟨#[]⟩ : ByteArray), .bool false]) ?_ 0 _ rfl; (with_reducible repeat (first | refine blk_drewN ?_ _ | refine blk_drew ?_ | refine blk_alloc ?_ _)); exact BK202.out⟩, ⟨by repeat (first | (with_reducible first | exact HB.out | apply below_alloc | apply pw_below_drewN | apply below_drew1 | refine below_set ?_ GE181.out | refine below_set ?_ GE188.out | refine below_set ?_ GE195.out | refine below_set ?_ GE202.out) | exact HB.out)⟩⟩
       ·rw [if_neg c29] at H
        have c29b0 : (t187 == 0) = false := beq_eq_false_iff_ne.mpr c29
        have c29b1 : (t187 != 0) = true := bne_iff_ne.mpr c29
        have H' := Aside0.mk H
        clear H
        have hnb159 := NB181_188.out
        have hnc159 := NB188_181.out
        have hnb160 := NB181_195.out
        have hnc160 := NB195_181.out
        have hnb161 := NB181_202.out
        have hnc161 := NB202_181.out
        have hcz162_0 : w19.cell? ⟨gb181, 0, none⟩ = some (.int .i64 t175) := (blk_cell BK181.out 0).trans rfl
        have hcz162_1 : w19.cell? ⟨gb181, 1, none⟩ = some (.string t176) := (blk_cell BK181.out 1).trans rfl
        have hcz162_2 : w19.cell? ⟨gb181, 2, none⟩ = some (.string t177) := (blk_cell BK181.out 2).trans rfl
        have hcz162_3 : w19.cell? ⟨gb181, 3, none⟩ = some (.string t178) := (blk_cell BK181.out 3).trans rfl
        have hcz162_4 : w19.cell? ⟨gb181, 4, none⟩ = some (.bool true) := (blk_cell BK181.out 4).trans rfl
        have hfz162_0 := blk_frozen BK181.out 0
        have hfz162_1 := blk_frozen BK181.out 1
        have hfz162_2 := blk_frozen BK181.out 2
        have hfz162_3 := blk_frozen BK181.out 3
        have hfz162_4 := blk_frozen BK181.out 4
        go_wp2
        (try any_goals (exfalso; have h_ := ‹some undef = some (Value.bool _)›; revert h_; simp [undef]; done))
        go_meet
        case rel => exact ⟨_, (false), (by first | rfl | (simp; done) | (simp [*]; done)), H', ⟨by first | omega | exact Nat.le_refl _⟩, ⟨by (repeat ((with_reducible repeat (first | refine blk_drewN ?_ _ | refine blk_drew ?_ | refine blk_alloc ?_ _)); refine blk_far ?_ NB181_202.out _)); (with_reducible repeat (first | refine blk_drewN ?_ _ | refine blk_drew ?_ | refine blk_alloc ?_ _)); exact BK181.out⟩, ⟨by (repeat ((with_reducible repeat (first | refine blk_drewN ?_ _ | refine blk_drew ?_ | refine blk_alloc ?_ _)); refine blk_far ?_ NB188_202.out _)); (with_reducible repeat (first | refine blk_drewN ?_ _ | refine blk_drew ?_ | refine blk_alloc ?_ _)); exact BK188.out⟩, ⟨by (repeat ((with_reducible repeat (first | refine blk_drewN ?_ _ | refine blk_drew ?_ | refine blk_alloc ?_ _)); refine blk_far ?_ NB195_202.out _)); (with_reducible repeat (first | refine blk_drewN ?_ _ | refine blk_drew ?_ | refine blk_alloc ?_ _)); exact BK195.out⟩, ⟨by (with_reducible repeat (first | refine blk_drewN ?_ _ | refine blk_drew ?_ | refine blk_alloc ?_ _)); refine blk_put (cs := #[.int .i64 t196, .string t197, .string t198, .string t199, .bool false]) ?_ 4 _ rfl; (with_reducible repeat (first | refine blk_drewN ?_ _ | refine blk_drew ?_ | refine blk_alloc ?_ _)); refine blk_put (cs := #[.int .i64 t196, .string t197, .string t198, .string (⟨#[]⟩ : ByteArray), .bool false]) ?_ 3 _ rfl; (with_reducible repeat (first | refine blk_drewN ?_ _ | refine blk_drew ?_ | refine blk_alloc ?_ _)); refine blk_put (cs := #[.int .i64 t196, .string t197, .string (⟨#[]⟩ : ByteArray), .string (⟨#[]⟩ : ByteArray), .bool false]) ?_ 2 _ rfl; (with_reducible repeat (first | refine blk_drewN ?_ _ | refine blk_drew ?_ | refine blk_alloc ?_ _)); refine blk_put (cs := #[.int .i64 t196, .string (⟨#[]⟩ : ByteArray), .string (⟨#[]⟩ : ByteArray), .string (⟨#[]⟩ : ByteArray), .bool false]) ?_ 1 _ rfl; (with_reducible repeat (first | refine blk_drewN ?_ _ | refine blk_drew ?_ | refine blk_alloc ?_ _)); refine blk_put (cs := #[.int .i64 0, .string (⟨#[]⟩ : ByteArray), .string (⟨#[]⟩ : ByteArray), .string (⟨#[]⟩ : ByteArray), .bool false]) ?_ 0 _ rfl; (with_reducible repeat (first | refine blk_drewN ?_ _ | refine blk_drew ?_ | refine blk_alloc ?_ _)); exact BK202.out⟩, ⟨by repeat (first | (with_reducible first | exact HB.out | apply below_alloc | apply pw_below_drewN | apply below_drew1 | refine below_set ?_ GE181.out | refine below_set ?_ GE188.out | refine below_set ?_ GE195.out | refine below_set ?_ GE202.out) | exact HB.out)⟩⟩
      ·replace c28 := Bool.eq_false_iff.mpr c28
       subst c28
       rw [if_neg (show ¬ (false = true) by decide)] at H
       have H' := Aside0.mk H
       clear H
       have hnb163 := NB181_188.out
       have hnc163 := NB188_181.out
       have hnb164 := NB181_195.out
       have hnc164 := NB195_181.out
       have hnb165 := NB181_202.out
       have hnc165 := NB202_181.out
       have hcz166_0 : w19.cell? ⟨gb181, 0, none⟩ = some (.int .i64 t175) := (blk_cell BK181.out 0).trans rfl
       have hcz166_1 : w19.cell? ⟨gb181, 1, none⟩ = some (.string t176) := (blk_cell BK181.out 1).trans rfl
       have hcz166_2 : w19.cell? ⟨gb181, 2, none⟩ = some (.string t177) := (blk_cell BK181.out 2).trans rfl
       have hcz166_3 : w19.cell? ⟨gb181, 3, none⟩ = some (.string t178) := (blk_cell BK181.out 3).trans rfl
       have hcz166_4 : w19.cell? ⟨gb181, 4, none⟩ = some (.bool false) := (blk_cell BK181.out 4).trans rfl
       have hfz166_0 := blk_frozen BK181.out 0
       have hfz166_1 := blk_frozen BK181.out 1
       have hfz166_2 := blk_frozen BK181.out 2
       have hfz166_3 := blk_frozen BK181.out 3
       have hfz166_4 := blk_frozen BK181.out 4
       go_wp2
       (try any_goals (exfalso; have h_ := ‹some undef = some (Value.bool _)›; revert h_; simp [undef]; done))
       go_meet
       case rel => exact ⟨_, (false), (by first | rfl | (simp; done) | (simp [*]; done)), H', ⟨by first | omega | exact Nat.le_refl _⟩, ⟨by (repeat ((with_reducible repeat (first | refine blk_drewN ?_ _ | refine blk_drew ?_ | refine blk_alloc ?_ _)); refine blk_far ?_ NB181_202.out _)); (with_reducible repeat (first | refine blk_drewN ?_ _ | refine blk_drew ?_ | refine blk_alloc ?_ _)); exact BK181.out⟩, ⟨by (repeat ((with_reducible repeat (first | refine blk_drewN ?_ _ | refine blk_drew ?_ | refine blk_alloc ?_ _)); refine blk_far ?_ NB188_202.out _)); (with_reducible repeat (first | refine blk_drewN ?_ _ | refine blk_drew ?_ | refine blk_alloc ?_ _)); exact BK188.out⟩, ⟨by (repeat ((with_reducible repeat (first | refine blk_drewN ?_ _ | refine blk_drew ?_ | refine blk_alloc ?_ _)); refine blk_far ?_ NB195_202.out _)); (with_reducible repeat (first | refine blk_drewN ?_ _ | refine blk_drew ?_ | refine blk_alloc ?_ _)); exact BK195.out⟩, ⟨by (with_reducible repeat (first | refine blk_drewN ?_ _ | refine blk_drew ?_ | refine blk_alloc ?_ _)); refine blk_put (cs := #[.int .i64 t196, .string t197, .string t198, .string t199, .bool false]) ?_ 4 _ rfl; (with_reducible repeat (first | refine blk_drewN ?_ _ | refine blk_drew ?_ | refine blk_alloc ?_ _)); refine blk_put (cs := #[.int .i64 t196, .string t197, .string t198, .string (⟨#[]⟩ : ByteArray), .bool false]) ?_ 3 _ rfl; (with_reducible repeat (first | refine blk_drewN ?_ _ | refine blk_drew ?_ | refine blk_alloc ?_ _)); refine blk_put (cs := #[.int .i64 t196, .string t197, .string (⟨#[]⟩ : ByteArray), .string (⟨#[]⟩ : ByteArray), .bool false]) ?_ 2 _ rfl; (with_reducible repeat (first | refine blk_drewN ?_ _ | refine blk_drew ?_ | refine blk_alloc ?_ _)); refine blk_put (cs := #[.int .i64 t196, .string (⟨#[]⟩ : ByteArray), .string (⟨#[]⟩ : ByteArray), .string (⟨#[]⟩ : ByteArray), .bool false]) ?_ 1 _ rfl; (with_reducible repeat (first | refine blk_drewN ?_ _ | refine blk_drew ?_ | refine blk_alloc ?_ _)); refine blk_put (cs := #[.int .i64 0, .string (⟨#[]⟩ : ByteArray), .string (⟨#[]⟩ : ByteArray), .string (⟨#[]⟩ : ByteArray), .bool false]) ?_ 0 _ rfl; (with_reducible repeat (first | refine blk_drewN ?_ _ | refine blk_drew ?_ | refine blk_alloc ?_ _)); exact BK202.out⟩, ⟨by repeat (first | (with_reducible first | exact HB.out | apply below_alloc | apply pw_below_drewN | apply below_drew1 | refine below_set ?_ GE181.out | refine below_set ?_ GE188.out | refine below_set ?_ GE195.out | refine below_set ?_ GE202.out) | exact HB.out)⟩⟩
     ·rw [if_neg c27] at H
      have c27b0 : (t178.toList == ([98] : List UInt8)) = false := beq_eq_false_iff_ne.mpr c27
      have c27b1 : (t178.toList != ([98] : List UInt8)) = true := bne_iff_ne.mpr c27
      have H' := Aside0.mk H
      clear H
      have hnb167 := NB181_188.out
      have hnc167 := NB188_181.out
      have hnb168 := NB181_195.out
      have hnc168 := NB195_181.out
      have hnb169 := NB181_202.out
      have hnc169 := NB202_181.out
      have hcz170_0 : w19.cell? ⟨gb181, 0, none⟩ = some (.int .i64 t175) := (blk_cell BK181.out 0).trans rfl
      have hcz170_1 : w19.cell? ⟨gb181, 1, none⟩ = some (.string t176) := (blk_cell BK181.out 1).trans rfl
      have hcz170_2 : w19.cell? ⟨gb181, 2, none⟩ = some (.string t177) := (blk_cell BK181.out 2).trans rfl
      have hcz170_3 : w19.cell? ⟨gb181, 3, none⟩ = some (.string t178) := (blk_cell BK181.out 3).trans rfl
      have hcz170_4 : w19.cell? ⟨gb181, 4, none⟩ = some (.bool t179) := (blk_cell BK181.out 4).trans rfl
      have hfz170_0 := blk_frozen BK181.out 0
      have hfz170_1 := blk_frozen BK181.out 1
      have hfz170_2 := blk_frozen BK181.out 2
      have hfz170_3 := blk_frozen BK181.out 3
      have hfz170_4 := blk_frozen BK181.out 4
      go_wp2
      (try any_goals (exfalso; have h_ := ‹some undef = some (Value.bool _)›; revert h_; simp [undef]; done))
      go_meet
      case rel => exact ⟨_, (false), (by first | rfl | (simp; done) | (simp [*]; done)), H', ⟨by first | omega | exact Nat.le_refl _⟩, ⟨by (repeat ((with_reducible repeat (first | refine blk_drewN ?_ _ | refine blk_drew ?_ | refine blk_alloc ?_ _)); refine blk_far ?_ NB181_202.out _)); (with_reducible repeat (first | refine blk_drewN ?_ _ | refine blk_drew ?_ | refine blk_alloc ?_ _)); exact BK181.out⟩, ⟨by (repeat ((with_reducible repeat (first | refine blk_drewN ?_ _ | refine blk_drew ?_ | refine blk_alloc ?_ _)); refine blk_far ?_ NB188_202.out _)); (with_reducible repeat (first | refine blk_drewN ?_ _ | refine blk_drew ?_ | refine blk_alloc ?_ _)); exact BK188.out⟩, ⟨by (repeat ((with_reducible repeat (first | refine blk_drewN ?_ _ | refine blk_drew ?_ | refine blk_alloc ?_ _)); refine blk_far ?_ NB195_202.out _)); (with_reducible repeat (first | refine blk_drewN ?_ _ | refine blk_drew ?_ | refine blk_alloc ?_ _)); exact BK195.out⟩, ⟨by (with_reducible repeat (first | refine blk_drewN ?_ _ | refine blk_drew ?_ | refine blk_alloc ?_ _)); refine blk_put (cs := #[.int .i64 t196, .string t197, .string t198, .string t199, .bool false]) ?_ 4 _ rfl; (with_reducible repeat (first | refine blk_drewN ?_ _ | refine blk_drew ?_ | refine blk_alloc ?_ _)); refine blk_put (cs := #[.int .i64 t196, .string t197, .string t198, .string (⟨#[]⟩ : ByteArray), .bool false]) ?_ 3 _ rfl; (with_reducible repeat (first | refine blk_drewN ?_ _ | refine blk_drew ?_ | refine blk_alloc ?_ _)); refine blk_put (cs := #[.int .i64 t196, .string t197, .string (⟨#[]⟩ : ByteArray), .string (⟨#[]⟩ : ByteArray), .bool false]) ?_ 2 _ rfl; (with_reducible repeat (first | refine blk_drewN ?_ _ | refine blk_drew ?_ | refine blk_alloc ?_ _)); refine blk_put (cs := #[.int .i64 t196, .string (⟨#[]⟩ : ByteArray), .string (⟨#[]⟩ : ByteArray), .string (⟨#[]⟩ : ByteArray), .bool false]) ?_ 1 _ rfl; (with_reducible repeat (first | refine blk_drewN ?_ _ | refine blk_drew ?_ | refine blk_alloc ?_ _)); refine blk_put (cs := #[.int .i64 0, .string (⟨#[]⟩ : ByteArray), .string (⟨#[]⟩ : ByteArray), .string (⟨#[]⟩ : ByteArray), .bool false]) ?_ 0 _ rfl; (with_reducible repeat (first | refine blk_drewN ?_ _ | refine blk_drew ?_ | refine blk_alloc ?_ _)); exact BK202.out⟩, ⟨by repeat (first | (with_reducible first | exact HB.out | apply below_alloc | apply pw_below_drewN | apply below_drew1 | refine below_set ?_ GE181.out | refine below_set ?_ GE188.out | refine below_set ?_ GE195.out | refine below_set ?_ GE202.out) | exact HB.out)⟩⟩
    ·rw [if_neg c26] at H
     have c26b0 : (t177.toList == ([47, 97] : List UInt8)) = false := beq_eq_false_iff_ne.mpr c26
     have c26b1 : (t177.toList != ([47, 97] : List UInt8)) = true := bne_iff_ne.mpr c26
     have H' := Aside0.mk H
     clear H
     have hnb171 := NB181_188.out
     have hnc171 := NB188_181.out
     have hnb172 := NB181_195.out
     have hnc172 := NB195_181.out
     have hnb173 := NB181_202.out
     have hnc173 := NB202_181.out
     have hcz174_0 : w19.cell? ⟨gb181, 0, none⟩ = some (.int .i64 t175) := (blk_cell BK181.out 0).trans rfl
     have hcz174_1 : w19.cell? ⟨gb181, 1, none⟩ = some (.string t176) := (blk_cell BK181.out 1).trans rfl
     have hcz174_2 : w19.cell? ⟨gb181, 2, none⟩ = some (.string t177) := (blk_cell BK181.out 2).trans rfl
     have hcz174_3 : w19.cell? ⟨gb181, 3, none⟩ = some (.string t178) := (blk_cell BK181.out 3).trans rfl
     have hcz174_4 : w19.cell? ⟨gb181, 4, none⟩ = some (.bool t179) := (blk_cell BK181.out 4).trans rfl
     have hfz174_0 := blk_frozen BK181.out 0
     have hfz174_1 := blk_frozen BK181.out 1
     have hfz174_2 := blk_frozen BK181.out 2
     have hfz174_3 := blk_frozen BK181.out 3
     have hfz174_4 := blk_frozen BK181.out 4
     go_wp2
     (try any_goals (exfalso; have h_ := ‹some undef = some (Value.bool _)›; revert h_; simp [undef]; done))
     go_meet
     case rel => exact ⟨_, (false), (by first | rfl | (simp; done) | (simp [*]; done)), H', ⟨by first | omega | exact Nat.le_refl _⟩, ⟨by (repeat ((with_reducible repeat (first | refine blk_drewN ?_ _ | refine blk_drew ?_ | refine blk_alloc ?_ _)); refine blk_far ?_ NB181_202.out _)); (with_reducible repeat (first | refine blk_drewN ?_ _ | refine blk_drew ?_ | refine blk_alloc ?_ _)); exact BK181.out⟩, ⟨by (repeat ((with_reducible repeat (first | refine blk_drewN ?_ _ | refine blk_drew ?_ | refine blk_alloc ?_ _)); refine blk_far ?_ NB188_202.out _)); (with_reducible repeat (first | refine blk_drewN ?_ _ | refine blk_drew ?_ | refine blk_alloc ?_ _)); exact BK188.out⟩, ⟨by (repeat ((with_reducible repeat (first | refine blk_drewN ?_ _ | refine blk_drew ?_ | refine blk_alloc ?_ _)); refine blk_far ?_ NB195_202.out _)); (with_reducible repeat (first | refine blk_drewN ?_ _ | refine blk_drew ?_ | refine blk_alloc ?_ _)); exact BK195.out⟩, ⟨by (with_reducible repeat (first | refine blk_drewN ?_ _ | refine blk_drew ?_ | refine blk_alloc ?_ _)); refine blk_put (cs := #[.int .i64 t196, .string t197, .string t198, .string t199, .bool false]) ?_ 4 _ rfl; (with_reducible repeat (first | refine blk_drewN ?_ _ | refine blk_drew ?_ | refine blk_alloc ?_ _)); refine blk_put (cs := #[.int .i64 t196, .string t197, .string t198, .string (⟨#[]⟩ : ByteArray), .bool false]) ?_ 3 _ rfl; (with_reducible repeat (first | refine blk_drewN ?_ _ | refine blk_drew ?_ | refine blk_alloc ?_ _)); refine blk_put (cs := #[.int .i64 t196, .string t197, .string (⟨#[]⟩ : ByteArray), .string (⟨#[]⟩ : ByteArray), .bool false]) ?_ 2 _ rfl; (with_reducible repeat (first | refine blk_drewN ?_ _ | refine blk_drew ?_ | refine blk_alloc ?_ _)); refine blk_put (cs := #[.int .i64 t196, .string (⟨#[]⟩ : ByteArray), .string (⟨#[]⟩ : ByteArray), .string (⟨#[]⟩ : ByteArray), .bool false]) ?_ 1 _ rfl; (with_reducible repeat (first | refine blk_drewN ?_ _ | refine blk_drew ?_ | refine blk_alloc ?_ _)); refine blk_put (cs := #[.int .i64 0, .string (⟨#[]⟩ : ByteArray), .string (⟨#[]⟩ : ByteArray), .string (⟨#[]⟩ : ByteArray), .bool false]) ?_ 0 _ rfl; (with_reducible repeat (first | refine blk_drewN ?_ _ | refine blk_drew ?_ | refine blk_alloc ?_ _)); exact BK202.out⟩, ⟨by repeat (first | (with_reducible first | exact HB.out | apply below_alloc | apply pw_below_drewN | apply below_drew1 | refine below_set ?_ GE181.out | refine below_set ?_ GE188.out | refine below_set ?_ GE195.out | refine below_set ?_ GE202.out) | exact HB.out)⟩⟩
   ·rw [if_neg c25] at H
    have c25b0 : (t175 == 1) = false := beq_eq_false_iff_ne.mpr c25
    have c25b1 : (t175 != 1) = true := bne_iff_ne.mpr c25
    have H' := Aside0.mk H
    clear H
    have hnb175 := NB181_188.out
    have hnc175 := NB188_181.out
    have hnb176 := NB181_195.out
    have hnc176 := NB195_181.out
    have hnb177 := NB181_202.out
    have hnc177 := NB202_181.out
    have hcz178_0 : w19.cell? ⟨gb181, 0, none⟩ = some (.int .i64 t175) := (blk_cell BK181.out 0).trans rfl
    have hcz178_1 : w19.cell? ⟨gb181, 1, none⟩ = some (.string t176) := (blk_cell BK181.out 1).trans rfl
    have hcz178_2 : w19.cell? ⟨gb181, 2, none⟩ = some (.string t177) := (blk_cell BK181.out 2).trans rfl
    have hcz178_3 : w19.cell? ⟨gb181, 3, none⟩ = some (.string t178) := (blk_cell BK181.out 3).trans rfl
    have hcz178_4 : w19.cell? ⟨gb181, 4, none⟩ = some (.bool t179) := (blk_cell BK181.out 4).trans rfl
    have hfz178_0 := blk_frozen BK181.out 0
    have hfz178_1 := blk_frozen BK181.out 1
    have hfz178_2 := blk_frozen BK181.out 2
    have hfz178_3 := blk_frozen BK181.out 3
    have hfz178_4 := blk_frozen BK181.out 4
    go_wp2
    (try any_goals (exfalso; have h_ := ‹some undef = some (Value.bool _)›; revert h_; simp [undef]; done))
    go_meet
    case rel => exact ⟨_, (false), (by first | rfl | (simp; done) | (simp [*]; done)), H', ⟨by first | omega | exact Nat.le_refl _⟩, ⟨by (repeat ((with_reducible repeat (first | refine blk_drewN ?_ _ | refine blk_drew ?_ | refine blk_alloc ?_ _)); refine blk_far ?_ NB181_202.out _)); (with_reducible repeat (first | refine blk_drewN ?_ _ | refine blk_drew ?_ | refine blk_alloc ?_ _)); exact BK181.out⟩, ⟨by (repeat ((with_reducible repeat (first | refine blk_drewN ?_ _ | refine blk_drew ?_ | refine blk_alloc ?_ _)); refine blk_far ?_ NB188_202.out _)); (with_reducible repeat (first | refine blk_drewN ?_ _ | refine blk_drew ?_ | refine blk_alloc ?_ _)); exact BK188.out⟩, ⟨by (repeat ((with_reducible repeat (first | refine blk_drewN ?_ _ | refine blk_drew ?_ | refine blk_alloc ?_ _)); refine blk_far ?_ NB195_202.out _)); (with_reducible repeat (first | refine blk_drewN ?_ _ | refine blk_drew ?_ | refine blk_alloc ?_ _)); exact BK195.out⟩, ⟨by (with_reducible repeat (first | refine blk_drewN ?_ _ | refine blk_drew ?_ | refine blk_alloc ?_ _)); refine blk_put (cs := #[.int .i64 t196, .string t197, .string t198, .string t199, .bool false]) ?_ 4 _ rfl; (with_reducible repeat (first | refine blk_drewN ?_ _ | refine blk_drew ?_ | refine blk_alloc ?_ _)); refine blk_put (cs := #[.int .i64 t196, .string t197, .string t198, .string (⟨#[]⟩ : ByteArray), .bool false]) ?_ 3 _ rfl; (with_reducible repeat (first | refine blk_drewN ?_ _ | refine blk_drew ?_ | refine blk_alloc ?_ _)); refine blk_put (cs := #[.int .i64 t196, .string t197, .string (⟨#[]⟩ : ByteArray), .string (⟨#[]⟩ : ByteArray), .bool false]) ?_ 2 _ rfl; (with_reducible repeat (first | refine blk_drewN ?_ _ | refine blk_drew ?_ | refine blk_alloc ?_ _)); refine blk_put (cs := #[.int .i64 t196, .string (⟨#[]⟩ : ByteArray), .string (⟨#[]⟩ : ByteArray), .string (⟨#[]⟩ : ByteArray), .bool false]) ?_ 1 _ rfl; (with_reducible repeat (first | refine blk_drewN ?_ _ | refine blk_drew ?_ | refine blk_alloc ?_ _)); refine blk_put (cs := #[.int .i64 0, .string (⟨#[]⟩ : ByteArray), .string (⟨#[]⟩ : ByteArray), .string (⟨#[]⟩ : ByteArray), .bool false]) ?_ 0 _ rfl; (with_reducible repeat (first | refine blk_drewN ?_ _ | refine blk_drew ?_ | refine blk_alloc ?_ _)); exact BK202.out⟩, ⟨by repeat (first | (with_reducible first | exact HB.out | apply below_alloc | apply pw_below_drewN | apply below_drew1 | refine below_set ?_ GE181.out | refine below_set ?_ GE188.out | refine below_set ?_ GE195.out | refine below_set ?_ GE202.out) | exact HB.out)⟩⟩
  ·rw [if_neg c24] at H
   have c24b0 : (t180 == 0) = false := beq_eq_false_iff_ne.mpr c24
   have c24b1 : (t180 != 0) = true := bne_iff_ne.mpr c24
   (first | rw [c24b0] | (simp only [i64_w, i32_w]; rw [c24b0]) | skip)
   have H' := Aside0.mk H
   clear H
   go_wp2
   (try any_goals (exfalso; have h_ := ‹some undef = some (Value.bool _)›; revert h_; simp [undef]; done))
   go_meet
   case rel => exact ⟨_, (false), (by first | rfl | (simp; done) | (simp [*]; done)), H', ⟨by first | omega | exact Nat.le_refl _⟩, ⟨by (repeat ((with_reducible repeat (first | refine blk_drewN ?_ _ | refine blk_drew ?_ | refine blk_alloc ?_ _)); refine blk_far ?_ NB181_202.out _)); (with_reducible repeat (first | refine blk_drewN ?_ _ | refine blk_drew ?_ | refine blk_alloc ?_ _)); exact BK181.out⟩, ⟨by (repeat ((with_reducible repeat (first | refine blk_drewN ?_ _ | refine blk_drew ?_ | refine blk_alloc ?_ _)); refine blk_far ?_ NB188_202.out _)); (with_reducible repeat (first | refine blk_drewN ?_ _ | refine blk_drew ?_ | refine blk_alloc ?_ _)); exact BK188.out⟩, ⟨by (repeat ((with_reducible repeat (first | refine blk_drewN ?_ _ | refine blk_drew ?_ | refine blk_alloc ?_ _)); refine blk_far ?_ NB195_202.out _)); (with_reducible repeat (first | refine blk_drewN ?_ _ | refine blk_drew ?_ | refine blk_alloc ?_ _)); exact BK195.out⟩, ⟨by (with_reducible repeat (first | refine blk_drewN ?_ _ | refine blk_drew ?_ | refine blk_alloc ?_ _)); refine blk_put (cs := #[.int .i64 t196, .string t197, .string t198, .string t199, .bool false]) ?_ 4 _ rfl; (with_reducible repeat (first | refine blk_drewN ?_ _ | refine blk_drew ?_ | refine blk_alloc ?_ _)); refine blk_put (cs := #[.int .i64 t196, .string t197, .string t198, .string (⟨#[]⟩ : ByteArray), .bool false]) ?_ 3 _ rfl; (with_reducible repeat (first | refine blk_drewN ?_ _ | refine blk_drew ?_ | refine blk_alloc ?_ _)); refine blk_put (cs := #[.int .i64 t196, .string t197, .string (⟨#[]⟩ : ByteArray), .string (⟨#[]⟩ : ByteArray), .bool false]) ?_ 2 _ rfl; (with_reducible repeat (first | refine blk_drewN ?_ _ | refine blk_drew ?_ | refine blk_alloc ?_ _)); refine blk_put (cs := #[.int .i64 t196, .string (⟨#[]⟩ : ByteArray), .string (⟨#[]⟩ : ByteArray), .string (⟨#[]⟩ : ByteArray), .bool false]) ?_ 1 _ rfl; (with_reducible repeat (first | refine blk_drewN ?_ _ | refine blk_drew ?_ | refine blk_alloc ?_ _)); refine blk_put (cs := #[.int .i64 0, .string (⟨#[]⟩ : ByteArray), .string (⟨#[]⟩ : ByteArray), .string (⟨#[]⟩ : ByteArray), .bool false]) ?_ 0 _ rfl; (with_reducible repeat (first | refine blk_drewN ?_ _ | refine blk_drew ?_ | refine blk_alloc ?_ _)); exact BK202.out⟩, ⟨by repeat (first | (with_reducible first | exact HB.out | apply below_alloc | apply pw_below_drewN | apply below_drew1 | refine below_set ?_ GE181.out | refine below_set ?_ GE188.out | refine below_set ?_ GE195.out | refine below_set ?_ GE202.out) | exact HB.out)⟩⟩
 case rest =>
  clear HC5
  try clear c1
  try clear c2
  try clear p2
  try clear c3
  try clear c5
  try clear c6
  try clear c7
  try clear c8
  try clear c9
  try clear c10
  try clear c11
  try clear c12
  try clear c13
  try clear c14
  try clear c15
  try clear c16
  try clear c17
  try clear c24
  try clear c24b0
  try clear c24b1
  try clear c25
  try clear c25b0
  try clear c25b1
  try clear c26
  try clear c26b0
  try clear c26b1
  try clear c27
  try clear c27b0
  try clear c27b1
  try clear c28
  try clear c29
  try clear c29b0
  try clear c29b1
  try clear c30
  try clear c30b0
  try clear c30b1
  try clear c31
  try clear c31b0
  try clear c31b1
  try clear c32
  try clear c32b0
  try clear c32b1
  try clear c33
  try clear c33b0
  try clear c33b1
  try clear c34
  try clear c34b0
  try clear c34b1
  try clear c36
  try clear c51
  try clear c53
  try clear c58
  try clear c59
  try clear c61
  try clear c68
  try clear c70
  try clear c71
  try clear c72
  try clear c74
  try clear c75
  try clear c77
  try clear c86
  try clear c87
  try clear c88
  try clear c90
  try clear c91
  try clear c93
  try clear c100
  try clear c101
  try clear c102
  try clear c104
  try clear c105
  try clear c107
  try clear c112
  try clear c113
  try clear c114
  try clear c116
  try clear c117
  try clear c119
  try clear c122
  try clear c123
  try clear c124
  try clear c126
  try clear c127
  try clear c129
  try clear c131
  try clear c132
  try clear c133
  try clear c135
  try clear c136
  try clear c138
  try clear c139
  try clear c140
  try clear c142
  try clear c143
  try clear c145
  try clear c146
  try clear c147
  try clear c149
  try clear c150
  try clear c152
  try clear c153
  try clear c154
  try clear c156
  try clear c157
  try clear c159
  try clear c160
  try clear c161
  try clear c163
  try clear c164
  try clear c165
  try clear c167
  try clear c168
  try clear c169
  try clear c171
  try clear c172
  try clear c173
  try clear c175
  try clear c176
  try clear c177
  try clear hcz103_0
  try clear hcz103_1
  try clear hcz103_2
  try clear hcz103_3
  try clear hcz103_4
  try clear hcz106_0
  try clear hcz106_1
  try clear hcz106_2
  try clear hcz106_3
  try clear hcz106_4
  try clear hcz108_0
  try clear hcz108_1
  try clear hcz108_2
  try clear hcz108_3
  try clear hcz108_4
  try clear hcz115_0
  try clear hcz115_1
  try clear hcz115_2
  try clear hcz115_3
  try clear hcz115_4
  try clear hcz118_0
  try clear hcz118_1
  try clear hcz118_2
  try clear hcz118_3
  try clear hcz118_4
  try clear hcz120_0
  try clear hcz120_1
  try clear hcz120_2
  try clear hcz120_3
  try clear hcz120_4
  try clear hcz125_0
  try clear hcz125_1
  try clear hcz125_2
  try clear hcz125_3
  try clear hcz125_4
  try clear hcz128_0
  try clear hcz128_1
  try clear hcz128_2
  try clear hcz128_3
  try clear hcz128_4
  try clear hcz130_0
  try clear hcz130_1
  try clear hcz130_2
  try clear hcz130_3
  try clear hcz130_4
  try clear hcz134_0
  try clear hcz134_1
  try clear hcz134_2
  try clear hcz134_3
  try clear hcz134_4
  try clear hcz137_0
  try clear hcz137_1
  try clear hcz137_2
  try clear hcz137_3
  try clear hcz137_4
  try clear hcz141_0
  try clear hcz141_1
  try clear hcz141_2
  try clear hcz141_3
  try clear hcz141_4
  try clear hcz144_0
  try clear hcz144_1
  try clear hcz144_2
  try clear hcz144_3
  try clear hcz144_4
  try clear hcz148_0
  try clear hcz148_1
  try clear hcz148_2
  try clear hcz148_3
  try clear hcz148_4
  try clear hcz151_0
  try clear hcz151_1
  try clear hcz151_2
  try clear hcz151_3
  try clear hcz151_4
  try clear hcz155_0
  try clear hcz155_1
  try clear hcz155_2
  try clear hcz155_3
  try clear hcz155_4
  try clear hcz158_0
  try clear hcz158_1
  try clear hcz158_2
  try clear hcz158_3
  try clear hcz158_4
  try clear hcz162_0
  try clear hcz162_1
  try clear hcz162_2
  try clear hcz162_3
  try clear hcz162_4
  try clear hcz166_0
  try clear hcz166_1
  try clear hcz166_2
  try clear hcz166_3
  try clear hcz166_4
  try clear hcz170_0
  try clear hcz170_1
  try clear hcz170_2
  try clear hcz170_3
  try clear hcz170_4
  try clear hcz174_0
  try clear hcz174_1
  try clear hcz174_2
  try clear hcz174_3
  try clear hcz174_4
  try clear hcz178_0
  try clear hcz178_1
  try clear hcz178_2
  try clear hcz178_3
  try clear hcz178_4
  try clear hcz57_1
  try clear hcz57_2
  try clear hcz57_3
  try clear hcz57_4
  try clear hcz60_0
  try clear hcz60_1
  try clear hcz60_2
  try clear hcz60_3
  try clear hcz60_4
  try clear hcz62_0
  try clear hcz62_1
  try clear hcz62_2
  try clear hcz62_3
  try clear hcz62_4
  try clear hcz73_0
  try clear hcz73_1
  try clear hcz73_2
  try clear hcz73_3
  try clear hcz73_4
  try clear hcz76_0
  try clear hcz76_1
  try clear hcz76_2
  try clear hcz76_3
  try clear hcz76_4
  try clear hcz78_0
  try clear hcz78_1
  try clear hcz78_2
  try clear hcz78_3
  try clear hcz78_4
  try clear hcz84_0
  try clear hcz84_1
  try clear hcz84_2
  try clear hcz84_3
  try clear hcz84_4
  try clear hcz89_0
  try clear hcz89_1
  try clear hcz89_2
  try clear hcz89_3
  try clear hcz89_4
  try clear hcz92_0
  try clear hcz92_1
  try clear hcz92_2
  try clear hcz92_3
  try clear hcz92_4
  try clear hcz94_0
  try clear hcz94_1
  try clear hcz94_2
  try clear hcz94_3
  try clear hcz94_4
  try clear hfz103_0
  try clear hfz103_1
  try clear hfz103_2
  try clear hfz103_3
  try clear hfz103_4
  try clear hfz106_0
  try clear hfz106_1
  try clear hfz106_2
  try clear hfz106_3
  try clear hfz106_4
  try clear hfz108_0
  try clear hfz108_1
  try clear hfz108_2
  try clear hfz108_3
  try clear hfz108_4
  try clear hfz115_0
  try clear hfz115_1
  try clear hfz115_2
  try clear hfz115_3
  try clear hfz115_4
  try clear hfz118_0
  try clear hfz118_1
  try clear hfz118_2
  try clear hfz118_3
  try clear hfz118_4
  try clear hfz120_0
  try clear hfz120_1
  try clear hfz120_2
  try clear hfz120_3
  try clear hfz120_4
  try clear hfz125_0
  try clear hfz125_1
  try clear hfz125_2
  try clear hfz125_3
  try clear hfz125_4
  try clear hfz128_0
  try clear hfz128_1
  try clear hfz128_2
  try clear hfz128_3
  try clear hfz128_4
  try clear hfz130_0
  try clear hfz130_1
  try clear hfz130_2
  try clear hfz130_3
  try clear hfz130_4
  try clear hfz134_0
  try clear hfz134_1
  try clear hfz134_2
  try clear hfz134_3
  try clear hfz134_4
  try clear hfz137_0
  try clear hfz137_1
  try clear hfz137_2
  try clear hfz137_3
  try clear hfz137_4
  try clear hfz141_0
  try clear hfz141_1
  try clear hfz141_2
  try clear hfz141_3
  try clear hfz141_4
  try clear hfz144_0
  try clear hfz144_1
  try clear hfz144_2
  try clear hfz144_3
  try clear hfz144_4
  try clear hfz148_0
  try clear hfz148_1
  try clear hfz148_2
  try clear hfz148_3
  try clear hfz148_4
  try clear hfz151_0
  try clear hfz151_1
  try clear hfz151_2
  try clear hfz151_3
  try clear hfz151_4
  try clear hfz155_0
  try clear hfz155_1
  try clear hfz155_2
  try clear hfz155_3
  try clear hfz155_4
  try clear hfz158_0
  try clear hfz158_1
  try clear hfz158_2
  try clear hfz158_3
  try clear hfz158_4
  try clear hfz162_0
  try clear hfz162_1
  try clear hfz162_2
  try clear hfz162_3
  try clear hfz162_4
  try clear hfz166_0
  try clear hfz166_1
  try clear hfz166_2
  try clear hfz166_3
  try clear hfz166_4
  try clear hfz170_0
  try clear hfz170_1
  try clear hfz170_2
  try clear hfz170_3
  try clear hfz170_4
  try clear hfz174_0
  try clear hfz174_1
  try clear hfz174_2
  try clear hfz174_3
  try clear hfz174_4
  try clear hfz178_0
  try clear hfz178_1
  try clear hfz178_2
  try clear hfz178_3
  try clear hfz178_4
  try clear hfz57_0
  try clear hfz57_1
  try clear hfz57_2
  try clear hfz57_3
  try clear hfz57_4
  try clear hfz60_0
  try clear hfz60_1
  try clear hfz60_2
  try clear hfz60_3
  try clear hfz60_4
  try clear hfz62_0
  try clear hfz62_1
  try clear hfz62_2
  try clear hfz62_3
  try clear hfz62_4
  try clear hfz73_0
  try clear hfz73_1
  try clear hfz73_2
  try clear hfz73_3
  try clear hfz73_4
  try clear hfz76_0
  try clear hfz76_1
  try clear hfz76_2
  try clear hfz76_3
  try clear hfz76_4
  try clear hfz78_0
  try clear hfz78_1
  try clear hfz78_2
  try clear hfz78_3
  try clear hfz78_4
  try clear hfz84_0
  try clear hfz84_1
  try clear hfz84_2
  try clear hfz84_3
  try clear hfz84_4
  try clear hfz89_0
  try clear hfz89_1
  try clear hfz89_2
  try clear hfz89_3
  try clear hfz89_4
  try clear hfz92_0
  try clear hfz92_1
  try clear hfz92_2
  try clear hfz92_3
  try clear hfz92_4
  try clear hfz94_0
  try clear hfz94_1
  try clear hfz94_2
  try clear hfz94_3
  try clear hfz94_4
  obtain ⟨kq, x0_4, rfl, HA, HJ4, BK181, BK188, BK195, BK202, HB⟩ := hcut
  cases kq with
  | zero => exact absurd HA.out (by simp [parallaxlaw7_known.j0])
  | succ kj4 =>
   have H := HA.out
   clear HA
   simp only [parallaxlaw7_known.j0] at H
   obtain rfl := Option.some.inj H
   go_wp2
   (try any_goals (exfalso; have h_ := ‹some undef = some (Value.bool _)›; revert h_; simp [undef]; done))
   go_ret
   exact ⟨by first | rfl | (simp [errW_none, errW_some] <;> rfl) | (simp [*, errW_none, errW_some] <;> rfl), by repeat (first | (with_reducible first | exact HB.out | apply below_alloc | apply pw_below_drewN | apply below_drew1 | refine below_set ?_ GE181.out | refine below_set ?_ GE188.out | refine below_set ?_ GE195.out | refine below_set ?_ GE202.out) | exact HB.out)⟩

end Go.Proofs.Ytnnehbbfokoklaa.PTargetTells
