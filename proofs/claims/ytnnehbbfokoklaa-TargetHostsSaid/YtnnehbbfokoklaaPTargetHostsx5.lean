-- Written by a program of this session (wip/tools/myprint.sh)
import Derived.Test.YtnnehbbfokoklaaPTargetHostsx0
import Derived.Test.YtnnehbbfokoklaaPTargetHostsx2
import Derived.Test.YtnnehbbfokoklaaPTargetHostsx3
import Derived.Test.YtnnehbbfokoklaaPTargetHostsx4
namespace Go.Proofs.Ytnnehbbfokoklaa.PTargetHosts
open Go.RowKit Go.Proofs.YtnnehbbfokoklaaW.PrintWords Go.Proofs.YtnnehbbfokoklaaW.PrintLast Go.Proofs.YtnnehbbfokoklaaW.PrintMore
attribute [local go_sem] max2_int min2_int max_two min_two max_three min_three max_four min_four   -- for this text's walks alone
set_option linter.unusedVariables false
set_option linter.unusedSimpArgs false

/-! ### parallaxlaw7_known: function 7 -/
def parallaxlaw7_known.f (k : Nat)  : Option (Bool) := (target_Parse.f k (⟨#[71, 69, 84]⟩ : ByteArray) (⟨#[47, 97, 63, 98]⟩ : ByteArray)).bind fun bt175 => ((target_Parse.f k (⟨#[71, 69, 84]⟩ : ByteArray) (⟨#[104, 116, 116, 112, 58, 47, 47, 104, 63, 113]⟩ : ByteArray)).bind fun bt182 => ((target_Parse.f k (⟨#[71, 69, 84]⟩ : ByteArray) (⟨#[97]⟩ : ByteArray)).bind fun bt189 => ((target_Parse.f k (⟨#[79, 80, 84, 73, 79, 78, 83]⟩ : ByteArray) (⟨#[42]⟩ : ByteArray)).bind fun bt196 => (if bt175.2.2.2.2.2 = 0 then (if bt175.1 = 1 then (if bt175.2.2.1.toList = ([47, 97] : List UInt8) then (if bt175.2.2.2.1.toList = ([98] : List UInt8) then (if bt175.2.2.2.2.1 = true then (if bt182.2.2.2.2.2 = 0 then (if bt182.2.1.toList = ([104] : List UInt8) then (if bt182.2.2.1.toList = ([47] : List UInt8) then (if bt189.2.2.2.2.2 = 400 then (if bt196.2.2.2.2.2 = 0 then (if bt196.1 = 4 then ((target_Host.f k (⟨#[97, 46, 98, 58, 56, 48]⟩ : ByteArray)).bind fun t203 => (if t203 = true then ((target_Host.f k (⟨#[97, 58]⟩ : ByteArray)).bind fun t204 => (if t204 = true then (some false) else ((target_Path.f k (⟨#[47, 37, 52, 49]⟩ : ByteArray)).bind fun t205 => (if t205 = true then ((target_Path.f k (⟨#[47, 37, 52]⟩ : ByteArray)).bind fun t206 => (if t206 = true then (some false) else ((target_Query.f k (⟨#[97, 63, 98]⟩ : ByteArray)).bind fun t207 => (if t207 = true then ((target_Put.f k bt175.1 bt175.2.1 bt175.2.2.1 bt175.2.2.2.1 bt175.2.2.2.2.1).bind fun t208 => (some (t208.toList == ([47, 97, 63, 98] : List UInt8)))) else (some false))))) else (some false))))) else (some false))) else (some false)) else (some false)) else (some false)) else (some false)) else (some false)) else (some false)) else (some false)) else (some false)) else (some false)) else (some false)) else (some false)))))
theorem parallaxlaw7_known.mono : ∀ k, LeO (parallaxlaw7_known.f k ) (parallaxlaw7_known.f (k + 1) ) := by
  intro  k
  unfold parallaxlaw7_known.f
  repeat' first
      | (with_reducible exact target_Host.mono _ _)
      | (with_reducible exact target_Parse.mono _ _ _)
      | (with_reducible exact target_Path.mono _ _)
      | (with_reducible exact target_Put.mono _ _ _ _ _ _)
      | (with_reducible exact target_Query.mono _ _)
      | (with_reducible exact LeO.refl _)
      | (with_reducible exact LeO.none _)
      | (with_reducible refine LeO.ite ?_ ?_)
      | (with_reducible refine LeO.bind ?_ (fun _ => ?_))
      | exact target_Host.mono _ _
      | exact target_Parse.mono _ _ _
      | exact target_Path.mono _ _
      | exact target_Put.mono _ _ _ _ _ _
      | exact target_Query.mono _ _
      | exact LeO.none _
      | refine LeO.ite ?_ ?_
      | refine LeO.bind ?_ (fun _ => ?_)
set_option maxHeartbeats 8000000 in
set_option maxRecDepth 100000 in
theorem parallaxlaw7_known.calls (k : Nat)  (r : Bool) (w : World) (hT : r = true) (h : parallaxlaw7_known.f k  = some r) :
    Calls Try.prog 7 #[] w fun e w' => e = .returned (.bool r) ∧ Below w.heap.size w w' := by
  have hu27 := Try.underlying27
  have HT := Aside0.mk hT
  clear hT
  have HB := Aside0.mk (Below.refl w.heap.size w)
  have H : ((target_Parse.f k (⟨#[71, 69, 84]⟩ : ByteArray) (⟨#[47, 97, 63, 98]⟩ : ByteArray)).bind fun bt175 => ((target_Parse.f k (⟨#[71, 69, 84]⟩ : ByteArray) (⟨#[104, 116, 116, 112, 58, 47, 47, 104, 63, 113]⟩ : ByteArray)).bind fun bt182 => ((target_Parse.f k (⟨#[71, 69, 84]⟩ : ByteArray) (⟨#[97]⟩ : ByteArray)).bind fun bt189 => ((target_Parse.f k (⟨#[79, 80, 84, 73, 79, 78, 83]⟩ : ByteArray) (⟨#[42]⟩ : ByteArray)).bind fun bt196 => (if bt175.2.2.2.2.2 = 0 then (if bt175.1 = 1 then (if bt175.2.2.1.toList = ([47, 97] : List UInt8) then (if bt175.2.2.2.1.toList = ([98] : List UInt8) then (if bt175.2.2.2.2.1 = true then (if bt182.2.2.2.2.2 = 0 then (if bt182.2.1.toList = ([104] : List UInt8) then (if bt182.2.2.1.toList = ([47] : List UInt8) then (if bt189.2.2.2.2.2 = 400 then (if bt196.2.2.2.2.2 = 0 then (if bt196.1 = 4 then ((target_Host.f k (⟨#[97, 46, 98, 58, 56, 48]⟩ : ByteArray)).bind fun t203 => (if t203 = true then ((target_Host.f k (⟨#[97, 58]⟩ : ByteArray)).bind fun t204 => (if t204 = true then (some false) else ((target_Path.f k (⟨#[47, 37, 52, 49]⟩ : ByteArray)).bind fun t205 => (if t205 = true then ((target_Path.f k (⟨#[47, 37, 52]⟩ : ByteArray)).bind fun t206 => (if t206 = true then (some false) else ((target_Query.f k (⟨#[97, 63, 98]⟩ : ByteArray)).bind fun t207 => (if t207 = true then ((target_Put.f k bt175.1 bt175.2.1 bt175.2.2.1 bt175.2.2.2.1 bt175.2.2.2.2.1).bind fun t208 => (some (t208.toList == ([47, 97, 63, 98] : List UInt8)))) else (some false))))) else (some false))))) else (some false))) else (some false)) else (some false)) else (some false)) else (some false)) else (some false)) else (some false)) else (some false)) else (some false)) else (some false)) else (some false)) else (some false)))))) = some r := h
  clear h
  replace H := Option.bind_eq_some_iff.mp H
  obtain ⟨⟨t175, t176, t177, t178, t179, t180⟩, A10, H⟩ := H
  (try dsimp only at H)
  have A1 := Aside0.mk A10
  clear A10
  replace H := Option.bind_eq_some_iff.mp H
  obtain ⟨⟨t182, t183, t184, t185, t186, t187⟩, A20, H⟩ := H
  (try dsimp only at H)
  have A2 := Aside0.mk A20
  clear A20
  replace H := Option.bind_eq_some_iff.mp H
  obtain ⟨⟨t189, t190, t191, t192, t193, t194⟩, A30, H⟩ := H
  (try dsimp only at H)
  have A3 := Aside0.mk A30
  clear A30
  replace H := Option.bind_eq_some_iff.mp H
  obtain ⟨⟨t196, t197, t198, t199, t200, t201⟩, A40, H⟩ := H
  (try dsimp only at H)
  have A4 := Aside0.mk A40
  clear A40
  by_cases c5 : t180 = 0
  · rw [if_pos c5] at H
    have c5b0 : (t180 == 0) = true := beq_iff_eq.mpr c5
    have c5b1 : (t180 != 0) = false := bne_eq_false_iff_eq.mpr c5
    clear c5
    by_cases c6 : t175 = 1
    · rw [if_pos c6] at H
      have c6b0 : (t175 == 1) = true := beq_iff_eq.mpr c6
      have c6b1 : (t175 != 1) = false := bne_eq_false_iff_eq.mpr c6
      clear c6
      by_cases c7 : t177.toList = ([47, 97] : List UInt8)
      · rw [if_pos c7] at H
        have c7b0 : (t177.toList == ([47, 97] : List UInt8)) = true := beq_iff_eq.mpr c7
        have c7b1 : (t177.toList != ([47, 97] : List UInt8)) = false := bne_eq_false_iff_eq.mpr c7
        clear c7
        by_cases c8 : t178.toList = ([98] : List UInt8)
        · rw [if_pos c8] at H
          have c8b0 : (t178.toList == ([98] : List UInt8)) = true := beq_iff_eq.mpr c8
          have c8b1 : (t178.toList != ([98] : List UInt8)) = false := bne_eq_false_iff_eq.mpr c8
          clear c8
          by_cases c9 : t179 = true
          · subst c9
            rw [if_pos rfl] at H
            by_cases c10 : t187 = 0
            · rw [if_pos c10] at H
              have c10b0 : (t187 == 0) = true := beq_iff_eq.mpr c10
              have c10b1 : (t187 != 0) = false := bne_eq_false_iff_eq.mpr c10
              clear c10
              by_cases c11 : t183.toList = ([104] : List UInt8)
              · rw [if_pos c11] at H
                have c11b0 : (t183.toList == ([104] : List UInt8)) = true := beq_iff_eq.mpr c11
                have c11b1 : (t183.toList != ([104] : List UInt8)) = false := bne_eq_false_iff_eq.mpr c11
                clear c11
                by_cases c12 : t184.toList = ([47] : List UInt8)
                · rw [if_pos c12] at H
                  have c12b0 : (t184.toList == ([47] : List UInt8)) = true := beq_iff_eq.mpr c12
                  have c12b1 : (t184.toList != ([47] : List UInt8)) = false := bne_eq_false_iff_eq.mpr c12
                  clear c12
                  by_cases c13 : t194 = 400
                  · rw [if_pos c13] at H
                    have c13b0 : (t194 == 400) = true := beq_iff_eq.mpr c13
                    have c13b1 : (t194 != 400) = false := bne_eq_false_iff_eq.mpr c13
                    clear c13
                    by_cases c14 : t201 = 0
                    · rw [if_pos c14] at H
                      have c14b0 : (t201 == 0) = true := beq_iff_eq.mpr c14
                      have c14b1 : (t201 != 0) = false := bne_eq_false_iff_eq.mpr c14
                      clear c14
                      by_cases c15 : t196 = 4
                      · rw [if_pos c15] at H
                        have c15b0 : (t196 == 4) = true := beq_iff_eq.mpr c15
                        have c15b1 : (t196 != 4) = false := bne_eq_false_iff_eq.mpr c15
                        clear c15
                        replace H := Option.bind_eq_some_iff.mp H
                        obtain ⟨t203, A160, H⟩ := H
                        (try dsimp only at H)
                        have A16 := Aside0.mk A160
                        clear A160
                        by_cases c17 : t203 = true
                        · subst c17
                          rw [if_pos rfl] at H
                          replace H := Option.bind_eq_some_iff.mp H
                          obtain ⟨t204, A180, H⟩ := H
                          (try dsimp only at H)
                          have A18 := Aside0.mk A180
                          clear A180
                          by_cases c19 : t204 = true
                          · subst c19
                            rw [if_pos rfl] at H
                            exact absurd ((Option.some.inj H).trans HT.out) (by decide)
                          · replace c19 := Bool.eq_false_iff.mpr c19
                            subst c19
                            rw [if_neg (show ¬ (false = true) by decide)] at H
                            replace H := Option.bind_eq_some_iff.mp H
                            obtain ⟨t205, A200, H⟩ := H
                            (try dsimp only at H)
                            have A20 := Aside0.mk A200
                            clear A200
                            by_cases c21 : t205 = true
                            · subst c21
                              rw [if_pos rfl] at H
                              replace H := Option.bind_eq_some_iff.mp H
                              obtain ⟨t206, A220, H⟩ := H
                              (try dsimp only at H)
                              have A22 := Aside0.mk A220
                              clear A220
                              by_cases c23 : t206 = true
                              · subst c23
                                rw [if_pos rfl] at H
                                exact absurd ((Option.some.inj H).trans HT.out) (by decide)
                              · replace c23 := Bool.eq_false_iff.mpr c23
                                subst c23
                                rw [if_neg (show ¬ (false = true) by decide)] at H
                                replace H := Option.bind_eq_some_iff.mp H
                                obtain ⟨t207, A240, H⟩ := H
                                (try dsimp only at H)
                                have A24 := Aside0.mk A240
                                clear A240
                                by_cases c25 : t207 = true
                                · subst c25
                                  rw [if_pos rfl] at H
                                  replace H := Option.bind_eq_some_iff.mp H
                                  obtain ⟨t208, A260, H⟩ := H
                                  (try dsimp only at H)
                                  have A26 := Aside0.mk A260
                                  clear A260
                                  obtain rfl := Option.some.inj H
                                  go_enter Try.func7, Try.ntmps7
                                  go_wp2_with (first | ((with_reducible refine gate_callee (f := 9) rfl ?_); refine goesL_ (some 10) rfl rfl Try.func9 (by kernel_rfl) rfl #[.string (⟨#[71, 69, 84]⟩ : ByteArray), .string (⟨#[47, 97, 63, 98]⟩ : ByteArray)] rfl (by (try simp only [List.map_toArray, List.map_cons, List.map_nil]); first | done | rfl | (simp only [List.length_drop, List.length_take]; rfl)) ?_; (with_reducible refine (target_Parse.calls k (⟨#[71, 69, 84]⟩ : ByteArray) (⟨#[47, 97, 63, 98]⟩ : ByteArray) t175 t176 t177 t178 true t180 _ A1.out).mono ?_); rintro e w27 ⟨rfl, hb⟩; refine ⟨_, rfl, ?_⟩; have n0_ := Aside0.mk (below_step (by repeat (first | (with_reducible first | exact HB.out | apply below_alloc | apply pw_below_drewN | apply below_drew1) | exact HB.out)) hb); clear HB; have HB := n0_; clear n0_; (try clear hb); (try clear hb2); (try clear hk); (try clear hi)) | ((with_reducible refine gate_dst (N := 1) rfl ?_); refine box_event ?hg (N := 1) ?hd (cs := #[.int .i64 0, .string (⟨#[]⟩ : ByteArray), .string (⟨#[]⟩ : ByteArray), .string (⟨#[]⟩ : ByteArray), .bool false]) (t := 27) ?hr ?_; (case hd => rfl); (case hg => rfl); (case hr => first | (go_simp; done) | (go_simp; rfl)); intro gb181 hg w28 hbox hb; have n0_ := Aside0.mk (below_step (by repeat (first | (with_reducible first | exact HB.out | apply below_alloc | apply pw_below_drewN | apply below_drew1) | exact HB.out)) hb); have n1_ := Aside0.mk (hbox); have n2_ := Aside0.mk ((by rw [hg]; exact (below_size (by repeat (first | (with_reducible first | exact HB.out | apply below_alloc | apply pw_below_drewN | apply below_drew1) | exact HB.out))) : w.heap.size ≤ gb181)); have n3_ := Aside0.mk ((by rw [hg]; exact (below_size (by repeat (first | (with_reducible first | exact HB.out | apply below_alloc | apply pw_below_drewN | apply below_drew1) | exact HB.out))) : w.heap.size ≤ gb181)); clear HB; have HB := n0_; have BK181 := n1_; have GW181 := n2_; have GE181 := n3_; clear n0_ n1_ n2_ n3_; clear hb hbox hg; have hcz29_0 : w28.cell? ⟨gb181, 0, none⟩ = some (.int .i64 0) := (blk_cell BK181.out 0).trans rfl; have hcz29_1 : w28.cell? ⟨gb181, 1, none⟩ = some (.string (⟨#[]⟩ : ByteArray)) := (blk_cell BK181.out 1).trans rfl; have hcz29_2 : w28.cell? ⟨gb181, 2, none⟩ = some (.string (⟨#[]⟩ : ByteArray)) := (blk_cell BK181.out 2).trans rfl; have hcz29_3 : w28.cell? ⟨gb181, 3, none⟩ = some (.string (⟨#[]⟩ : ByteArray)) := (blk_cell BK181.out 3).trans rfl; have hcz29_4 : w28.cell? ⟨gb181, 4, none⟩ = some (.bool false) := (blk_cell BK181.out 4).trans rfl; have hfz29_0 := blk_frozen BK181.out 0; have hfz29_1 := blk_frozen BK181.out 1; have hfz29_2 := blk_frozen BK181.out 2; have hfz29_3 := blk_frozen BK181.out 3; have hfz29_4 := blk_frozen BK181.out 4) | ((with_reducible refine gate_callee (f := 9) rfl ?_); refine goesL_ (some 14) rfl rfl Try.func9 (by kernel_rfl) rfl #[.string (⟨#[71, 69, 84]⟩ : ByteArray), .string (⟨#[104, 116, 116, 112, 58, 47, 47, 104, 63, 113]⟩ : ByteArray)] rfl (by (try simp only [List.map_toArray, List.map_cons, List.map_nil]); first | done | rfl | (simp only [List.length_drop, List.length_take]; rfl)) ?_; (with_reducible refine (target_Parse.calls k (⟨#[71, 69, 84]⟩ : ByteArray) (⟨#[104, 116, 116, 112, 58, 47, 47, 104, 63, 113]⟩ : ByteArray) t182 t183 t184 t185 t186 t187 _ A2.out).mono ?_); rintro e w30 ⟨rfl, hb⟩; refine ⟨_, rfl, ?_⟩; have n0_ := Aside0.mk (blk_below (g := gb181) (o := .cells #[.int .i64 t175, .string t176, .string t177, .string t178, .bool true] 27 (0, 0)) (by (with_reducible repeat (first | refine blk_drewN ?_ _ | refine blk_drew ?_ | refine blk_alloc ?_ _)); refine blk_put (cs := #[.int .i64 t175, .string t176, .string t177, .string t178, .bool false]) ?_ 4 _ rfl; (with_reducible repeat (first | refine blk_drewN ?_ _ | refine blk_drew ?_ | refine blk_alloc ?_ _)); refine blk_put (cs := #[.int .i64 t175, .string t176, .string t177, .string (⟨#[]⟩ : ByteArray), .bool false]) ?_ 3 _ rfl; (with_reducible repeat (first | refine blk_drewN ?_ _ | refine blk_drew ?_ | refine blk_alloc ?_ _)); refine blk_put (cs := #[.int .i64 t175, .string t176, .string (⟨#[]⟩ : ByteArray), .string (⟨#[]⟩ : ByteArray), .bool false]) ?_ 2 _ rfl; (with_reducible repeat (first | refine blk_drewN ?_ _ | refine blk_drew ?_ | refine blk_alloc ?_ _)); refine blk_put (cs := #[.int .i64 t175, .string (⟨#[]⟩ : ByteArray), .string (⟨#[]⟩ : ByteArray), .string (⟨#[]⟩ : ByteArray), .bool false]) ?_ 1 _ rfl; (with_reducible repeat (first | refine blk_drewN ?_ _ | refine blk_drew ?_ | refine blk_alloc ?_ _)); refine blk_put (cs := #[.int .i64 0, .string (⟨#[]⟩ : ByteArray), .string (⟨#[]⟩ : ByteArray), .string (⟨#[]⟩ : ByteArray), .bool false]) ?_ 0 _ rfl; (with_reducible repeat (first | refine blk_drewN ?_ _ | refine blk_drew ?_ | refine blk_alloc ?_ _)); exact BK181.out) hb); have n1_ := Aside0.mk (below_step (by repeat (first | (with_reducible first | exact HB.out | apply below_alloc | apply pw_below_drewN | apply below_drew1 | refine below_set ?_ GE181.out) | exact HB.out)) hb); clear BK181; clear HB; have BK181 := n0_; have HB := n1_; clear n0_ n1_; (try clear hb); (try clear hb2); (try clear hk); (try clear hi)) | ((with_reducible refine gate_dst (N := 3) rfl ?_); refine box_event ?hg (N := 3) ?hd (cs := #[.int .i64 0, .string (⟨#[]⟩ : ByteArray), .string (⟨#[]⟩ : ByteArray), .string (⟨#[]⟩ : ByteArray), .bool false]) (t := 27) ?hr ?_; (case hd => rfl); (case hg => rfl); (case hr => first | (go_simp; done) | (go_simp; rfl)); intro gb188 hg w31 hbox hb; have n0_ := Aside0.mk (blk_below (g := gb181) (o := .cells #[.int .i64 t175, .string t176, .string t177, .string t178, .bool true] 27 (0, 0)) (by (with_reducible repeat (first | refine blk_drewN ?_ _ | refine blk_drew ?_ | refine blk_alloc ?_ _)); exact BK181.out) hb); have n1_ := Aside0.mk (below_step (by repeat (first | (with_reducible first | exact HB.out | apply below_alloc | apply pw_below_drewN | apply below_drew1 | refine below_set ?_ GE181.out) | exact HB.out)) hb); have n2_ := Aside0.mk (hbox); have n3_ := Aside0.mk ((by rw [hg]; exact (below_size (by repeat (first | (with_reducible first | exact HB.out | apply below_alloc | apply pw_below_drewN | apply below_drew1 | refine below_set ?_ GE181.out) | exact HB.out))) : w.heap.size ≤ gb188)); have n4_ := Aside0.mk ((by rw [hg]; exact (below_size (by repeat (first | (with_reducible first | exact HB.out | apply below_alloc | apply pw_below_drewN | apply below_drew1 | refine below_set ?_ GE181.out) | exact HB.out))) : w.heap.size ≤ gb188)); have n5_ := Aside0.mk ((by rw [hg]; exact Nat.ne_of_lt (blk_lt (g := gb181) (o := .cells #[.int .i64 t175, .string t176, .string t177, .string t178, .bool true] 27 (0, 0)) (by (with_reducible repeat (first | refine blk_drewN ?_ _ | refine blk_drew ?_ | refine blk_alloc ?_ _)); exact BK181.out)) : gb181 ≠ gb188)); have n6_ := Aside0.mk ((by rw [hg]; exact Nat.ne_of_gt (blk_lt (g := gb181) (o := .cells #[.int .i64 t175, .string t176, .string t177, .string t178, .bool true] 27 (0, 0)) (by (with_reducible repeat (first | refine blk_drewN ?_ _ | refine blk_drew ?_ | refine blk_alloc ?_ _)); exact BK181.out)) : gb188 ≠ gb181)); clear BK181; clear HB; have BK181 := n0_; have HB := n1_; have BK188 := n2_; have GW188 := n3_; have GE188 := n4_; have NB181_188 := n5_; have NB188_181 := n6_; clear n0_ n1_ n2_ n3_ n4_ n5_ n6_; clear hb hbox hg; have hnb32 := NB188_181.out; have hnc32 := NB181_188.out; have hcz33_0 : w31.cell? ⟨gb188, 0, none⟩ = some (.int .i64 0) := (blk_cell BK188.out 0).trans rfl; have hcz33_1 : w31.cell? ⟨gb188, 1, none⟩ = some (.string (⟨#[]⟩ : ByteArray)) := (blk_cell BK188.out 1).trans rfl; have hcz33_2 : w31.cell? ⟨gb188, 2, none⟩ = some (.string (⟨#[]⟩ : ByteArray)) := (blk_cell BK188.out 2).trans rfl; have hcz33_3 : w31.cell? ⟨gb188, 3, none⟩ = some (.string (⟨#[]⟩ : ByteArray)) := (blk_cell BK188.out 3).trans rfl; have hcz33_4 : w31.cell? ⟨gb188, 4, none⟩ = some (.bool false) := (blk_cell BK188.out 4).trans rfl; have hfz33_0 := blk_frozen BK188.out 0; have hfz33_1 := blk_frozen BK188.out 1; have hfz33_2 := blk_frozen BK188.out 2; have hfz33_3 := blk_frozen BK188.out 3; have hfz33_4 := blk_frozen BK188.out 4) | ((with_reducible refine gate_callee (f := 9) rfl ?_); refine goesL_ (some 18) rfl rfl Try.func9 (by kernel_rfl) rfl #[.string (⟨#[71, 69, 84]⟩ : ByteArray), .string (⟨#[97]⟩ : ByteArray)] rfl (by (try simp only [List.map_toArray, List.map_cons, List.map_nil]); first | done | rfl | (simp only [List.length_drop, List.length_take]; rfl)) ?_; (with_reducible refine (target_Parse.calls k (⟨#[71, 69, 84]⟩ : ByteArray) (⟨#[97]⟩ : ByteArray) t189 t190 t191 t192 t193 t194 _ A3.out).mono ?_); rintro e w34 ⟨rfl, hb⟩; refine ⟨_, rfl, ?_⟩; have n0_ := Aside0.mk (blk_below (g := gb181) (o := .cells #[.int .i64 t175, .string t176, .string t177, .string t178, .bool true] 27 (0, 0)) (by (with_reducible repeat (first | refine blk_drewN ?_ _ | refine blk_drew ?_ | refine blk_alloc ?_ _)); refine blk_far ?_ NB181_188.out _; (with_reducible repeat (first | refine blk_drewN ?_ _ | refine blk_drew ?_ | refine blk_alloc ?_ _)); refine blk_far ?_ NB181_188.out _; (with_reducible repeat (first | refine blk_drewN ?_ _ | refine blk_drew ?_ | refine blk_alloc ?_ _)); refine blk_far ?_ NB181_188.out _; (with_reducible repeat (first | refine blk_drewN ?_ _ | refine blk_drew ?_ | refine blk_alloc ?_ _)); refine blk_far ?_ NB181_188.out _; (with_reducible repeat (first | refine blk_drewN ?_ _ | refine blk_drew ?_ | refine blk_alloc ?_ _)); refine blk_far ?_ NB181_188.out _; (with_reducible repeat (first | refine blk_drewN ?_ _ | refine blk_drew ?_ | refine blk_alloc ?_ _)); exact BK181.out) hb); have n1_ := Aside0.mk (blk_below (g := gb188) (o := .cells #[.int .i64 t182, .string t183, .string t184, .string t185, .bool t186] 27 (0, 0)) (by (with_reducible repeat (first | refine blk_drewN ?_ _ | refine blk_drew ?_ | refine blk_alloc ?_ _)); refine blk_put (cs := #[.int .i64 t182, .string t183, .string t184, .string t185, .bool false]) ?_ 4 _ rfl; (with_reducible repeat (first | refine blk_drewN ?_ _ | refine blk_drew ?_ | refine blk_alloc ?_ _)); refine blk_put (cs := #[.int .i64 t182, .string t183, .string t184, .string (⟨#[]⟩ : ByteArray), .bool false]) ?_ 3 _ rfl; (with_reducible repeat (first | refine blk_drewN ?_ _ | refine blk_drew ?_ | refine blk_alloc ?_ _)); refine blk_put (cs := #[.int .i64 t182, .string t183, .string (⟨#[]⟩ : ByteArray), .string (⟨#[]⟩ : ByteArray), .bool false]) ?_ 2 _ rfl; (with_reducible repeat (first | refine blk_drewN ?_ _ | refine blk_drew ?_ | refine blk_alloc ?_ _)); refine blk_put (cs := #[.int .i64 t182, .string (⟨#[]⟩ : ByteArray), .string (⟨#[]⟩ : ByteArray), .string (⟨#[]⟩ : ByteArray), .bool false]) ?_ 1 _ rfl; (with_reducible repeat (first | refine blk_drewN ?_ _ | refine blk_drew ?_ | refine blk_alloc ?_ _)); refine blk_put (cs := #[.int .i64 0, .string (⟨#[]⟩ : ByteArray), .string (⟨#[]⟩ : ByteArray), .string (⟨#[]⟩ : ByteArray), .bool false]) ?_ 0 _ rfl; (with_reducible repeat (first | refine blk_drewN ?_ _ | refine blk_drew ?_ | refine blk_alloc ?_ _)); exact BK188.out) hb); have n2_ := Aside0.mk (below_step (by repeat (first | (with_reducible first | exact HB.out | apply below_alloc | apply pw_below_drewN | apply below_drew1 | refine below_set ?_ GE181.out | refine below_set ?_ GE188.out) | exact HB.out)) hb); clear BK181; clear BK188; clear HB; have BK181 := n0_; have BK188 := n1_; have HB := n2_; clear n0_ n1_ n2_; (try clear hb); (try clear hb2); (try clear hk); (try clear hi)) | ((with_reducible refine gate_dst (N := 5) rfl ?_); refine box_event ?hg (N := 5) ?hd (cs := #[.int .i64 0, .string (⟨#[]⟩ : ByteArray), .string (⟨#[]⟩ : ByteArray), .string (⟨#[]⟩ : ByteArray), .bool false]) (t := 27) ?hr ?_; (case hd => rfl); (case hg => rfl); (case hr => first | (go_simp; done) | (go_simp; rfl)); intro gb195 hg w35 hbox hb; have n0_ := Aside0.mk (blk_below (g := gb181) (o := .cells #[.int .i64 t175, .string t176, .string t177, .string t178, .bool true] 27 (0, 0)) (by (with_reducible repeat (first | refine blk_drewN ?_ _ | refine blk_drew ?_ | refine blk_alloc ?_ _)); exact BK181.out) hb); have n1_ := Aside0.mk (blk_below (g := gb188) (o := .cells #[.int .i64 t182, .string t183, .string t184, .string t185, .bool t186] 27 (0, 0)) (by (with_reducible repeat (first | refine blk_drewN ?_ _ | refine blk_drew ?_ | refine blk_alloc ?_ _)); exact BK188.out) hb); have n2_ := Aside0.mk (below_step (by repeat (first | (with_reducible first | exact HB.out | apply below_alloc | apply pw_below_drewN | apply below_drew1 | refine below_set ?_ GE181.out | refine below_set ?_ GE188.out) | exact HB.out)) hb); have n3_ := Aside0.mk (hbox); have n4_ := Aside0.mk ((by rw [hg]; exact (below_size (by repeat (first | (with_reducible first | exact HB.out | apply below_alloc | apply pw_below_drewN | apply below_drew1 | refine below_set ?_ GE181.out | refine below_set ?_ GE188.out) | exact HB.out))) : w.heap.size ≤ gb195)); have n5_ := Aside0.mk ((by rw [hg]; exact (below_size (by repeat (first | (with_reducible first | exact HB.out | apply below_alloc | apply pw_below_drewN | apply below_drew1 | refine below_set ?_ GE181.out | refine below_set ?_ GE188.out) | exact HB.out))) : w.heap.size ≤ gb195)); have n6_ := Aside0.mk ((by rw [hg]; exact Nat.ne_of_lt (blk_lt (g := gb181) (o := .cells #[.int .i64 t175, .string t176, .string t177, .string t178, .bool true] 27 (0, 0)) (by (with_reducible repeat (first | refine blk_drewN ?_ _ | refine blk_drew ?_ | refine blk_alloc ?_ _)); exact BK181.out)) : gb181 ≠ gb195)); have n7_ := Aside0.mk ((by rw [hg]; exact Nat.ne_of_gt (blk_lt (g := gb181) (o := .cells #[.int .i64 t175, .string t176, .string t177, .string t178, .bool true] 27 (0, 0)) (by (with_reducible repeat (first | refine blk_drewN ?_ _ | refine blk_drew ?_ | refine blk_alloc ?_ _)); exact BK181.out)) : gb195 ≠ gb181)); have n8_ := Aside0.mk ((by rw [hg]; exact Nat.ne_of_lt (blk_lt (g := gb188) (o := .cells #[.int .i64 t182, .string t183, .string t184, .string t185, .bool t186] 27 (0, 0)) (by (with_reducible repeat (first | refine blk_drewN ?_ _ | refine blk_drew ?_ | refine blk_alloc ?_ _)); exact BK188.out)) : gb188 ≠ gb195)); have n9_ := Aside0.mk ((by rw [hg]; exact Nat.ne_of_gt (blk_lt (g := gb188) (o := .cells #[.int .i64 t182, .string t183, .string t184, .string t185, .bool t186] 27 (0, 0)) (by (with_reducible repeat (first | refine blk_drewN ?_ _ | refine blk_drew ?_ | refine blk_alloc ?_ _)); exact BK188.out)) : gb195 ≠ gb188)); clear BK181; clear BK188; clear HB; have BK181 := n0_; have BK188 := n1_; have HB := n2_; have BK195 := n3_; have GW195 := n4_; have GE195 := n5_; have NB181_195 := n6_; have NB195_181 := n7_; have NB188_195 := n8_; have NB195_188 := n9_; clear n0_ n1_ n2_ n3_ n4_ n5_ n6_ n7_ n8_ n9_; clear hb hbox hg; have hnb36 := NB195_181.out; have hnc36 := NB181_195.out; have hnb37 := NB195_188.out; have hnc37 := NB188_195.out; have hcz38_0 : w35.cell? ⟨gb195, 0, none⟩ = some (.int .i64 0) := (blk_cell BK195.out 0).trans rfl; have hcz38_1 : w35.cell? ⟨gb195, 1, none⟩ = some (.string (⟨#[]⟩ : ByteArray)) := (blk_cell BK195.out 1).trans rfl; have hcz38_2 : w35.cell? ⟨gb195, 2, none⟩ = some (.string (⟨#[]⟩ : ByteArray)) := (blk_cell BK195.out 2).trans rfl; have hcz38_3 : w35.cell? ⟨gb195, 3, none⟩ = some (.string (⟨#[]⟩ : ByteArray)) := (blk_cell BK195.out 3).trans rfl; have hcz38_4 : w35.cell? ⟨gb195, 4, none⟩ = some (.bool false) := (blk_cell BK195.out 4).trans rfl; have hfz38_0 := blk_frozen BK195.out 0; have hfz38_1 := blk_frozen BK195.out 1; have hfz38_2 := blk_frozen BK195.out 2; have hfz38_3 := blk_frozen BK195.out 3; have hfz38_4 := blk_frozen BK195.out 4) | ((with_reducible refine gate_callee (f := 9) rfl ?_); refine goesL_ (some 22) rfl rfl Try.func9 (by kernel_rfl) rfl #[.string (⟨#[79, 80, 84, 73, 79, 78, 83]⟩ : ByteArray), .string (⟨#[42]⟩ : ByteArray)] rfl (by (try simp only [List.map_toArray, List.map_cons, List.map_nil]); first | done | rfl | (simp only [List.length_drop, List.length_take]; rfl)) ?_; (with_reducible refine (target_Parse.calls k (⟨#[79, 80, 84, 73, 79, 78, 83]⟩ : ByteArray) (⟨#[42]⟩ : ByteArray) t196 t197 t198 t199 t200 t201 _ A4.out).mono ?_); rintro e w39 ⟨rfl, hb⟩; refine ⟨_, rfl, ?_⟩; have n0_ := Aside0.mk (blk_below (g := gb181) (o := .cells #[.int .i64 t175, .string t176, .string t177, .string t178, .bool true] 27 (0, 0)) (by (with_reducible repeat (first | refine blk_drewN ?_ _ | refine blk_drew ?_ | refine blk_alloc ?_ _)); refine blk_far ?_ NB181_195.out _; (with_reducible repeat (first | refine blk_drewN ?_ _ | refine blk_drew ?_ | refine blk_alloc ?_ _)); refine blk_far ?_ NB181_195.out _; (with_reducible repeat (first | refine blk_drewN ?_ _ | refine blk_drew ?_ | refine blk_alloc ?_ _)); refine blk_far ?_ NB181_195.out _; (with_reducible repeat (first | refine blk_drewN ?_ _ | refine blk_drew ?_ | refine blk_alloc ?_ _)); refine blk_far ?_ NB181_195.out _; (with_reducible repeat (first | refine blk_drewN ?_ _ | refine blk_drew ?_ | refine blk_alloc ?_ _)); refine blk_far ?_ NB181_195.out _; (with_reducible repeat (first | refine blk_drewN ?_ _ | refine blk_drew ?_ | refine blk_alloc ?_ _)); exact BK181.out) hb); have n1_ := Aside0.mk (blk_below (g := gb188) (o := .cells #[.int .i64 t182, .string t183, .string t184, .string t185, .bool t186] 27 (0, 0)) (by (with_reducible repeat (first | refine blk_drewN ?_ _ | refine blk_drew ?_ | refine blk_alloc ?_ _)); refine blk_far ?_ NB188_195.out _; (with_reducible repeat (first | refine blk_drewN ?_ _ | refine blk_drew ?_ | refine blk_alloc ?_ _)); refine blk_far ?_ NB188_195.out _; (with_reducible repeat (first | refine blk_drewN ?_ _ | refine blk_drew ?_ | refine blk_alloc ?_ _)); refine blk_far ?_ NB188_195.out _; (with_reducible repeat (first | refine blk_drewN ?_ _ | refine blk_drew ?_ | refine blk_alloc ?_ _)); refine blk_far ?_ NB188_195.out _; (with_reducible repeat (first | refine blk_drewN ?_ _ | refine blk_drew ?_ | refine blk_alloc ?_ _)); refine blk_far ?_ NB188_195.out _; (with_reducible repeat (first | refine blk_drewN ?_ _ | refine blk_drew ?_ | refine blk_alloc ?_ _)); exact BK188.out) hb); have n2_ := Aside0.mk (blk_below (g := gb195) (o := .cells #[.int .i64 t189, .string t190, .string t191, .string t192, .bool t193] 27 (0, 0)) (by (with_reducible repeat (first | refine blk_drewN ?_ _ | refine blk_drew ?_ | refine blk_alloc ?_ _)); refine blk_put (cs := #[.int .i64 t189, .string t190, .string t191, .string t192, .bool false]) ?_ 4 _ rfl; (with_reducible repeat (first | refine blk_drewN ?_ _ | refine blk_drew ?_ | refine blk_alloc ?_ _)); refine blk_put (cs := #[.int .i64 t189, .string t190, .string t191, .string (⟨#[]⟩ : ByteArray), .bool false]) ?_ 3 _ rfl; (with_reducible repeat (first | refine blk_drewN ?_ _ | refine blk_drew ?_ | refine blk_alloc ?_ _)); refine blk_put (cs := #[.int .i64 t189, .string t190, .string (⟨#[]⟩ : ByteArray), .string (⟨#[]⟩ : ByteArray), .bool false]) ?_ 2 _ rfl; (with_reducible repeat (first | refine blk_drewN ?_ _ | refine blk_drew ?_ | refine blk_alloc ?_ _)); refine blk_put (cs := #[.int .i64 t189, .string (⟨#[]⟩ : ByteArray), .string (⟨#[]⟩ : ByteArray), .string (⟨#[]⟩ : ByteArray), .bool false]) ?_ 1 _ rfl; (with_reducible repeat (first | refine blk_drewN ?_ _ | refine blk_drew ?_ | refine blk_alloc ?_ _)); refine blk_put (cs := #[.int .i64 0, .string (⟨#[]⟩ : ByteArray), .string (⟨#[]⟩ : ByteArray), .string (⟨#[]⟩ : ByteArray), .bool false]) ?_ 0 _ rfl; (with_reducible repeat (first | refine blk_drewN ?_ _ | refine blk_drew ?_ | refine blk_alloc ?_ _)); exact BK195.out) hb); have n3_ := Aside0.mk (below_step (by repeat (first | (with_reducible first | exact HB.out | apply below_alloc | apply pw_below_drewN | apply below_drew1 | refine below_set ?_ GE181.out | refine below_set ?_ GE188.out | refine below_set ?_ GE195.out) | exact HB.out)) hb); clear BK181; clear BK188; clear BK195; clear HB; have BK181 := n0_; have BK188 := n1_; have BK195 := n2_; have HB := n3_; clear n0_ n1_ n2_ n3_; (try clear hb); (try clear hb2); (try clear hk); (try clear hi)) | ((with_reducible refine gate_dst (N := 7) rfl ?_); refine box_event ?hg (N := 7) ?hd (cs := #[.int .i64 0, .string (⟨#[]⟩ : ByteArray), .string (⟨#[]⟩ : ByteArray), .string (⟨#[]⟩ : ByteArray), .bool false]) (t := 27) ?hr ?_; (case hd => rfl); (case hg => rfl); (case hr => first | (go_simp; done) | (go_simp; rfl)); intro gb202 hg w40 hbox hb; have n0_ := Aside0.mk (blk_below (g := gb181) (o := .cells #[.int .i64 t175, .string t176, .string t177, .string t178, .bool true] 27 (0, 0)) (by (with_reducible repeat (first | refine blk_drewN ?_ _ | refine blk_drew ?_ | refine blk_alloc ?_ _)); exact BK181.out) hb); have n1_ := Aside0.mk (blk_below (g := gb188) (o := .cells #[.int .i64 t182, .string t183, .string t184, .string t185, .bool t186] 27 (0, 0)) (by (with_reducible repeat (first | refine blk_drewN ?_ _ | refine blk_drew ?_ | refine blk_alloc ?_ _)); exact BK188.out) hb); have n2_ := Aside0.mk (blk_below (g := gb195) (o := .cells #[.int .i64 t189, .string t190, .string t191, .string t192, .bool t193] 27 (0, 0)) (by (with_reducible repeat (first | refine blk_drewN ?_ _ | refine blk_drew ?_ | refine blk_alloc ?_ _)); exact BK195.out) hb); have n3_ := Aside0.mk (below_step (by repeat (first | (with_reducible first | exact HB.out | apply below_alloc | apply pw_below_drewN | apply below_drew1 | refine below_set ?_ GE181.out | refine below_set ?_ GE188.out | refine below_set ?_ GE195.out) | exact HB.out)) hb); have n4_ := Aside0.mk (hbox); have n5_ := Aside0.mk ((by rw [hg]; exact (below_size (by repeat (first | (with_reducible first | exact HB.out | apply below_alloc | apply pw_below_drewN | apply below_drew1 | refine below_set ?_ GE181.out | refine below_set ?_ GE188.out | refine below_set ?_ GE195.out) | exact HB.out))) : w.heap.size ≤ gb202)); have n6_ := Aside0.mk ((by rw [hg]; exact (below_size (by repeat (first | (with_reducible first | exact HB.out | apply below_alloc | apply pw_below_drewN | apply below_drew1 | refine below_set ?_ GE181.out | refine below_set ?_ GE188.out | refine below_set ?_ GE195.out) | exact HB.out))) : w.heap.size ≤ gb202)); have n7_ := Aside0.mk ((by rw [hg]; exact Nat.ne_of_lt (blk_lt (g := gb181) (o := .cells #[.int .i64 t175, .string t176, .string t177, .string t178, .bool true] 27 (0, 0)) (by (with_reducible repeat (first | refine blk_drewN ?_ _ | refine blk_drew ?_ | refine blk_alloc ?_ _)); exact BK181.out)) : gb181 ≠ gb202)); have n8_ := Aside0.mk ((by rw [hg]; exact Nat.ne_of_gt (blk_lt (g := gb181) (o := .cells #[.int .i64 t175, .string t176, .string t177, .string t178, .bool true] 27 (0, 0)) (by (with_reducible repeat (first | refine blk_drewN ?_ _ | refine blk_drew ?_ | refine blk_alloc ?_ _)); exact BK181.out)) : gb202 ≠ gb181)); have n9_ := Aside0.mk ((by rw [hg]; exact Nat.ne_of_lt (blk_lt (g := gb188) (o := .cells #[.int .i64 t182, .string t183, .string t184, .string t185, .bool t186] 27 (0, 0)) (by (with_reducible repeat (first | refine blk_drewN ?_ _ | refine blk_drew ?_ | refine blk_alloc ?_ _)); exact BK188.out)) : gb188 ≠ gb202)); have n10_ := Aside0.mk ((by rw [hg]; exact Nat.ne_of_gt (blk_lt (g := gb188) (o := .cells #[.int .i64 t182, .string t183, .string t184, .string t185, .bool t186] 27 (0, 0)) (by (with_reducible repeat (first | refine blk_drewN ?_ _ | refine blk_drew ?_ | refine blk_alloc ?_ _)); exact BK188.out)) : gb202 ≠ gb188)); have n11_ := Aside0.mk ((by rw [hg]; exact Nat.ne_of_lt (blk_lt (g := gb195) (o := .cells #[.int .i64 t189, .string t190, .string t191, .string t192, .bool t193] 27 (0, 0)) (by (with_reducible repeat (first | refine blk_drewN ?_ _ | refine blk_drew ?_ | refine blk_alloc ?_ _)); exact BK195.out)) : gb195 ≠ gb202)); have n12_ := Aside0.mk ((by rw [hg]; exact Nat.ne_of_gt (blk_lt (g := gb195) (o := .cells #[.int .i64 t189, .string t190, .string t191, .string t192, .bool t193] 27 (0, 0)) (by (with_reducible repeat (first | refine blk_drewN ?_ _ | refine blk_drew ?_ | refine blk_alloc ?_ _)); exact BK195.out)) : gb202 ≠ gb195)); clear BK181; clear BK188; clear BK195; clear HB; have BK181 := n0_; have BK188 := n1_; have BK195 := n2_; have HB := n3_; have BK202 := n4_; have GW202 := n5_; have GE202 := n6_; have NB181_202 := n7_; have NB202_181 := n8_; have NB188_202 := n9_; have NB202_188 := n10_; have NB195_202 := n11_; have NB202_195 := n12_; clear n0_ n1_ n2_ n3_ n4_ n5_ n6_ n7_ n8_ n9_ n10_ n11_ n12_; clear hb hbox hg; have hnb41 := NB202_181.out; have hnc41 := NB181_202.out; have hnb42 := NB202_188.out; have hnc42 := NB188_202.out; have hnb43 := NB202_195.out; have hnc43 := NB195_202.out; have hcz44_0 : w40.cell? ⟨gb202, 0, none⟩ = some (.int .i64 0) := (blk_cell BK202.out 0).trans rfl; have hcz44_1 : w40.cell? ⟨gb202, 1, none⟩ = some (.string (⟨#[]⟩ : ByteArray)) := (blk_cell BK202.out 1).trans rfl; have hcz44_2 : w40.cell? ⟨gb202, 2, none⟩ = some (.string (⟨#[]⟩ : ByteArray)) := (blk_cell BK202.out 2).trans rfl; have hcz44_3 : w40.cell? ⟨gb202, 3, none⟩ = some (.string (⟨#[]⟩ : ByteArray)) := (blk_cell BK202.out 3).trans rfl; have hcz44_4 : w40.cell? ⟨gb202, 4, none⟩ = some (.bool false) := (blk_cell BK202.out 4).trans rfl; have hfz44_0 := blk_frozen BK202.out 0; have hfz44_1 := blk_frozen BK202.out 1; have hfz44_2 := blk_frozen BK202.out 2; have hfz44_3 := blk_frozen BK202.out 3; have hfz44_4 := blk_frozen BK202.out 4; have hcz45_0 : w40.cell? ⟨gb181, 0, none⟩ = some (.int .i64 t175) := (blk_cell BK181.out 0).trans rfl; have hcz45_1 : w40.cell? ⟨gb181, 1, none⟩ = some (.string t176) := (blk_cell BK181.out 1).trans rfl; have hcz45_2 : w40.cell? ⟨gb181, 2, none⟩ = some (.string t177) := (blk_cell BK181.out 2).trans rfl; have hcz45_3 : w40.cell? ⟨gb181, 3, none⟩ = some (.string t178) := (blk_cell BK181.out 3).trans rfl; have hcz45_4 : w40.cell? ⟨gb181, 4, none⟩ = some (.bool true) := (blk_cell BK181.out 4).trans rfl; have hfz45_0 := blk_frozen BK181.out 0; have hfz45_1 := blk_frozen BK181.out 1; have hfz45_2 := blk_frozen BK181.out 2; have hfz45_3 := blk_frozen BK181.out 3; have hfz45_4 := blk_frozen BK181.out 4; have hcz46_0 : w40.cell? ⟨gb188, 0, none⟩ = some (.int .i64 t182) := (blk_cell BK188.out 0).trans rfl; have hcz46_1 : w40.cell? ⟨gb188, 1, none⟩ = some (.string t183) := (blk_cell BK188.out 1).trans rfl; have hcz46_2 : w40.cell? ⟨gb188, 2, none⟩ = some (.string t184) := (blk_cell BK188.out 2).trans rfl; have hcz46_3 : w40.cell? ⟨gb188, 3, none⟩ = some (.string t185) := (blk_cell BK188.out 3).trans rfl; have hcz46_4 : w40.cell? ⟨gb188, 4, none⟩ = some (.bool t186) := (blk_cell BK188.out 4).trans rfl; have hfz46_0 := blk_frozen BK188.out 0; have hfz46_1 := blk_frozen BK188.out 1; have hfz46_2 := blk_frozen BK188.out 2; have hfz46_3 := blk_frozen BK188.out 3; have hfz46_4 := blk_frozen BK188.out 4) | (go_at_call 13; (with_reducible refine (target_Host.calls k (⟨#[97, 46, 98, 58, 56, 48]⟩ : ByteArray) true _ A16.out).mono ?_); rintro e w47 ⟨rfl, hb⟩; have n0_ := Aside0.mk (blk_below (g := gb181) (o := .cells #[.int .i64 t175, .string t176, .string t177, .string t178, .bool true] 27 (0, 0)) (by (with_reducible repeat (first | refine blk_drewN ?_ _ | refine blk_drew ?_ | refine blk_alloc ?_ _)); refine blk_far ?_ NB181_202.out _; (with_reducible repeat (first | refine blk_drewN ?_ _ | refine blk_drew ?_ | refine blk_alloc ?_ _)); refine blk_far ?_ NB181_202.out _; (with_reducible repeat (first | refine blk_drewN ?_ _ | refine blk_drew ?_ | refine blk_alloc ?_ _)); refine blk_far ?_ NB181_202.out _; (with_reducible repeat (first | refine blk_drewN ?_ _ | refine blk_drew ?_ | refine blk_alloc ?_ _)); refine blk_far ?_ NB181_202.out _; (with_reducible repeat (first | refine blk_drewN ?_ _ | refine blk_drew ?_ | refine blk_alloc ?_ _)); refine blk_far ?_ NB181_202.out _; (with_reducible repeat (first | refine blk_drewN ?_ _ | refine blk_drew ?_ | refine blk_alloc ?_ _)); exact BK181.out) hb); have n1_ := Aside0.mk (blk_below (g := gb188) (o := .cells #[.int .i64 t182, .string t183, .string t184, .string t185, .bool t186] 27 (0, 0)) (by (with_reducible repeat (first | refine blk_drewN ?_ _ | refine blk_drew ?_ | refine blk_alloc ?_ _)); refine blk_far ?_ NB188_202.out _; (with_reducible repeat (first | refine blk_drewN ?_ _ | refine blk_drew ?_ | refine blk_alloc ?_ _)); refine blk_far ?_ NB188_202.out _; (with_reducible repeat (first | refine blk_drewN ?_ _ | refine blk_drew ?_ | refine blk_alloc ?_ _)); refine blk_far ?_ NB188_202.out _; (with_reducible repeat (first | refine blk_drewN ?_ _ | refine blk_drew ?_ | refine blk_alloc ?_ _)); refine blk_far ?_ NB188_202.out _; (with_reducible repeat (first | refine blk_drewN ?_ _ | refine blk_drew ?_ | refine blk_alloc ?_ _)); refine blk_far ?_ NB188_202.out _; (with_reducible repeat (first | refine blk_drewN ?_ _ | refine blk_drew ?_ | refine blk_alloc ?_ _)); exact BK188.out) hb); have n2_ := Aside0.mk (blk_below (g := gb195) (o := .cells #[.int .i64 t189, .string t190, .string t191, .string t192, .bool t193] 27 (0, 0)) (by (with_reducible repeat (first | refine blk_drewN ?_ _ | refine blk_drew ?_ | refine blk_alloc ?_ _)); refine blk_far ?_ NB195_202.out _; (with_reducible repeat (first | refine blk_drewN ?_ _ | refine blk_drew ?_ | refine blk_alloc ?_ _)); refine blk_far ?_ NB195_202.out _; (with_reducible repeat (first | refine blk_drewN ?_ _ | refine blk_drew ?_ | refine blk_alloc ?_ _)); refine blk_far ?_ NB195_202.out _; (with_reducible repeat (first | refine blk_drewN ?_ _ | refine blk_drew ?_ | refine blk_alloc ?_ _)); refine blk_far ?_ NB195_202.out _; (with_reducible repeat (first | refine blk_drewN ?_ _ | refine blk_drew ?_ | refine blk_alloc ?_ _)); refine blk_far ?_ NB195_202.out _; (with_reducible repeat (first | refine blk_drewN ?_ _ | refine blk_drew ?_ | refine blk_alloc ?_ _)); exact BK195.out) hb); have n3_ := Aside0.mk (blk_below (g := gb202) (o := .cells #[.int .i64 t196, .string t197, .string t198, .string t199, .bool t200] 27 (0, 0)) (by (with_reducible repeat (first | refine blk_drewN ?_ _ | refine blk_drew ?_ | refine blk_alloc ?_ _)); refine blk_put (cs := #[.int .i64 t196, .string t197, .string t198, .string t199, .bool false]) ?_ 4 _ rfl; (with_reducible repeat (first | refine blk_drewN ?_ _ | refine blk_drew ?_ | refine blk_alloc ?_ _)); refine blk_put (cs := #[.int .i64 t196, .string t197, .string t198, .string (⟨#[]⟩ : ByteArray), .bool false]) ?_ 3 _ rfl; (with_reducible repeat (first | refine blk_drewN ?_ _ | refine blk_drew ?_ | refine blk_alloc ?_ _)); refine blk_put (cs := #[.int .i64 t196, .string t197, .string (⟨#[]⟩ : ByteArray), .string (⟨#[]⟩ : ByteArray), .bool false]) ?_ 2 _ rfl; (with_reducible repeat (first | refine blk_drewN ?_ _ | refine blk_drew ?_ | refine blk_alloc ?_ _)); refine blk_put (cs := #[.int .i64 t196, .string (⟨#[]⟩ : ByteArray), .string (⟨#[]⟩ : ByteArray), .string (⟨#[]⟩ : ByteArray), .bool false]) ?_ 1 _ rfl; (with_reducible repeat (first | refine blk_drewN ?_ _ | refine blk_drew ?_ | refine blk_alloc ?_ _)); refine blk_put (cs := #[.int .i64 0, .string (⟨#[]⟩ : ByteArray), .string (⟨#[]⟩ : ByteArray), .string (⟨#[]⟩ : ByteArray), .bool false]) ?_ 0 _ rfl; (with_reducible repeat (first | refine blk_drewN ?_ _ | refine blk_drew ?_ | refine blk_alloc ?_ _)); exact BK202.out) hb); have n4_ := Aside0.mk (below_step (by repeat (first | (with_reducible first | exact HB.out | apply below_alloc | apply pw_below_drewN | apply below_drew1 | refine below_set ?_ GE181.out | refine below_set ?_ GE188.out | refine below_set ?_ GE195.out | refine below_set ?_ GE202.out) | exact HB.out)) hb); clear BK181; clear BK188; clear BK195; clear BK202; clear HB; have BK181 := n0_; have BK188 := n1_; have BK195 := n2_; have BK202 := n3_; have HB := n4_; clear n0_ n1_ n2_ n3_ n4_; (try clear hb); (try clear hb2); (try clear hk); (try clear hi)) | (go_at_call 13; (with_reducible refine (target_Host.calls k (⟨#[97, 58]⟩ : ByteArray) false _ A18.out).mono ?_); rintro e w48 ⟨rfl, hb⟩; have n0_ := Aside0.mk (blk_below (g := gb181) (o := .cells #[.int .i64 t175, .string t176, .string t177, .string t178, .bool true] 27 (0, 0)) (by (with_reducible repeat (first | refine blk_drewN ?_ _ | refine blk_drew ?_ | refine blk_alloc ?_ _)); exact BK181.out) hb); have n1_ := Aside0.mk (blk_below (g := gb188) (o := .cells #[.int .i64 t182, .string t183, .string t184, .string t185, .bool t186] 27 (0, 0)) (by (with_reducible repeat (first | refine blk_drewN ?_ _ | refine blk_drew ?_ | refine blk_alloc ?_ _)); exact BK188.out) hb); have n2_ := Aside0.mk (blk_below (g := gb195) (o := .cells #[.int .i64 t189, .string t190, .string t191, .string t192, .bool t193] 27 (0, 0)) (by (with_reducible repeat (first | refine blk_drewN ?_ _ | refine blk_drew ?_ | refine blk_alloc ?_ _)); exact BK195.out) hb); have n3_ := Aside0.mk (blk_below (g := gb202) (o := .cells #[.int .i64 t196, .string t197, .string t198, .string t199, .bool t200] 27 (0, 0)) (by (with_reducible repeat (first | refine blk_drewN ?_ _ | refine blk_drew ?_ | refine blk_alloc ?_ _)); exact BK202.out) hb); have n4_ := Aside0.mk (below_step (by repeat (first | (with_reducible first | exact HB.out | apply below_alloc | apply pw_below_drewN | apply below_drew1 | refine below_set ?_ GE181.out | refine below_set ?_ GE188.out | refine below_set ?_ GE195.out | refine below_set ?_ GE202.out) | exact HB.out)) hb); clear BK181; clear BK188; clear BK195; clear BK202; clear HB; have BK181 := n0_; have BK188 := n1_; have BK195 := n2_; have BK202 := n3_; have HB := n4_; clear n0_ n1_ n2_ n3_ n4_; (try clear hb); (try clear hb2); (try clear hk); (try clear hi)) | (go_at_call 15; (with_reducible refine (target_Path.calls k (⟨#[47, 37, 52, 49]⟩ : ByteArray) true _ A20.out).mono ?_); rintro e w49 ⟨rfl, hb⟩; have n0_ := Aside0.mk (blk_below (g := gb181) (o := .cells #[.int .i64 t175, .string t176, .string t177, .string t178, .bool true] 27 (0, 0)) (by (with_reducible repeat (first | refine blk_drewN ?_ _ | refine blk_drew ?_ | refine blk_alloc ?_ _)); exact BK181.out) hb); have n1_ := Aside0.mk (blk_below (g := gb188) (o := .cells #[.int .i64 t182, .string t183, .string t184, .string t185, .bool t186] 27 (0, 0)) (by (with_reducible repeat (first | refine blk_drewN ?_ _ | refine blk_drew ?_ | refine blk_alloc ?_ _)); exact BK188.out) hb); have n2_ := Aside0.mk (blk_below (g := gb195) (o := .cells #[.int .i64 t189, .string t190, .string t191, .string t192, .bool t193] 27 (0, 0)) (by (with_reducible repeat (first | refine blk_drewN ?_ _ | refine blk_drew ?_ | refine blk_alloc ?_ _)); exact BK195.out) hb); have n3_ := Aside0.mk (blk_below (g := gb202) (o := .cells #[.int .i64 t196, .string t197, .string t198, .string t199, .bool t200] 27 (0, 0)) (by (with_reducible repeat (first | refine blk_drewN ?_ _ | refine blk_drew ?_ | refine blk_alloc ?_ _)); exact BK202.out) hb); have n4_ := Aside0.mk (below_step (by repeat (first | (with_reducible first | exact HB.out | apply below_alloc | apply pw_below_drewN | apply below_drew1 | refine below_set ?_ GE181.out | refine below_set ?_ GE188.out | refine below_set ?_ GE195.out | refine below_set ?_ GE202.out) | exact HB.out)) hb); clear BK181; clear BK188; clear BK195; clear BK202; clear HB; have BK181 := n0_; have BK188 := n1_; have BK195 := n2_; have BK202 := n3_; have HB := n4_; clear n0_ n1_ n2_ n3_ n4_; (try clear hb); (try clear hb2); (try clear hk); (try clear hi)) | (go_at_call 15; (with_reducible refine (target_Path.calls k (⟨#[47, 37, 52]⟩ : ByteArray) false _ A22.out).mono ?_); rintro e w50 ⟨rfl, hb⟩; have n0_ := Aside0.mk (blk_below (g := gb181) (o := .cells #[.int .i64 t175, .string t176, .string t177, .string t178, .bool true] 27 (0, 0)) (by (with_reducible repeat (first | refine blk_drewN ?_ _ | refine blk_drew ?_ | refine blk_alloc ?_ _)); exact BK181.out) hb); have n1_ := Aside0.mk (blk_below (g := gb188) (o := .cells #[.int .i64 t182, .string t183, .string t184, .string t185, .bool t186] 27 (0, 0)) (by (with_reducible repeat (first | refine blk_drewN ?_ _ | refine blk_drew ?_ | refine blk_alloc ?_ _)); exact BK188.out) hb); have n2_ := Aside0.mk (blk_below (g := gb195) (o := .cells #[.int .i64 t189, .string t190, .string t191, .string t192, .bool t193] 27 (0, 0)) (by (with_reducible repeat (first | refine blk_drewN ?_ _ | refine blk_drew ?_ | refine blk_alloc ?_ _)); exact BK195.out) hb); have n3_ := Aside0.mk (blk_below (g := gb202) (o := .cells #[.int .i64 t196, .string t197, .string t198, .string t199, .bool t200] 27 (0, 0)) (by (with_reducible repeat (first | refine blk_drewN ?_ _ | refine blk_drew ?_ | refine blk_alloc ?_ _)); exact BK202.out) hb); have n4_ := Aside0.mk (below_step (by repeat (first | (with_reducible first | exact HB.out | apply below_alloc | apply pw_below_drewN | apply below_drew1 | refine below_set ?_ GE181.out | refine below_set ?_ GE188.out | refine below_set ?_ GE195.out | refine below_set ?_ GE202.out) | exact HB.out)) hb); clear BK181; clear BK188; clear BK195; clear BK202; clear HB; have BK181 := n0_; have BK188 := n1_; have BK195 := n2_; have BK202 := n3_; have HB := n4_; clear n0_ n1_ n2_ n3_ n4_; (try clear hb); (try clear hb2); (try clear hk); (try clear hi)) | (go_at_call 17; (with_reducible refine (target_Query.calls k (⟨#[97, 63, 98]⟩ : ByteArray) true _ A24.out).mono ?_); rintro e w51 ⟨rfl, hb⟩; have n0_ := Aside0.mk (blk_below (g := gb181) (o := .cells #[.int .i64 t175, .string t176, .string t177, .string t178, .bool true] 27 (0, 0)) (by (with_reducible repeat (first | refine blk_drewN ?_ _ | refine blk_drew ?_ | refine blk_alloc ?_ _)); exact BK181.out) hb); have n1_ := Aside0.mk (blk_below (g := gb188) (o := .cells #[.int .i64 t182, .string t183, .string t184, .string t185, .bool t186] 27 (0, 0)) (by (with_reducible repeat (first | refine blk_drewN ?_ _ | refine blk_drew ?_ | refine blk_alloc ?_ _)); exact BK188.out) hb); have n2_ := Aside0.mk (blk_below (g := gb195) (o := .cells #[.int .i64 t189, .string t190, .string t191, .string t192, .bool t193] 27 (0, 0)) (by (with_reducible repeat (first | refine blk_drewN ?_ _ | refine blk_drew ?_ | refine blk_alloc ?_ _)); exact BK195.out) hb); have n3_ := Aside0.mk (blk_below (g := gb202) (o := .cells #[.int .i64 t196, .string t197, .string t198, .string t199, .bool t200] 27 (0, 0)) (by (with_reducible repeat (first | refine blk_drewN ?_ _ | refine blk_drew ?_ | refine blk_alloc ?_ _)); exact BK202.out) hb); have n4_ := Aside0.mk (below_step (by repeat (first | (with_reducible first | exact HB.out | apply below_alloc | apply pw_below_drewN | apply below_drew1 | refine below_set ?_ GE181.out | refine below_set ?_ GE188.out | refine below_set ?_ GE195.out | refine below_set ?_ GE202.out) | exact HB.out)) hb); clear BK181; clear BK188; clear BK195; clear BK202; clear HB; have BK181 := n0_; have BK188 := n1_; have BK195 := n2_; have BK202 := n3_; have HB := n4_; clear n0_ n1_ n2_ n3_ n4_; (try clear hb); (try clear hb2); (try clear hk); (try clear hi); have hcz52_0 : w51.cell? ⟨gb181, 0, none⟩ = some (.int .i64 t175) := (blk_cell BK181.out 0).trans rfl; have hcz52_1 : w51.cell? ⟨gb181, 1, none⟩ = some (.string t176) := (blk_cell BK181.out 1).trans rfl; have hcz52_2 : w51.cell? ⟨gb181, 2, none⟩ = some (.string t177) := (blk_cell BK181.out 2).trans rfl; have hcz52_3 : w51.cell? ⟨gb181, 3, none⟩ = some (.string t178) := (blk_cell BK181.out 3).trans rfl; have hcz52_4 : w51.cell? ⟨gb181, 4, none⟩ = some (.bool true) := (blk_cell BK181.out 4).trans rfl; have hfz52_0 := blk_frozen BK181.out 0; have hfz52_1 := blk_frozen BK181.out 1; have hfz52_2 := blk_frozen BK181.out 2; have hfz52_3 := blk_frozen BK181.out 3; have hfz52_4 := blk_frozen BK181.out 4) | (go_at_call 11; (with_reducible refine (target_Put.calls k t175 t176 t177 t178 true t208 _ A26.out).mono ?_); rintro e w53 ⟨rfl, hb⟩; have n0_ := Aside0.mk (blk_below (g := gb181) (o := .cells #[.int .i64 t175, .string t176, .string t177, .string t178, .bool true] 27 (0, 0)) (by (with_reducible repeat (first | refine blk_drewN ?_ _ | refine blk_drew ?_ | refine blk_alloc ?_ _)); exact BK181.out) hb); have n1_ := Aside0.mk (blk_below (g := gb188) (o := .cells #[.int .i64 t182, .string t183, .string t184, .string t185, .bool t186] 27 (0, 0)) (by (with_reducible repeat (first | refine blk_drewN ?_ _ | refine blk_drew ?_ | refine blk_alloc ?_ _)); exact BK188.out) hb); have n2_ := Aside0.mk (blk_below (g := gb195) (o := .cells #[.int .i64 t189, .string t190, .string t191, .string t192, .bool t193] 27 (0, 0)) (by (with_reducible repeat (first | refine blk_drewN ?_ _ | refine blk_drew ?_ | refine blk_alloc ?_ _)); exact BK195.out) hb); have n3_ := Aside0.mk (blk_below (g := gb202) (o := .cells #[.int .i64 t196, .string t197, .string t198, .string t199, .bool t200] 27 (0, 0)) (by (with_reducible repeat (first | refine blk_drewN ?_ _ | refine blk_drew ?_ | refine blk_alloc ?_ _)); exact BK202.out) hb); have n4_ := Aside0.mk (below_step (by repeat (first | (with_reducible first | exact HB.out | apply below_alloc | apply pw_below_drewN | apply below_drew1 | refine below_set ?_ GE181.out | refine below_set ?_ GE188.out | refine below_set ?_ GE195.out | refine below_set ?_ GE202.out) | exact HB.out)) hb); clear BK181; clear BK188; clear BK195; clear BK202; clear HB; have BK181 := n0_; have BK188 := n1_; have BK195 := n2_; have BK202 := n3_; have HB := n4_; clear n0_ n1_ n2_ n3_ n4_; (try clear hb); (try clear hb2); (try clear hk); (try clear hi)) | (go_at_call 9; (with_reducible refine (target_Parse.calls k (⟨#[71, 69, 84]⟩ : ByteArray) (⟨#[47, 97, 63, 98]⟩ : ByteArray) t175 t176 t177 t178 true t180 _ A1.out).mono ?_); rintro e w27 ⟨rfl, hb⟩; have n0_ := Aside0.mk (below_step (by repeat (first | (with_reducible first | exact HB.out | apply below_alloc | apply pw_below_drewN | apply below_drew1) | exact HB.out)) hb); clear HB; have HB := n0_; clear n0_; (try clear hb); (try clear hb2); (try clear hk); (try clear hi)) | (go_at_call 9; (with_reducible refine (target_Parse.calls k (⟨#[71, 69, 84]⟩ : ByteArray) (⟨#[104, 116, 116, 112, 58, 47, 47, 104, 63, 113]⟩ : ByteArray) t182 t183 t184 t185 t186 t187 _ A2.out).mono ?_); rintro e w30 ⟨rfl, hb⟩; have n0_ := Aside0.mk (blk_below (g := gb181) (o := .cells #[.int .i64 t175, .string t176, .string t177, .string t178, .bool true] 27 (0, 0)) (by (with_reducible repeat (first | refine blk_drewN ?_ _ | refine blk_drew ?_ | refine blk_alloc ?_ _)); refine blk_put (cs := #[.int .i64 t175, .string t176, .string t177, .string t178, .bool false]) ?_ 4 _ rfl; (with_reducible repeat (first | refine blk_drewN ?_ _ | refine blk_drew ?_ | refine blk_alloc ?_ _)); refine blk_put (cs := #[.int .i64 t175, .string t176, .string t177, .string (⟨#[]⟩ : ByteArray), .bool false]) ?_ 3 _ rfl; (with_reducible repeat (first | refine blk_drewN ?_ _ | refine blk_drew ?_ | refine blk_alloc ?_ _)); refine blk_put (cs := #[.int .i64 t175, .string t176, .string (⟨#[]⟩ : ByteArray), .string (⟨#[]⟩ : ByteArray), .bool false]) ?_ 2 _ rfl; (with_reducible repeat (first | refine blk_drewN ?_ _ | refine blk_drew ?_ | refine blk_alloc ?_ _)); refine blk_put (cs := #[.int .i64 t175, .string (⟨#[]⟩ : ByteArray), .string (⟨#[]⟩ : ByteArray), .string (⟨#[]⟩ : ByteArray), .bool false]) ?_ 1 _ rfl; (with_reducible repeat (first | refine blk_drewN ?_ _ | refine blk_drew ?_ | refine blk_alloc ?_ _)); refine blk_put (cs := #[.int .i64 0, .string (⟨#[]⟩ : ByteArray), .string (⟨#[]⟩ : ByteArray), .string (⟨#[]⟩ : ByteArray), .bool false]) ?_ 0 _ rfl; (with_reducible repeat (first | refine blk_drewN ?_ _ | refine blk_drew ?_ | refine blk_alloc ?_ _)); exact BK181.out) hb); have n1_ := Aside0.mk (below_step (by repeat (first | (with_reducible first | exact HB.out | apply below_alloc | apply pw_below_drewN | apply below_drew1 | refine below_set ?_ GE181.out) | exact HB.out)) hb); clear BK181; clear HB; have BK181 := n0_; have HB := n1_; clear n0_ n1_; (try clear hb); (try clear hb2); (try clear hk); (try clear hi)) | (go_at_call 9; (with_reducible refine (target_Parse.calls k (⟨#[71, 69, 84]⟩ : ByteArray) (⟨#[97]⟩ : ByteArray) t189 t190 t191 t192 t193 t194 _ A3.out).mono ?_); rintro e w34 ⟨rfl, hb⟩; have n0_ := Aside0.mk (blk_below (g := gb181) (o := .cells #[.int .i64 t175, .string t176, .string t177, .string t178, .bool true] 27 (0, 0)) (by (with_reducible repeat (first | refine blk_drewN ?_ _ | refine blk_drew ?_ | refine blk_alloc ?_ _)); refine blk_far ?_ NB181_188.out _; (with_reducible repeat (first | refine blk_drewN ?_ _ | refine blk_drew ?_ | refine blk_alloc ?_ _)); refine blk_far ?_ NB181_188.out _; (with_reducible repeat (first | refine blk_drewN ?_ _ | refine blk_drew ?_ | refine blk_alloc ?_ _)); refine blk_far ?_ NB181_188.out _; (with_reducible repeat (first | refine blk_drewN ?_ _ | refine blk_drew ?_ | refine blk_alloc ?_ _)); refine blk_far ?_ NB181_188.out _; (with_reducible repeat (first | refine blk_drewN ?_ _ | refine blk_drew ?_ | refine blk_alloc ?_ _)); refine blk_far ?_ NB181_188.out _; (with_reducible repeat (first | refine blk_drewN ?_ _ | refine blk_drew ?_ | refine blk_alloc ?_ _)); exact BK181.out) hb); have n1_ := Aside0.mk (blk_below (g := gb188) (o := .cells #[.int .i64 t182, .string t183, .string t184, .string t185, .bool t186] 27 (0, 0)) (by (with_reducible repeat (first | refine blk_drewN ?_ _ | refine blk_drew ?_ | refine blk_alloc ?_ _)); refine blk_put (cs := #[.int .i64 t182, .string t183, .string t184, .string t185, .bool false]) ?_ 4 _ rfl; (with_reducible repeat (first | refine blk_drewN ?_ _ | refine blk_drew ?_ | refine blk_alloc ?_ _)); refine blk_put (cs := #[.int .i64 t182, .string t183, .string t184, .string (⟨#[]⟩ : ByteArray), .bool false]) ?_ 3 _ rfl; (with_reducible repeat (first | refine blk_drewN ?_ _ | refine blk_drew ?_ | refine blk_alloc ?_ _)); refine blk_put (cs := #[.int .i64 t182, .string t183, .string (⟨#[]⟩ : ByteArray), .string (⟨#[]⟩ : ByteArray), .bool false]) ?_ 2 _ rfl; (with_reducible repeat (first | refine blk_drewN ?_ _ | refine blk_drew ?_ | refine blk_alloc ?_ _)); refine blk_put (cs := #[.int .i64 t182, .string (⟨#[]⟩ : ByteArray), .string (⟨#[]⟩ : ByteArray), .string (⟨#[]⟩ : ByteArray), .bool false]) ?_ 1 _ rfl; (with_reducible repeat (first | refine blk_drewN ?_ _ | refine blk_drew ?_ | refine blk_alloc ?_ _)); refine blk_put (cs := #[.int .i64 0, .string (⟨#[]⟩ : ByteArray), .string (⟨#[]⟩ : ByteArray), .string (⟨#[]⟩ : ByteArray), .bool false]) ?_ 0 _ rfl; (with_reducible repeat (first | refine blk_drewN ?_ _ | refine blk_drew ?_ | refine blk_alloc ?_ _)); exact BK188.out) hb); have n2_ := Aside0.mk (below_step (by repeat (first | (with_reducible first | exact HB.out | apply below_alloc | apply pw_below_drewN | apply below_drew1 | refine below_set ?_ GE181.out | refine below_set ?_ GE188.out) | exact HB.out)) hb); clear BK181; clear BK188; clear HB; have BK181 := n0_; have BK188 := n1_; have HB := n2_; clear n0_ n1_ n2_; (try clear hb); (try clear hb2); (try clear hk); (try clear hi)) | (go_at_call 9; (with_reducible refine (target_Parse.calls k (⟨#[79, 80, 84, 73, 79, 78, 83]⟩ : ByteArray) (⟨#[42]⟩ : ByteArray) t196 t197 t198 t199 t200 t201 _ A4.out).mono ?_); rintro e w39 ⟨rfl, hb⟩; have n0_ := Aside0.mk (blk_below (g := gb181) (o := .cells #[.int .i64 t175, .string t176, .string t177, .string t178, .bool true] 27 (0, 0)) (by (with_reducible repeat (first | refine blk_drewN ?_ _ | refine blk_drew ?_ | refine blk_alloc ?_ _)); refine blk_far ?_ NB181_195.out _; (with_reducible repeat (first | refine blk_drewN ?_ _ | refine blk_drew ?_ | refine blk_alloc ?_ _)); refine blk_far ?_ NB181_195.out _; (with_reducible repeat (first | refine blk_drewN ?_ _ | refine blk_drew ?_ | refine blk_alloc ?_ _)); refine blk_far ?_ NB181_195.out _; (with_reducible repeat (first | refine blk_drewN ?_ _ | refine blk_drew ?_ | refine blk_alloc ?_ _)); refine blk_far ?_ NB181_195.out _; (with_reducible repeat (first | refine blk_drewN ?_ _ | refine blk_drew ?_ | refine blk_alloc ?_ _)); refine blk_far ?_ NB181_195.out _; (with_reducible repeat (first | refine blk_drewN ?_ _ | refine blk_drew ?_ | refine blk_alloc ?_ _)); exact BK181.out) hb); have n1_ := Aside0.mk (blk_below (g := gb188) (o := .cells #[.int .i64 t182, .string t183, .string t184, .string t185, .bool t186] 27 (0, 0)) (by (with_reducible repeat (first | refine blk_drewN ?_ _ | refine blk_drew ?_ | refine blk_alloc ?_ _)); refine blk_far ?_ NB188_195.out _; (with_reducible repeat (first | refine blk_drewN ?_ _ | refine blk_drew ?_ | refine blk_alloc ?_ _)); refine blk_far ?_ NB188_195.out _; (with_reducible repeat (first | refine blk_drewN ?_ _ | refine blk_drew ?_ | refine blk_alloc ?_ _)); refine blk_far ?_ NB188_195.out _; (with_reducible repeat (first | refine blk_drewN ?_ _ | refine blk_drew ?_ | refine blk_alloc ?_ _)); refine blk_far ?_ NB188_195.out _; (with_reducible repeat (first | refine blk_drewN ?_ _ | refine blk_drew ?_ | refine blk_alloc ?_ _)); refine blk_far ?_ NB188_195.out _; (with_reducible repeat (first | refine blk_drewN ?_ _ | refine blk_drew ?_ | refine blk_alloc ?_ _)); exact BK188.out) hb); have n2_ := Aside0.mk (blk_below (g := gb195) (o := .cells #[.int .i64 t189, .string t190, .string t191, .string t192, .bool t193] 27 (0, 0)) (by (with_reducible repeat (first | refine blk_drewN ?_ _ | refine blk_drew ?_ | refine blk_alloc ?_ _)); refine blk_put (cs := #[.int .i64 t189, .string t190, .string t191, .string t192, .bool false]) ?_ 4 _ rfl; (with_reducible repeat (first | refine blk_drewN ?_ _ | refine blk_drew ?_ | refine blk_alloc ?_ _)); refine blk_put (cs := #[.int .i64 t189, .string t190, .string t191, .string (⟨#[]⟩ : ByteArray), .bool false]) ?_ 3 _ rfl; (with_reducible repeat (first | refine blk_drewN ?_ _ | refine blk_drew ?_ | refine blk_alloc ?_ _)); refine blk_put (cs := #[.int .i64 t189, .string t190, .string (⟨#[]⟩ : ByteArray), .string (⟨#[]⟩ : ByteArray), .bool false]) ?_ 2 _ rfl; (with_reducible repeat (first | refine blk_drewN ?_ _ | refine blk_drew ?_ | refine blk_alloc ?_ _)); refine blk_put (cs := #[.int .i64 t189, .string (⟨#[]⟩ : ByteArray), .string (⟨#[]⟩ : ByteArray), .string (⟨#[]⟩ : ByteArray), .bool false]) ?_ 1 _ rfl; (with_reducible repeat (first | refine blk_drewN ?_ _ | refine blk_drew ?_ | refine blk_alloc ?_ _)); refine blk_put (cs := #[.int .i64 0, .string (⟨#[]⟩ : ByteArray), .string (⟨#[]⟩ : ByteArray), .string (⟨#[]⟩ : ByteArray), .bool false]) ?_ 0 _ rfl; (with_reducible repeat (first | refine blk_drewN ?_ _ | refine blk_drew ?_ | refine blk_alloc ?_ _)); exact BK195.out) hb); have n3_ := Aside0.mk (below_step (by repeat (first | (with_reducible first | exact HB.out | apply below_alloc | apply pw_below_drewN | apply below_drew1 | refine below_set ?_ GE181.out | refine below_set ?_ GE188.out | refine below_set ?_ GE195.out) | exact HB.out)) hb); clear BK181; clear BK188; clear BK195; clear HB; have BK181 := n0_; have BK188 := n1_; have BK195 := n2_; have HB := n3_; clear n0_ n1_ n2_ n3_; (try clear hb); (try clear hb2); (try clear hk); (try clear hi)))
                                  (try any_goals (exfalso; have h_ := ‹some undef = some (Value.bool _)›; revert h_; simp [undef]; done))
                                  go_ret
                                  exact ⟨by first | rfl | (simp [errW_none, errW_some] <;> rfl) | (simp [*, errW_none, errW_some] <;> rfl), by repeat (first | (with_reducible first | exact HB.out | apply below_alloc | apply pw_below_drewN | apply below_drew1 | refine below_set ?_ GE181.out | refine below_set ?_ GE188.out | refine below_set ?_ GE195.out | refine below_set ?_ GE202.out) | exact HB.out)⟩
                                · replace c25 := Bool.eq_false_iff.mpr c25
                                  subst c25
                                  rw [if_neg (show ¬ (false = true) by decide)] at H
                                  exact absurd ((Option.some.inj H).trans HT.out) (by decide)
                            · replace c21 := Bool.eq_false_iff.mpr c21
                              subst c21
                              rw [if_neg (show ¬ (false = true) by decide)] at H
                              exact absurd ((Option.some.inj H).trans HT.out) (by decide)
                        · replace c17 := Bool.eq_false_iff.mpr c17
                          subst c17
                          rw [if_neg (show ¬ (false = true) by decide)] at H
                          exact absurd ((Option.some.inj H).trans HT.out) (by decide)
                      · rw [if_neg c15] at H
                        have c15b0 : (t196 == 4) = false := beq_eq_false_iff_ne.mpr c15
                        have c15b1 : (t196 != 4) = true := bne_iff_ne.mpr c15
                        exact absurd ((Option.some.inj H).trans HT.out) (by decide)
                    · rw [if_neg c14] at H
                      have c14b0 : (t201 == 0) = false := beq_eq_false_iff_ne.mpr c14
                      have c14b1 : (t201 != 0) = true := bne_iff_ne.mpr c14
                      exact absurd ((Option.some.inj H).trans HT.out) (by decide)
                  · rw [if_neg c13] at H
                    have c13b0 : (t194 == 400) = false := beq_eq_false_iff_ne.mpr c13
                    have c13b1 : (t194 != 400) = true := bne_iff_ne.mpr c13
                    exact absurd ((Option.some.inj H).trans HT.out) (by decide)
                · rw [if_neg c12] at H
                  have c12b0 : (t184.toList == ([47] : List UInt8)) = false := beq_eq_false_iff_ne.mpr c12
                  have c12b1 : (t184.toList != ([47] : List UInt8)) = true := bne_iff_ne.mpr c12
                  exact absurd ((Option.some.inj H).trans HT.out) (by decide)
              · rw [if_neg c11] at H
                have c11b0 : (t183.toList == ([104] : List UInt8)) = false := beq_eq_false_iff_ne.mpr c11
                have c11b1 : (t183.toList != ([104] : List UInt8)) = true := bne_iff_ne.mpr c11
                exact absurd ((Option.some.inj H).trans HT.out) (by decide)
            · rw [if_neg c10] at H
              have c10b0 : (t187 == 0) = false := beq_eq_false_iff_ne.mpr c10
              have c10b1 : (t187 != 0) = true := bne_iff_ne.mpr c10
              exact absurd ((Option.some.inj H).trans HT.out) (by decide)
          · replace c9 := Bool.eq_false_iff.mpr c9
            subst c9
            rw [if_neg (show ¬ (false = true) by decide)] at H
            exact absurd ((Option.some.inj H).trans HT.out) (by decide)
        · rw [if_neg c8] at H
          have c8b0 : (t178.toList == ([98] : List UInt8)) = false := beq_eq_false_iff_ne.mpr c8
          have c8b1 : (t178.toList != ([98] : List UInt8)) = true := bne_iff_ne.mpr c8
          exact absurd ((Option.some.inj H).trans HT.out) (by decide)
      · rw [if_neg c7] at H
        have c7b0 : (t177.toList == ([47, 97] : List UInt8)) = false := beq_eq_false_iff_ne.mpr c7
        have c7b1 : (t177.toList != ([47, 97] : List UInt8)) = true := bne_iff_ne.mpr c7
        exact absurd ((Option.some.inj H).trans HT.out) (by decide)
    · rw [if_neg c6] at H
      have c6b0 : (t175 == 1) = false := beq_eq_false_iff_ne.mpr c6
      have c6b1 : (t175 != 1) = true := bne_iff_ne.mpr c6
      exact absurd ((Option.some.inj H).trans HT.out) (by decide)
  · rw [if_neg c5] at H
    have c5b0 : (t180 == 0) = false := beq_eq_false_iff_ne.mpr c5
    have c5b1 : (t180 != 0) = true := bne_iff_ne.mpr c5
    exact absurd ((Option.some.inj H).trans HT.out) (by decide)

/-! ### parallaxref1_put: function 36 -/
def parallaxref1_put.f : Nat → Int → Int → Option (ByteArray)
  | 0, _, _ => none
  | k + 1, a0, a1 => if a0 < a1 then (if 0 ≤ (mx a0 0) then (if (mx a0 0) ≤ (wrap64 ((mx a0 0) + 1)) then (if (wrap64 ((mx a0 0) + 1)) ≤ 16 then (some ((⟨#[48, 49, 50, 51, 52, 53, 54, 55, 56, 57, 97, 98, 99, 100, 101, 102]⟩ : ByteArray).extract ((mx a0 0) : Int).toNat ((wrap64 ((mx a0 0) + 1)) : Int).toNat)) else (none)) else (none)) else (none)) else (if a1 = 0 then (none) else ((parallaxref1_put.f k (wrap64 (Int.tdiv a0 a1)) a1).bind fun t209 => ((parallaxref1_put.f k (Int.tmod a0 a1) a1).bind fun t210 => (if t209.size + t210.size ≤ 9223372036854775807 then (some (t209 ++ t210)) else (none)))))
theorem parallaxref1_put.mono_l : ∀ k, (∀ y0 y1, LeO (parallaxref1_put.f k y0 y1) (parallaxref1_put.f (k + 1) y0 y1))
  | 0 => fun _ _ r h => by simp [parallaxref1_put.f] at h
  | k + 1 => by
    have ih0 := parallaxref1_put.mono_l k
    · intro y0 y1
      unfold parallaxref1_put.f
      repeat' first
      | (with_reducible exact ih0 _ _)
      | (with_reducible exact LeO.refl _)
      | (with_reducible exact LeO.none _)
      | (with_reducible refine LeO.ite ?_ ?_)
      | (with_reducible refine LeO.bind ?_ (fun _ => ?_))
      | exact ih0 _ _
      | exact LeO.none _
      | refine LeO.ite ?_ ?_
      | refine LeO.bind ?_ (fun _ => ?_)
theorem parallaxref1_put.mono : ∀ a0 a1 k, LeO (parallaxref1_put.f k a0 a1) (parallaxref1_put.f (k + 1) a0 a1) := by
  intro a0 a1 k
  have ih0 := parallaxref1_put.mono_l k
  exact ih0 a0 a1
def parallaxref1_put.T3 : Bool × List (List Nat × List Nat) := (true, [([], []), ([], []), ([0, 1], [0, 1]), ([], []), ([2, 3], [2, 3]), ([], []), ([], []), ([5, 6], [5, 6]), ([], []), ([7, 8, 4], [7, 8]), ([4, 9], [4, 9]), ([10, 9, 0, 1, 2, 3, 4, 5, 6, 7, 8, 9, 10], [10])])
def parallaxref1_put.B3 : List Nat := [0, 0, 3, 0, 15, 0, 0, 96, 0, 511, 1023, 2047]
theorem parallaxref1_put.tab3 : rtab .any (opsOf Try.f36 3) = parallaxref1_put.T3 := by kernel_rfl
theorem parallaxref1_put.bits3 : waitsOk parallaxref1_put.T3.2 parallaxref1_put.B3 = true := by kernel_rfl
set_option maxHeartbeats 8000000 in
set_option maxRecDepth 100000 in
theorem parallaxref1_put.calls (k : Nat) : ∀ (a0 : Int) (a1 : Int) (r : ByteArray) (w : World) (h : parallaxref1_put.f k a0 a1 = some r),
    Calls Try.prog 36 #[.int .i64 a0, .int .i64 a1] w fun e w' => e = .returned (.string r) ∧ Below w.heap.size w w' := by
  induction k using Nat.strongRecOn with
  | _ k ih =>
  intro a0 a1 r w h
  cases k with
  | zero => exact absurd h (by simp [parallaxref1_put.f])
  | succ k =>
  simp only [parallaxref1_put.f] at h
  have HB := Aside0.mk (Below.refl w.heap.size w)
  have H : (if a0 < a1 then (if 0 ≤ (mx a0 0) then (if (mx a0 0) ≤ (wrap64 ((mx a0 0) + 1)) then (if (wrap64 ((mx a0 0) + 1)) ≤ 16 then (some ((⟨#[48, 49, 50, 51, 52, 53, 54, 55, 56, 57, 97, 98, 99, 100, 101, 102]⟩ : ByteArray).extract ((mx a0 0) : Int).toNat ((wrap64 ((mx a0 0) + 1)) : Int).toNat)) else (none)) else (none)) else (none)) else (if a1 = 0 then (none) else ((parallaxref1_put.f k (wrap64 (Int.tdiv a0 a1)) a1).bind fun t209 => ((parallaxref1_put.f k (Int.tmod a0 a1) a1).bind fun t210 => (if t209.size + t210.size ≤ 9223372036854775807 then (some (t209 ++ t210)) else (none)))))) = some r := h
  clear h
  by_cases c3 : a0 < a1
  · rw [if_pos c3] at H
    have c3b0 : decide (a0 < a1) = true := decide_eq_true c3
    clear c3
    obtain ⟨ji4, hji4⟩ : ∃ j_ : Int, (mx a0 0) = j_ := ⟨_, rfl⟩
    replace H : (if 0 ≤ (ji4) then (if (ji4) ≤ (wrap64 ((ji4) + 1)) then (if (wrap64 ((ji4) + 1)) ≤ 16 then (some ((⟨#[48, 49, 50, 51, 52, 53, 54, 55, 56, 57, 97, 98, 99, 100, 101, 102]⟩ : ByteArray).extract ((ji4) : Int).toNat ((wrap64 ((ji4) + 1)) : Int).toNat)) else (none)) else (none)) else (none)) = some r := by first | (rw [hji4] at H; exact H) | (simp only [hji4] at H ⊢; exact H)
    (try (have hji4l : 0 ≤ ji4 := by (rw [← hji4]; unfold mx; (repeat' split) <;> omega)))
    (try (have hji4m : 0 ≤ ji4 := by omega))
    have hji4_ : (if a0 < 0 then 0 else a0) = ji4 := hji4
    by_cases c6 : 0 ≤ (ji4)
    · rw [if_pos c6] at H
      have c6b0 := eq_true c6
      have c6b1 : decide (0 ≤ (ji4)) = true := decide_eq_true c6
      clear c6
      by_cases c7 : (ji4) ≤ (wrap64 ((ji4) + 1))
      · rw [if_pos c7] at H
        have c7b0 := eq_true c7
        have c7b1 : decide ((ji4) ≤ (wrap64 ((ji4) + 1))) = true := decide_eq_true c7
        by_cases c8 : (wrap64 ((ji4) + 1)) ≤ 16
        · rw [if_pos c8] at H
          have c8b0 := eq_true c8
          have c8b1 : decide ((wrap64 ((ji4) + 1)) ≤ 16) = true := decide_eq_true c8
          obtain rfl := Option.some.inj H
          have hb_ : ji4 ≤ 15 := by unfold wrap64 at c7 c8; omega
          have HW_ := Aside0.mk (show wrap64 (ji4 + 1) = ji4 + 1 by unfold wrap64; omega)
          have c7c : decide (ji4 ≤ ji4 + 1) = true := decide_eq_true (by omega)
          have c8c : decide (ji4 + 1 ≤ 16) = true := decide_eq_true (by omega)
          have hrun_ := fun (W_ : World) => run_slice_string (P := Try.prog) W_ 9 (⟨#[48, 49, 50, 51, 52, 53, 54, 55, 56, 57, 97, 98, 99, 100, 101, 102]⟩ : ByteArray) .i64 .i64 ji4 (ji4 + 1) Try.underlying9 (by omega) (by omega) (by show ji4 + 1 ≤ 16; omega)
          clear c7 c8 c7b0 c8b0 c7b1 c8b1
          go_enter Try.func36, Try.ntmps36
          go_wp2
          go_ret
          exact ⟨by first | (rw [HW_.out]; rfl) | rfl | (simp [errW_none, errW_some] <;> rfl) | (simp only [← hji4]; first | rfl | (simp [errW_none, errW_some] <;> rfl)) | (simp [*, errW_none, errW_some] <;> rfl), by repeat (first | (with_reducible first | exact HB.out | apply below_alloc | apply pw_below_drewN | apply below_drew1) | exact HB.out)⟩
        · rw [if_neg c8] at H
          exact absurd H (by simp)
      · rw [if_neg c7] at H
        exact absurd H (by simp)
    · rw [if_neg c6] at H
      exact absurd H (by simp)
  · rw [if_neg c3] at H
    have c3b0 : decide (a0 < a1) = false := decide_eq_false c3
    clear c3
    by_cases c9 : a1 = 0
    · rw [if_pos c9] at H
      exact absurd H (by simp)
    · rw [if_neg c9] at H
      have c9b0 : (a1 == 0) = false := beq_eq_false_iff_ne.mpr c9
      have c9b1 : (a1 != 0) = true := bne_iff_ne.mpr c9
      replace H := Option.bind_eq_some_iff.mp H
      obtain ⟨t209, A100, H⟩ := H
      replace H : ((parallaxref1_put.f k (Int.tmod a0 a1) a1).bind fun t210 => (if t209.size + t210.size ≤ 9223372036854775807 then (some (t209 ++ t210)) else (none))) = some r := H
      have A10 := Aside0.mk A100
      clear A100
      replace H := Option.bind_eq_some_iff.mp H
      obtain ⟨t210, A110, H⟩ := H
      replace H : (if t209.size + t210.size ≤ 9223372036854775807 then (some (t209 ++ t210)) else (none)) = some r := H
      have A11 := Aside0.mk A110
      clear A110
      by_cases c12 : t209.size + t210.size ≤ 9223372036854775807
      · rw [if_pos c12] at H
        have c12b0 := eq_true c12
        have c12b1 : decide (t209.size + t210.size ≤ 9223372036854775807) = true := decide_eq_true c12
        try have c12b2 : (9223372036854775807 < t209.size + t210.size) = False := eq_false (Nat.not_lt.2 c12)
        obtain rfl := Option.some.inj H
        go_enter Try.func36, Try.ntmps36
        try go_wp2
        have n0_ := Aside0.mk (below_drew1 HB.out)
        clear HB
        have HB := n0_
        clear n0_
        refine start_ (n := 12) (S := fun w' => True) (ds := []) #[false, false, false, false, false, false, false, false, false, false, false, false] (by kernel_rfl) rfl rfl trivial (fun hHeld => ?_); refine with_tabW parallaxref1_put.tab3 parallaxref1_put.bits3 (fun HT_ HW_ => ?_)
        generalize w.drew = w13 at HB hHeld ⊢
        refine pure_ (i := 0) (N := some 14) (v := ?_) (a' := ?_) #[true, false, false, false, false, false, false, false, false, false, false, false] rfl rfl (any_of HT_.out (by kernel_rfl)) (fun _ _ _ h => h) (Or.inl ⟨by rfl, ?_⟩) ?_ ?_
        rotate_left
        · intro w'
          go_simp
          with_reducible rfl
        rotate_left
        · simp only [Act.put, List.setIfInBounds_toArray, List.set_cons_zero, List.set_cons_succ, i64_w, i32_w]
          rfl
        refine pure_ (i := 1) (N := some 15) (v := ?_) (a' := ?_) #[true, true, false, false, false, false, false, false, false, false, false, false] rfl rfl (any_of HT_.out (by kernel_rfl)) (fun _ _ _ h => h) (Or.inl ⟨by rfl, ?_⟩) ?_ ?_
        rotate_left
        · intro w'
          go_simp
          with_reducible rfl
        rotate_left
        · simp only [Act.put, List.setIfInBounds_toArray, List.set_cons_zero, List.set_cons_succ, i64_w, i32_w]
          rfl
        refine pure_ (i := 2) (N := some 16) (v := ?_) (a' := ?_) #[true, true, true, false, false, false, false, false, false, false, false, false] rfl rfl (any_of HT_.out (by kernel_rfl)) (fun _ _ _ h => h) (Or.inl ⟨by rfl, ?_⟩) ?_ ?_
        rotate_left
        · intro w'
          go_simp
          with_reducible rfl
        rotate_left
        · simp only [Act.put, List.setIfInBounds_toArray, List.set_cons_zero, List.set_cons_succ, i64_w, i32_w]
          rfl
        refine pure_ (i := 3) (N := some 17) (v := ?_) (a' := ?_) #[true, true, true, true, false, false, false, false, false, false, false, false] rfl rfl (any_of HT_.out (by kernel_rfl)) (fun _ _ _ h => h) (Or.inl ⟨by rfl, ?_⟩) ?_ ?_
        rotate_left
        · intro w'
          go_simp
          with_reducible rfl
        rotate_left
        · simp only [Act.put, List.setIfInBounds_toArray, List.set_cons_zero, List.set_cons_succ, i64_w, i32_w]
          rfl
        refine pure_ (i := 5) (N := some 19) (v := ?_) (a' := ?_) #[true, true, true, true, false, true, false, false, false, false, false, false] rfl rfl (any_of HT_.out (by kernel_rfl)) (fun _ _ _ h => h) (Or.inl ⟨by rfl, ?_⟩) ?_ ?_
        rotate_left
        · intro w'
          go_simp
          with_reducible rfl
        rotate_left
        · simp only [Act.put, List.setIfInBounds_toArray, List.set_cons_zero, List.set_cons_succ, i64_w, i32_w]
          rfl
        refine pure_ (i := 6) (N := some 20) (v := ?_) (a' := ?_) #[true, true, true, true, false, true, true, false, false, false, false, false] rfl rfl (any_of HT_.out (by kernel_rfl)) (fun _ _ _ h => h) (Or.inl ⟨by rfl, ?_⟩) ?_ ?_
        rotate_left
        · intro w'
          go_simp
          with_reducible rfl
        rotate_left
        · simp only [Act.put, List.setIfInBounds_toArray, List.set_cons_zero, List.set_cons_succ, i64_w, i32_w]
          rfl
        refine pure_ (i := 7) (N := some 21) (v := ?_) (a' := ?_) #[true, true, true, true, false, true, true, true, false, false, false, false] rfl rfl (any_of HT_.out (by kernel_rfl)) (fun _ _ _ h => h) (Or.inl ⟨by rfl, ?_⟩) ?_ ?_
        rotate_left
        · intro w'
          go_simp
          with_reducible rfl
        rotate_left
        · simp only [Act.put, List.setIfInBounds_toArray, List.set_cons_zero, List.set_cons_succ, i64_w, i32_w]
          rfl
        refine pure_ (i := 8) (N := some 22) (v := ?_) (a' := ?_) #[true, true, true, true, false, true, true, true, true, false, false, false] rfl rfl (any_of HT_.out (by kernel_rfl)) (fun _ _ _ h => h) (Or.inl ⟨by rfl, ?_⟩) ?_ ?_
        rotate_left
        · intro w'
          go_simp
          with_reducible rfl
        rotate_left
        · simp only [Act.put, List.setIfInBounds_toArray, List.set_cons_zero, List.set_cons_succ, i64_w, i32_w]
          rfl
        refine one_ (i := 4) (N := some 18) #[true, true, true, true, true, true, true, true, true, false, false, false] rfl rfl (one_of HT_.out (by kernel_rfl)) (by decide) (fun K hK => ?_)
        refine goes_ Try.func36 (by kernel_rfl) rfl #[.int .i64 (wrap64 (Int.tdiv a0 a1)), .int .i64 a1] (by rfl) rfl rfl (by (try simp only [List.map_toArray, List.map_cons, List.map_nil]); first | done | rfl | (simp only [List.length_drop, List.length_take]; rfl)) ?_
        with_reducible refine (ih k (by omega) (wrap64 (Int.tdiv a0 a1)) a1 t209 _ A10.out).mono ?_
        rintro e w14 ⟨rfl, hb⟩
        refine ⟨_, rfl, ?_⟩
        have n0_ := Aside0.mk (below_step (by repeat (first | (with_reducible first | exact HB.out | apply below_alloc | apply pw_below_drewN | apply below_drew1) | exact HB.out)) hb)
        clear HB
        have HB := n0_
        clear n0_
        (try clear hb)
        (try clear hb2)
        (try clear hk)
        (try clear hi)
        refine hK.out _ _ trivial (fun hHeld => ?_)
        clear hK K
        refine norm_ (a' := ?_) ?_ ?_
        rotate_left
        · show Act.put _ (some 18) _ = _
          simp only [Act.put, List.setIfInBounds_toArray, List.set_cons_zero, List.set_cons_succ, i64_w, i32_w]
          rfl
        refine one_ (i := 9) (N := some 23) #[true, true, true, true, true, true, true, true, true, true, false, false] rfl rfl (one_of HT_.out (by kernel_rfl)) (by decide) (fun K hK => ?_)
        refine goes_ Try.func36 (by kernel_rfl) rfl #[.int .i64 (Int.tmod a0 a1), .int .i64 a1] (by rfl) rfl rfl (by (try simp only [List.map_toArray, List.map_cons, List.map_nil]); first | done | rfl | (simp only [List.length_drop, List.length_take]; rfl)) ?_
        with_reducible refine (ih k (by omega) (Int.tmod a0 a1) a1 t210 _ A11.out).mono ?_
        rintro e w15 ⟨rfl, hb⟩
        refine ⟨_, rfl, ?_⟩
        have n0_ := Aside0.mk (below_step (by repeat (first | (with_reducible first | exact HB.out | apply below_alloc | apply pw_below_drewN | apply below_drew1) | exact HB.out)) hb)
        clear HB
        have HB := n0_
        clear n0_
        (try clear hb)
        (try clear hb2)
        (try clear hk)
        (try clear hi)
        refine hK.out _ _ trivial (fun hHeld => ?_)
        clear hK K
        refine norm_ (a' := ?_) ?_ ?_
        rotate_left
        · show Act.put _ (some 23) _ = _
          simp only [Act.put, List.setIfInBounds_toArray, List.set_cons_zero, List.set_cons_succ, i64_w, i32_w]
          rfl
        refine pure_ (i := 10) (N := some 24) (v := ?_) (a' := ?_) #[true, true, true, true, true, true, true, true, true, true, true, false] rfl rfl (any_of HT_.out (by kernel_rfl)) (fun _ _ _ h => h) (Or.inl ⟨by rfl, ?_⟩) ?_ ?_
        rotate_left
        · intro w'
          go_simp
          with_reducible rfl
        rotate_left
        · simp only [Act.put, List.setIfInBounds_toArray, List.set_cons_zero, List.set_cons_succ, i64_w, i32_w]
          rfl
        refine pure_ (i := 11) (N := some 4) (v := ?_) (a' := ?_) #[true, true, true, true, true, true, true, true, true, true, true, true] rfl rfl (any_of HT_.out (by kernel_rfl)) (fun _ _ _ h => h) (Or.inl ⟨by rfl, ?_⟩) ?_ ?_
        rotate_left
        · intro w'
          go_simp
          with_reducible rfl
        rotate_left
        · simp only [Act.put, List.setIfInBounds_toArray, List.set_cons_zero, List.set_cons_succ, i64_w, i32_w]
          rfl
        refine done_ (done_of HT_.out (by kernel_rfl)) ?_
        try go_wp2
        go_ret
        exact ⟨by first | rfl | (simp [errW_none, errW_some] <;> rfl) | (simp [*, errW_none, errW_some] <;> rfl), by repeat (first | (with_reducible first | exact HB.out | apply below_alloc | apply pw_below_drewN | apply below_drew1) | exact HB.out)⟩
      · rw [if_neg c12] at H
        exact absurd H (by simp)

/-! ### parallaxref1_Put: function 19 -/
def parallaxref1_Put.f (k : Nat) (a0 : Int) : Option (ByteArray) := (parallaxref1_put.f k a0 10).bind fun t211 => (some t211)
theorem parallaxref1_Put.mono : ∀ a0 k, LeO (parallaxref1_Put.f k a0) (parallaxref1_Put.f (k + 1) a0) := by
  intro a0 k
  unfold parallaxref1_Put.f
  repeat' first
      | (with_reducible exact parallaxref1_put.mono _ _ _)
      | (with_reducible exact LeO.refl _)
      | (with_reducible exact LeO.none _)
      | (with_reducible refine LeO.ite ?_ ?_)
      | (with_reducible refine LeO.bind ?_ (fun _ => ?_))
      | exact parallaxref1_put.mono _ _ _
      | exact LeO.none _
      | refine LeO.ite ?_ ?_
      | refine LeO.bind ?_ (fun _ => ?_)
set_option maxHeartbeats 8000000 in
set_option maxRecDepth 100000 in
theorem parallaxref1_Put.calls (k : Nat) (a0 : Int) (r : ByteArray) (w : World) (h : parallaxref1_Put.f k a0 = some r) :
    Calls Try.prog 19 #[.int .i64 a0] w fun e w' => e = .returned (.string r) ∧ Below w.heap.size w w' := by
  have HB := Aside0.mk (Below.refl w.heap.size w)
  have H : ((parallaxref1_put.f k a0 10).bind fun t211 => (some t211)) = some r := h
  clear h
  replace H := Option.bind_eq_some_iff.mp H
  obtain ⟨t211, A20, H⟩ := H
  replace H : (some t211) = some r := H
  have A2 := Aside0.mk A20
  clear A20
  obtain rfl := Option.some.inj H
  go_enter Try.func19, Try.ntmps19
  go_wp2_with (first | ((with_reducible refine gate_callee (f := 36) rfl ?_); refine goesL_ (some 4) rfl rfl Try.func36 (by kernel_rfl) rfl #[.int .i64 a0, .int .i64 10] rfl (by (try simp only [List.map_toArray, List.map_cons, List.map_nil]); first | done | rfl | (simp only [List.length_drop, List.length_take]; rfl)) ?_; (with_reducible refine (parallaxref1_put.calls k a0 10 t211 _ A2.out).mono ?_); rintro e w3 ⟨rfl, hb⟩; refine ⟨_, rfl, ?_⟩; have n0_ := Aside0.mk (below_step (by repeat (first | (with_reducible first | exact HB.out | apply below_alloc | apply pw_below_drewN | apply below_drew1) | exact HB.out)) hb); clear HB; have HB := n0_; clear n0_; (try clear hb); (try clear hb2); (try clear hk); (try clear hi)))
  go_ret
  exact ⟨by first | rfl | (simp [errW_none, errW_some] <;> rfl) | (simp [*, errW_none, errW_some] <;> rfl), by repeat (first | (with_reducible first | exact HB.out | apply below_alloc | apply pw_below_drewN | apply below_drew1) | exact HB.out)⟩

end Go.Proofs.Ytnnehbbfokoklaa.PTargetHosts
