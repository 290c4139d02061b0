-- Written by a program of this session (wip/tools/myprint.sh)
import Derived.Test.YtclaaacdmaeblaaDoorPRequestExtendsx0
import Derived.Test.YtclaaacdmaeblaaDoorPRequestExtendsx1
namespace Go.Proofs.YtclaaacdmaeblaaDoor.PRequestExtends
open Go.RowKit Go.Proofs.YtclaaacdmaeblaaDoorW.PrintWords Go.Proofs.YtclaaacdmaeblaaDoorW.PrintLast Go.Proofs.YtclaaacdmaeblaaDoorW.PrintMore
attribute [local go_sem] max2_int min2_int max_two min_two max_three min_three max_four min_four   -- for this text's walks alone
set_option linter.unusedVariables false
set_option linter.unusedSimpArgs false

/-! ### request_parted: function 18 -/
mutual
def request_parted.j0 : Nat → ByteArray → Int → List ByteArray → Option (ByteArray × ByteArray × ByteArray × Int)
  | 0, _, _, _ => none
  | k + 1, x0, x1, x8 => (slices_Contains_string_string.f k x8 (⟨#[]⟩ : ByteArray)).bind fun t132 => (if t132 = true then (some ((⟨#[]⟩ : ByteArray), (⟨#[]⟩ : ByteArray), (⟨#[]⟩ : ByteArray), 400)) else (if (x8.length : Int) = 3 then (if 0 < (x8.length : Int) then (if 1 < (x8.length : Int) then (if 2 < (x8.length : Int) then (some (rdOf ByteArray.empty x8 0, rdOf ByteArray.empty x8 1, rdOf ByteArray.empty x8 2, 0)) else (none)) else (none)) else (none)) else (if (x8.length : Int) > 3 then ((quirks_Has.f x1 7).bind fun t136 => (request_parted.j1 k x0 x1 x8 (x8.length : Int) t136)) else (request_parted.j1 k x0 x1 x8 (x8.length : Int) false))))
def request_parted.j1 : Nat → ByteArray → Int → List ByteArray → Int → Bool → Option (ByteArray × ByteArray × ByteArray × Int)
  | 0, _, _, _, _, _ => none
  | k + 1, x0, x1, x8, x9, x35 => if x35 = true then (if 0 < (x8.length : Int) then (if 0 ≤ (wrap64 (x9 - 1)) then (if (wrap64 (x9 - 1)) < (x8.length : Int) then (if 0 ≤ (wrap64 (((rdOf ByteArray.empty x8 0).size : Int) + 1)) then (if (wrap64 (((rdOf ByteArray.empty x8 0).size : Int) + 1)) ≤ (wrap64 ((wrap64 ((x0.size : Int) - ((rdOf ByteArray.empty x8 (wrap64 (x9 - 1))).size : Int))) - 1)) then (if (wrap64 ((wrap64 ((x0.size : Int) - ((rdOf ByteArray.empty x8 (wrap64 (x9 - 1))).size : Int))) - 1)) ≤ (x0.size : Int) then ((quirks_Has.f x1 3).bind fun t139 => (if t139 = true then ((text_Trim.f (x0.extract ((wrap64 (((rdOf ByteArray.empty x8 0).size : Int) + 1)) : Int).toNat ((wrap64 ((wrap64 ((x0.size : Int) - ((rdOf ByteArray.empty x8 (wrap64 (x9 - 1))).size : Int))) - 1)) : Int).toNat)).bind fun t140 => (some (rdOf ByteArray.empty x8 0, t140, rdOf ByteArray.empty x8 (wrap64 (x9 - 1)), 0))) else (some (rdOf ByteArray.empty x8 0, x0.extract ((wrap64 (((rdOf ByteArray.empty x8 0).size : Int) + 1)) : Int).toNat ((wrap64 ((wrap64 ((x0.size : Int) - ((rdOf ByteArray.empty x8 (wrap64 (x9 - 1))).size : Int))) - 1)) : Int).toNat, rdOf ByteArray.empty x8 (wrap64 (x9 - 1)), 0)))) else (none)) else (none)) else (none)) else (none)) else (none)) else (none)) else (if x9 = 2 then ((quirks_Has.f x1 6).bind fun t145 => (if t145 = true then (if 0 < (x8.length : Int) then (if 1 < (x8.length : Int) then (some (rdOf ByteArray.empty x8 0, rdOf ByteArray.empty x8 1, (⟨#[]⟩ : ByteArray), 0)) else (none)) else (none)) else (some ((⟨#[]⟩ : ByteArray), (⟨#[]⟩ : ByteArray), (⟨#[]⟩ : ByteArray), 400)))) else (some ((⟨#[]⟩ : ByteArray), (⟨#[]⟩ : ByteArray), (⟨#[]⟩ : ByteArray), 400)))
end
def request_parted.f (k : Nat) (a0 : ByteArray) (a1 : Int) : Option (ByteArray × ByteArray × ByteArray × Int) := (strings_Split.f k a0 (⟨#[32]⟩ : ByteArray)).bind fun t124 => ((quirks_Has.f a1 3).bind fun t127 => (if t127 = true then ((text_Trim.f a0).bind fun t128 => ((request_blank_FieldsFunc.f t128).bind fun t129 => (request_parted.j0 k t128 a1 t129))) else (request_parted.j0 k a0 a1 t124)))
theorem request_parted.mono_l : ∀ k, (∀ y0 y1 y2, LeO (request_parted.j0 k y0 y1 y2) (request_parted.j0 (k + 1) y0 y1 y2)) ∧ (∀ y0 y1 y2 y3 y4, LeO (request_parted.j1 k y0 y1 y2 y3 y4) (request_parted.j1 (k + 1) y0 y1 y2 y3 y4))
  | 0 => ⟨fun _ _ _ r h => by simp [request_parted.j0] at h, fun _ _ _ _ _ r h => by simp [request_parted.j1] at h⟩
  | k + 1 => by
    obtain ⟨ih0, ih1⟩ := request_parted.mono_l k
    refine ⟨?_, ?_⟩
    · intro y0 y1 y2
      unfold request_parted.j0
      repeat' first
      | (with_reducible exact ih0 _ _ _)
      | (with_reducible exact ih1 _ _ _ _ _)
      | (with_reducible exact slices_Contains_string_string.mono _ _ _)
      | (with_reducible exact strings_Split.mono _ _ _)
      | (with_reducible exact LeO.refl _)
      | (with_reducible exact LeO.none _)
      | (with_reducible refine LeO.ite ?_ ?_)
      | (with_reducible refine LeO.bind ?_ (fun _ => ?_))
      | exact ih0 _ _ _
      | exact ih1 _ _ _ _ _
      | exact slices_Contains_string_string.mono _ _ _
      | exact strings_Split.mono _ _ _
      | exact LeO.none _
      | refine LeO.ite ?_ ?_
      | refine LeO.bind ?_ (fun _ => ?_)
    · intro y0 y1 y2 y3 y4
      unfold request_parted.j1
      repeat' first
      | (with_reducible exact ih0 _ _ _)
      | (with_reducible exact ih1 _ _ _ _ _)
      | (with_reducible exact slices_Contains_string_string.mono _ _ _)
      | (with_reducible exact strings_Split.mono _ _ _)
      | (with_reducible exact LeO.refl _)
      | (with_reducible exact LeO.none _)
      | (with_reducible refine LeO.ite ?_ ?_)
      | (with_reducible refine LeO.bind ?_ (fun _ => ?_))
      | exact ih0 _ _ _
      | exact ih1 _ _ _ _ _
      | exact slices_Contains_string_string.mono _ _ _
      | exact strings_Split.mono _ _ _
      | exact LeO.none _
      | refine LeO.ite ?_ ?_
      | refine LeO.bind ?_ (fun _ => ?_)
theorem request_parted.mono : ∀ a0 a1 k, LeO (request_parted.f k a0 a1) (request_parted.f (k + 1) a0 a1) := by
  intro a0 a1 k
  obtain ⟨ih0, ih1⟩ := request_parted.mono_l k
  unfold request_parted.f
  repeat' first
      | (with_reducible exact ih0 _ _ _)
      | (with_reducible exact ih1 _ _ _ _ _)
      | (with_reducible exact slices_Contains_string_string.mono _ _ _)
      | (with_reducible exact strings_Split.mono _ _ _)
      | (with_reducible exact LeO.refl _)
      | (with_reducible exact LeO.none _)
      | (with_reducible refine LeO.ite ?_ ?_)
      | (with_reducible refine LeO.bind ?_ (fun _ => ?_))
      | exact ih0 _ _ _
      | exact ih1 _ _ _ _ _
      | exact slices_Contains_string_string.mono _ _ _
      | exact strings_Split.mono _ _ _
      | exact LeO.none _
      | refine LeO.ite ?_ ?_
      | refine LeO.bind ?_ (fun _ => ?_)
set_option maxHeartbeats 8000000 in
set_option maxRecDepth 100000 in
theorem request_parted.calls (k : Nat) (a0 : ByteArray) (a1 : Int) (r1 : ByteArray) (r2 : ByteArray) (r3 : ByteArray) (r4 : Int) (w : World) (h : request_parted.f k a0 a1 = some (r1, r2, r3, r4)) :
    Calls Tryd.prog 18 #[.string a0, .int .u32 a1] w fun e w' => e = .returned (.tuple #[.string r1, .string r2, .string r3, .int .i64 r4]) ∧ Below w.heap.size w w' := by
  have HB := Aside0.mk (Below.refl w.heap.size w)
  have H : ((strings_Split.f k a0 (⟨#[32]⟩ : ByteArray)).bind fun t124 => ((quirks_Has.f a1 3).bind fun t127 => (if t127 = true then ((text_Trim.f a0).bind fun t128 => ((request_blank_FieldsFunc.f t128).bind fun t129 => (request_parted.j0 k t128 a1 t129))) else (request_parted.j0 k a0 a1 t124)))) = some (r1, r2, r3, r4) := h
  clear h
  replace H := Option.bind_eq_some_iff.mp H
  obtain ⟨t124, A30, H⟩ := H
  replace H : ((quirks_Has.f a1 3).bind fun t127 => (if t127 = true then ((text_Trim.f a0).bind fun t128 => ((request_blank_FieldsFunc.f t128).bind fun t129 => (request_parted.j0 k t128 a1 t129))) else (request_parted.j0 k a0 a1 t124))) = some (r1, r2, r3, r4) := H
  have A3 := Aside0.mk A30
  clear A30
  replace H := Option.bind_eq_some_iff.mp H
  obtain ⟨t127, A40, H⟩ := H
  replace H : (if t127 = true then ((text_Trim.f a0).bind fun t128 => ((request_blank_FieldsFunc.f t128).bind fun t129 => (request_parted.j0 k t128 a1 t129))) else (request_parted.j0 k a0 a1 t124)) = some (r1, r2, r3, r4) := H
  have A4 := Aside0.mk A40
  clear A40
  have HC5 := Aside0.mk H
  clear H
  go_enter Tryd.func18, Tryd.ntmps18
  go_upto_if 13 with (first | (go_at_call 28; (with_reducible refine (strings_Split.calls k a0 (⟨#[32]⟩ : ByteArray) t124 _ A3.out).mono ?_); rintro e w6 ⟨v125, rfl, ho0, hb⟩; have n0_ := Aside0.mk (Kd.R_lower ho0 (below_size (by repeat (first | (with_reducible first | exact HB.out | apply below_alloc | apply pw_below_drewN | apply below_drew1) | exact HB.out)))); have n1_ := Aside0.mk (below_step (by repeat (first | (with_reducible first | exact HB.out | apply below_alloc | apply pw_below_drewN | apply below_drew1) | exact HB.out)) hb); clear HB; have HO126 := n0_; have HB := n1_; clear n0_ n1_; (try clear hb); (try clear hb2); (try clear hk); (try clear hi); (try clear ho0)) | (go_at_call 29; (with_reducible refine (quirks_Has.calls a1 3 t127 _ A4.out).mono ?_); rintro e w' ⟨rfl, ⟨nd, rfl⟩⟩; (try first | exact ⟨rfl, _, World.drewN_drewN _ _ _⟩ | exact ⟨rfl, _, Eq.trans (World.drewN_drewN _ _ _) (congrArg (World.drewN _) (Nat.add_assoc _ _ _))⟩)))
  repeat (go_quiet (first | (go_at_call 28; (with_reducible refine (strings_Split.calls k a0 (⟨#[32]⟩ : ByteArray) t124 _ A3.out).mono ?_); rintro e w6 ⟨v125, rfl, ho0, hb⟩; have n0_ := Aside0.mk (Kd.R_lower ho0 (below_size (by repeat (first | (with_reducible first | exact HB.out | apply below_alloc | apply pw_below_drewN | apply below_drew1) | exact HB.out)))); have n1_ := Aside0.mk (below_step (by repeat (first | (with_reducible first | exact HB.out | apply below_alloc | apply pw_below_drewN | apply below_drew1) | exact HB.out)) hb); clear HB; have HO126 := n0_; have HB := n1_; clear n0_ n1_; (try clear hb); (try clear hb2); (try clear hk); (try clear hi); (try clear ho0)) | (go_at_call 29; (with_reducible refine (quirks_Has.calls a1 3 t127 _ A4.out).mono ?_); rintro e w' ⟨rfl, ⟨nd, rfl⟩⟩; (try first | exact ⟨rfl, _, World.drewN_drewN _ _ _⟩ | exact ⟨rfl, _, Eq.trans (World.drewN_drewN _ _ _) (congrArg (World.drewN _) (Nat.add_assoc _ _ _))⟩))); go_upto_if 13 with (first | (go_at_call 28; (with_reducible refine (strings_Split.calls k a0 (⟨#[32]⟩ : ByteArray) t124 _ A3.out).mono ?_); rintro e w6 ⟨v125, rfl, ho0, hb⟩; have n0_ := Aside0.mk (Kd.R_lower ho0 (below_size (by repeat (first | (with_reducible first | exact HB.out | apply below_alloc | apply pw_below_drewN | apply below_drew1) | exact HB.out)))); have n1_ := Aside0.mk (below_step (by repeat (first | (with_reducible first | exact HB.out | apply below_alloc | apply pw_below_drewN | apply below_drew1) | exact HB.out)) hb); clear HB; have HO126 := n0_; have HB := n1_; clear n0_ n1_; (try clear hb); (try clear hb2); (try clear hk); (try clear hi); (try clear ho0)) | (go_at_call 29; (with_reducible refine (quirks_Has.calls a1 3 t127 _ A4.out).mono ?_); rintro e w' ⟨rfl, ⟨nd, rfl⟩⟩; (try first | exact ⟨rfl, _, World.drewN_drewN _ _ _⟩ | exact ⟨rfl, _, Eq.trans (World.drewN_drewN _ _ _) (congrArg (World.drewN _) (Nat.add_assoc _ _ _))⟩))))
  (try simp only [Act.put, List.setIfInBounds_toArray, List.set_cons_zero, List.set_cons_succ])
  go_cut [0, 8] (fun v0 v8 wc => ∃ (kq : Nat) (x0_4 : ByteArray) (x8_4 : List ByteArray), v0 = .string x0_4 ∧ Aside0 (request_parted.j0 kq x0_4 a1 x8_4 = some (r1, r2, r3, r4)) ∧ Aside0 (kq ≤ k) ∧ Aside0 (Kd.R Kd.string 9 wc w.heap.size (fun _ => True) v8 x8_4) ∧ Aside0 (Below w.heap.size w wc))
  case first =>
    have H := HC5.out
    clear HC5
    by_cases c7 : t127 = true
    · subst c7
      have H1 : ((text_Trim.f a0).bind fun t128 => ((request_blank_FieldsFunc.f t128).bind fun t129 => (request_parted.j0 k t128 a1 t129))) = some (r1, r2, r3, r4) := by rw [if_pos rfl] at H; exact H
      clear H
      have H := H1
      clear H1
      replace H := Option.bind_eq_some_iff.mp H
      obtain ⟨t128, A80, H⟩ := H
      replace H : ((request_blank_FieldsFunc.f t128).bind fun t129 => (request_parted.j0 k t128 a1 t129)) = some (r1, r2, r3, r4) := H
      have A8 := Aside0.mk A80
      clear A80
      replace H := Option.bind_eq_some_iff.mp H
      obtain ⟨t129, A90, H⟩ := H
      replace H : (request_parted.j0 k t128 a1 t129) = some (r1, r2, r3, r4) := H
      have A9 := Aside0.mk A90
      clear A90
      have H' := Aside0.mk H
      clear H
      go_wp2_with (first | (go_at_call 30; (with_reducible refine (text_Trim.calls a0 t128 _ A8.out).mono ?_); rintro e w' ⟨rfl, ⟨nd, rfl⟩⟩; (try first | exact ⟨rfl, _, World.drewN_drewN _ _ _⟩ | exact ⟨rfl, _, Eq.trans (World.drewN_drewN _ _ _) (congrArg (World.drewN _) (Nat.add_assoc _ _ _))⟩)) | (go_at_call 31; (with_reducible refine (request_blank_FieldsFunc.calls t128 t129 _ A9.out).mono ?_); rintro e w10 ⟨v130, rfl, ho0, hb⟩; have n0_ := Aside0.mk (Kd.R_elder' (by (with_reducible repeat (first | apply Kd.R_alloc | apply Kd.R_drewN | apply Kd.R_drew)); exact HO126.out) (Kd.R_base ho0) hb); have n1_ := Aside0.mk (Kd.R_lower (Kd.R_new' ho0 (Kd.R_lt (by (with_reducible repeat (first | apply Kd.R_alloc | apply Kd.R_drewN | apply Kd.R_drew)); exact HO126.out))) (below_size (by repeat (first | (with_reducible first | exact HB.out | apply below_alloc | apply pw_below_drewN | apply below_drew1) | exact HB.out)))); have n2_ := Aside0.mk (below_step (by repeat (first | (with_reducible first | exact HB.out | apply below_alloc | apply pw_below_drewN | apply below_drew1) | exact HB.out)) hb); clear HO126; clear HB; have HO126 := n0_; have HO131 := n1_; have HB := n2_; clear n0_ n1_ n2_; (try clear hb); (try clear hb2); (try clear hk); (try clear hi); (try clear ho0)))
      repeat (go_quiet (first | (go_at_call 30; (with_reducible refine (text_Trim.calls a0 t128 _ A8.out).mono ?_); rintro e w' ⟨rfl, ⟨nd, rfl⟩⟩; (try first | exact ⟨rfl, _, World.drewN_drewN _ _ _⟩ | exact ⟨rfl, _, Eq.trans (World.drewN_drewN _ _ _) (congrArg (World.drewN _) (Nat.add_assoc _ _ _))⟩)) | (go_at_call 31; (with_reducible refine (request_blank_FieldsFunc.calls t128 t129 _ A9.out).mono ?_); rintro e w10 ⟨v130, rfl, ho0, hb⟩; have n0_ := Aside0.mk (Kd.R_elder' (by (with_reducible repeat (first | apply Kd.R_alloc | apply Kd.R_drewN | apply Kd.R_drew)); exact HO126.out) (Kd.R_base ho0) hb); have n1_ := Aside0.mk (Kd.R_lower (Kd.R_new' ho0 (Kd.R_lt (by (with_reducible repeat (first | apply Kd.R_alloc | apply Kd.R_drewN | apply Kd.R_drew)); exact HO126.out))) (below_size (by repeat (first | (with_reducible first | exact HB.out | apply below_alloc | apply pw_below_drewN | apply below_drew1) | exact HB.out)))); have n2_ := Aside0.mk (below_step (by repeat (first | (with_reducible first | exact HB.out | apply below_alloc | apply pw_below_drewN | apply below_drew1) | exact HB.out)) hb); clear HO126; clear HB; have HO126 := n0_; have HO131 := n1_; have HB := n2_; clear n0_ n1_ n2_; (try clear hb); (try clear hb2); (try clear hk); (try clear hi); (try clear ho0))); try go_wp2_with (first | (go_at_call 30; (with_reducible refine (text_Trim.calls a0 t128 _ A8.out).mono ?_); rintro e w' ⟨rfl, ⟨nd, rfl⟩⟩; (try first | exact ⟨rfl, _, World.drewN_drewN _ _ _⟩ | exact ⟨rfl, _, Eq.trans (World.drewN_drewN _ _ _) (congrArg (World.drewN _) (Nat.add_assoc _ _ _))⟩)) | (go_at_call 31; (with_reducible refine (request_blank_FieldsFunc.calls t128 t129 _ A9.out).mono ?_); rintro e w10 ⟨v130, rfl, ho0, hb⟩; have n0_ := Aside0.mk (Kd.R_elder' (by (with_reducible repeat (first | apply Kd.R_alloc | apply Kd.R_drewN | apply Kd.R_drew)); exact HO126.out) (Kd.R_base ho0) hb); have n1_ := Aside0.mk (Kd.R_lower (Kd.R_new' ho0 (Kd.R_lt (by (with_reducible repeat (first | apply Kd.R_alloc | apply Kd.R_drewN | apply Kd.R_drew)); exact HO126.out))) (below_size (by repeat (first | (with_reducible first | exact HB.out | apply below_alloc | apply pw_below_drewN | apply below_drew1) | exact HB.out)))); have n2_ := Aside0.mk (below_step (by repeat (first | (with_reducible first | exact HB.out | apply below_alloc | apply pw_below_drewN | apply below_drew1) | exact HB.out)) hb); clear HO126; clear HB; have HO126 := n0_; have HO131 := n1_; have HB := n2_; clear n0_ n1_ n2_; (try clear hb); (try clear hb2); (try clear hk); (try clear hi); (try clear ho0))))
      go_meet
      case rel => exact ⟨_, (t128), (t129), (by first | rfl | (simp; done) | (simp [*]; done)), H', ⟨by first | omega | exact Nat.le_refl _⟩, ⟨by (with_reducible repeat (first | apply Kd.R_alloc | apply Kd.R_drewN | apply Kd.R_drew)); exact Kd.R_mono HO131.out (fun _ hk => trivial)⟩, ⟨by repeat (first | (with_reducible first | exact HB.out | apply below_alloc | apply pw_below_drewN | apply below_drew1) | exact HB.out)⟩⟩
    · replace c7 := Bool.eq_false_iff.mpr c7
      subst c7
      have H1 : (request_parted.j0 k a0 a1 t124) = some (r1, r2, r3, r4) := by rw [if_neg (show ¬ (false = true) by decide)] at H; exact H
      clear H
      have H := H1
      clear H1
      have H' := Aside0.mk H
      clear H
      go_wp2
      repeat (go_quiet (fail); try go_wp2)
      go_meet
      case rel => exact ⟨_, (a0), (t124), (by first | rfl | (simp; done) | (simp [*]; done)), H', ⟨by first | omega | exact Nat.le_refl _⟩, ⟨by (with_reducible repeat (first | apply Kd.R_alloc | apply Kd.R_drewN | apply Kd.R_drew)); exact HO126.out⟩, ⟨by repeat (first | (with_reducible first | exact HB.out | apply below_alloc | apply pw_below_drewN | apply below_drew1) | exact HB.out)⟩⟩
  case rest =>
    clear HC5
    try clear c1
    try clear p2
    try clear c7
    obtain ⟨kq, x0_4, x8_4, rfl, HA, HJ4, HO_8, HB⟩ := hcut
    cases kq with
    | zero => exact absurd HA.out (by simp [request_parted.j0])
    | succ kj4 =>
      have H := HA.out
      clear HA
      simp only [request_parted.j0] at H
      replace H := Option.bind_eq_some_iff.mp H
      obtain ⟨t132, A110, H⟩ := H
      replace H : (if t132 = true then (some ((⟨#[]⟩ : ByteArray), (⟨#[]⟩ : ByteArray), (⟨#[]⟩ : ByteArray), 400)) else (if (x8_4.length : Int) = 3 then (if 0 < (x8_4.length : Int) then (if 1 < (x8_4.length : Int) then (if 2 < (x8_4.length : Int) then (some (rdOf ByteArray.empty x8_4 0, rdOf ByteArray.empty x8_4 1, rdOf ByteArray.empty x8_4 2, 0)) else (none)) else (none)) else (none)) else (if (x8_4.length : Int) > 3 then ((quirks_Has.f a1 7).bind fun t136 => (request_parted.j1 kj4 x0_4 a1 x8_4 (x8_4.length : Int) t136)) else (request_parted.j1 kj4 x0_4 a1 x8_4 (x8_4.length : Int) false)))) = some (r1, r2, r3, r4) := H
      have A11 := Aside0.mk A110
      clear A110
      by_cases c12 : t132 = true
      · subst c12
        have H1 : (some ((⟨#[]⟩ : ByteArray), (⟨#[]⟩ : ByteArray), (⟨#[]⟩ : ByteArray), 400)) = some (r1, r2, r3, r4) := by rw [if_pos rfl] at H; exact H
        clear H
        have H := H1
        clear H1
        simp only [Option.some.injEq, Prod.mk.injEq] at H
        obtain ⟨rfl, rfl, rfl, rfl⟩ := H
        obtain ⟨Ao13, co13, eo13⟩ := Kd.R_slice HO_8.out
        subst eo13
        go_wp2_with (first | (go_at_call 33; (with_reducible refine (slices_Contains_string_string.calls kj4 _ _ x8_4 (⟨#[]⟩ : ByteArray) true _ ?side1 ?side2 A11.out).mono ?_); (case side1 => repeat (first | exact (Kd.R_reads' HO_8.out).2.2 | (with_reducible refine Kd.C_alloc ?_ _) | (with_reducible refine Kd.C_drewN ?_ _) | (with_reducible refine Kd.C_drew ?_))); (case side2 => exact (Kd.R_reads' HO_8.out).2.1); rintro e w' ⟨rfl, ⟨nd, rfl⟩⟩; (try first | exact ⟨rfl, _, World.drewN_drewN _ _ _⟩ | exact ⟨rfl, _, Eq.trans (World.drewN_drewN _ _ _) (congrArg (World.drewN _) (Nat.add_assoc _ _ _))⟩)))
        repeat (go_quiet (first | (go_at_call 33; (with_reducible refine (slices_Contains_string_string.calls kj4 _ _ x8_4 (⟨#[]⟩ : ByteArray) true _ ?side1 ?side2 A11.out).mono ?_); (case side1 => repeat (first | exact (Kd.R_reads' HO_8.out).2.2 | (with_reducible refine Kd.C_alloc ?_ _) | (with_reducible refine Kd.C_drewN ?_ _) | (with_reducible refine Kd.C_drew ?_))); (case side2 => exact (Kd.R_reads' HO_8.out).2.1); rintro e w' ⟨rfl, ⟨nd, rfl⟩⟩; (try first | exact ⟨rfl, _, World.drewN_drewN _ _ _⟩ | exact ⟨rfl, _, Eq.trans (World.drewN_drewN _ _ _) (congrArg (World.drewN _) (Nat.add_assoc _ _ _))⟩))); try go_wp2_with (first | (go_at_call 33; (with_reducible refine (slices_Contains_string_string.calls kj4 _ _ x8_4 (⟨#[]⟩ : ByteArray) true _ ?side1 ?side2 A11.out).mono ?_); (case side1 => repeat (first | exact (Kd.R_reads' HO_8.out).2.2 | (with_reducible refine Kd.C_alloc ?_ _) | (with_reducible refine Kd.C_drewN ?_ _) | (with_reducible refine Kd.C_drew ?_))); (case side2 => exact (Kd.R_reads' HO_8.out).2.1); rintro e w' ⟨rfl, ⟨nd, rfl⟩⟩; (try first | exact ⟨rfl, _, World.drewN_drewN _ _ _⟩ | exact ⟨rfl, _, Eq.trans (World.drewN_drewN _ _ _) (congrArg (World.drewN _) (Nat.add_assoc _ _ _))⟩))))
        refine bodyPost_ret (results_list (rs := [.tmp 4, .tmp 5, .tmp 6, .tmp 7]) rfl (by simp) (.tmp (.tmp (.tmp (.tmp .nil))))) rfl ?_
        exact ⟨by first | rfl | (simp [errW_none, errW_some] <;> rfl) | (simp [*, errW_none, errW_some] <;> rfl), by repeat (first | (with_reducible first | exact HB.out | apply below_alloc | apply pw_below_drewN | apply below_drew1) | exact HB.out)⟩
      · replace c12 := Bool.eq_false_iff.mpr c12
        subst c12
        have H1 : (if (x8_4.length : Int) = 3 then (if 0 < (x8_4.length : Int) then (if 1 < (x8_4.length : Int) then (if 2 < (x8_4.length : Int) then (some (rdOf ByteArray.empty x8_4 0, rdOf ByteArray.empty x8_4 1, rdOf ByteArray.empty x8_4 2, 0)) else (none)) else (none)) else (none)) else (if (x8_4.length : Int) > 3 then ((quirks_Has.f a1 7).bind fun t136 => (request_parted.j1 kj4 x0_4 a1 x8_4 (x8_4.length : Int) t136)) else (request_parted.j1 kj4 x0_4 a1 x8_4 (x8_4.length : Int) false))) = some (r1, r2, r3, r4) := by rw [if_neg (show ¬ (false = true) by decide)] at H; exact H
        clear H
        have H := H1
        clear H1
        by_cases c14 : (x8_4.length : Int) = 3
        · rw [if_pos c14] at H
          have c14b0 : ((x8_4.length : Int) == 3) = true := beq_iff_eq.mpr c14
          have c14b1 : ((x8_4.length : Int) != 3) = false := bne_eq_false_iff_eq.mpr c14
          clear c14
          by_cases c15 : 0 < (x8_4.length : Int)
          · rw [if_pos c15] at H
            have c15b0 : decide (0 < (x8_4.length : Int)) = true := decide_eq_true c15
            have c15b1 : decide (0 < x8_4.length) = true := decide_eq_true (by omega)
            clear c15
            by_cases c16 : 1 < (x8_4.length : Int)
            · rw [if_pos c16] at H
              have c16b0 : decide (1 < (x8_4.length : Int)) = true := decide_eq_true c16
              have c16b1 : decide (1 < x8_4.length) = true := decide_eq_true (by omega)
              clear c16
              by_cases c17 : 2 < (x8_4.length : Int)
              · rw [if_pos c17] at H
                have c17b0 : decide (2 < (x8_4.length : Int)) = true := decide_eq_true c17
                have c17b1 : decide (2 < x8_4.length) = true := decide_eq_true (by omega)
                clear c17
                simp only [Option.some.injEq, Prod.mk.injEq] at H
                obtain ⟨rfl, rfl, rfl, rfl⟩ := H
                obtain ⟨Ao18, co18, eo18⟩ := Kd.R_slice HO_8.out
                subst eo18
                go_wp2_with (first | (go_at_call 33; (with_reducible refine (slices_Contains_string_string.calls kj4 _ _ x8_4 (⟨#[]⟩ : ByteArray) false _ ?side1 ?side2 A11.out).mono ?_); (case side1 => repeat (first | exact (Kd.R_reads' HO_8.out).2.2 | (with_reducible refine Kd.C_alloc ?_ _) | (with_reducible refine Kd.C_drewN ?_ _) | (with_reducible refine Kd.C_drew ?_))); (case side2 => exact (Kd.R_reads' HO_8.out).2.1); rintro e w' ⟨rfl, ⟨nd, rfl⟩⟩; (try first | exact ⟨rfl, _, World.drewN_drewN _ _ _⟩ | exact ⟨rfl, _, Eq.trans (World.drewN_drewN _ _ _) (congrArg (World.drewN _) (Nat.add_assoc _ _ _))⟩); have p133 : 0 ≤ (0 : Int) := (by omega); have q133 : 0 < (x8_4.length : Int) := of_decide_eq_true (by first | (with_reducible assumption) | assumption); obtain ⟨ad133, e133, hx133_0⟩ := Kd.at_string (Kd.R_reads' HO_8.out).2.2 0 p133 q133; cases e133; have qi133 : (0 < x8_4.length) = True := eq_true (by omega); (try rw [show ((0 : Int)).toNat = 0 from rfl] at hx133_0); (try rw [Addr.add_zero'] at hx133_0); replace p133 := eq_true p133; replace q133 := eq_true q133; have p134 : 0 ≤ (1 : Int) := (by omega); have q134 : 1 < (x8_4.length : Int) := of_decide_eq_true (by first | (with_reducible assumption) | assumption); obtain ⟨ad134, e134, hx134_0⟩ := Kd.at_string (Kd.R_reads' HO_8.out).2.2 1 p134 q134; obtain rfl : ad133 = ad134 := (by injection e134); (try simp only [show (1 : Int).toNat = 1 from rfl, Nat.reduceMul, Nat.reduceEqDiff, Go.Addr.add, ↓reduceIte] at hx134_0); have qi134 : (1 < x8_4.length) = True := eq_true (by omega); (try rw [show ((1 : Int)).toNat = 1 from rfl] at hx134_0); replace p134 := eq_true p134; replace q134 := eq_true q134; have p135 : 0 ≤ (2 : Int) := (by omega); have q135 : 2 < (x8_4.length : Int) := of_decide_eq_true (by first | (with_reducible assumption) | assumption); obtain ⟨ad135, e135, hx135_0⟩ := Kd.at_string (Kd.R_reads' HO_8.out).2.2 2 p135 q135; obtain rfl : ad133 = ad135 := (by injection e135); (try simp only [show (2 : Int).toNat = 2 from rfl, Nat.reduceMul, Nat.reduceEqDiff, Go.Addr.add, ↓reduceIte] at hx135_0); have qi135 : (2 < x8_4.length) = True := eq_true (by omega); (try rw [show ((2 : Int)).toNat = 2 from rfl] at hx135_0); replace p135 := eq_true p135; replace q135 := eq_true q135))
                repeat (go_quiet (first | (go_at_call 33; (with_reducible refine (slices_Contains_string_string.calls kj4 _ _ x8_4 (⟨#[]⟩ : ByteArray) false _ ?side1 ?side2 A11.out).mono ?_); (case side1 => repeat (first | exact (Kd.R_reads' HO_8.out).2.2 | (with_reducible refine Kd.C_alloc ?_ _) | (with_reducible refine Kd.C_drewN ?_ _) | (with_reducible refine Kd.C_drew ?_))); (case side2 => exact (Kd.R_reads' HO_8.out).2.1); rintro e w' ⟨rfl, ⟨nd, rfl⟩⟩; (try first | exact ⟨rfl, _, World.drewN_drewN _ _ _⟩ | exact ⟨rfl, _, Eq.trans (World.drewN_drewN _ _ _) (congrArg (World.drewN _) (Nat.add_assoc _ _ _))⟩); have p133 : 0 ≤ (0 : Int) := (by omega); have q133 : 0 < (x8_4.length : Int) := of_decide_eq_true (by first | (with_reducible assumption) | assumption); obtain ⟨ad133, e133, hx133_0⟩ := Kd.at_string (Kd.R_reads' HO_8.out).2.2 0 p133 q133; cases e133; have qi133 : (0 < x8_4.length) = True := eq_true (by omega); (try rw [show ((0 : Int)).toNat = 0 from rfl] at hx133_0); (try rw [Addr.add_zero'] at hx133_0); replace p133 := eq_true p133; replace q133 := eq_true q133; have p134 : 0 ≤ (1 : Int) := (by omega); have q134 : 1 < (x8_4.length : Int) := of_decide_eq_true (by first | (with_reducible assumption) | assumption); obtain ⟨ad134, e134, hx134_0⟩ := Kd.at_string (Kd.R_reads' HO_8.out).2.2 1 p134 q134; obtain rfl : ad133 = ad134 := (by injection e134); (try simp only [show (1 : Int).toNat = 1 from rfl, Nat.reduceMul, Nat.reduceEqDiff, Go.Addr.add, ↓reduceIte] at hx134_0); have qi134 : (1 < x8_4.length) = True := eq_true (by omega); (try rw [show ((1 : Int)).toNat = 1 from rfl] at hx134_0); replace p134 := eq_true p134; replace q134 := eq_true q134; have p135 : 0 ≤ (2 : Int) := (by omega); have q135 : 2 < (x8_4.length : Int) := of_decide_eq_true (by first | (with_reducible assumption) | assumption); obtain ⟨ad135, e135, hx135_0⟩ := Kd.at_string (Kd.R_reads' HO_8.out).2.2 2 p135 q135; obtain rfl : ad133 = ad135 := (by injection e135); (try simp only [show (2 : Int).toNat = 2 from rfl, Nat.reduceMul, Nat.reduceEqDiff, Go.Addr.add, ↓reduceIte] at hx135_0); have qi135 : (2 < x8_4.length) = True := eq_true (by omega); (try rw [show ((2 : Int)).toNat = 2 from rfl] at hx135_0); replace p135 := eq_true p135; replace q135 := eq_true q135)); try go_wp2_with (first | (go_at_call 33; (with_reducible refine (slices_Contains_string_string.calls kj4 _ _ x8_4 (⟨#[]⟩ : ByteArray) false _ ?side1 ?side2 A11.out).mono ?_); (case side1 => repeat (first | exact (Kd.R_reads' HO_8.out).2.2 | (with_reducible refine Kd.C_alloc ?_ _) | (with_reducible refine Kd.C_drewN ?_ _) | (with_reducible refine Kd.C_drew ?_))); (case side2 => exact (Kd.R_reads' HO_8.out).2.1); rintro e w' ⟨rfl, ⟨nd, rfl⟩⟩; (try first | exact ⟨rfl, _, World.drewN_drewN _ _ _⟩ | exact ⟨rfl, _, Eq.trans (World.drewN_drewN _ _ _) (congrArg (World.drewN _) (Nat.add_assoc _ _ _))⟩); have p133 : 0 ≤ (0 : Int) := (by omega); have q133 : 0 < (x8_4.length : Int) := of_decide_eq_true (by first | (with_reducible assumption) | assumption); obtain ⟨ad133, e133, hx133_0⟩ := Kd.at_string (Kd.R_reads' HO_8.out).2.2 0 p133 q133; cases e133; have qi133 : (0 < x8_4.length) = True := eq_true (by omega); (try rw [show ((0 : Int)).toNat = 0 from rfl] at hx133_0); (try rw [Addr.add_zero'] at hx133_0); replace p133 := eq_true p133; replace q133 := eq_true q133; have p134 : 0 ≤ (1 : Int) := (by omega); have q134 : 1 < (x8_4.length : Int) := of_decide_eq_true (by first | (with_reducible assumption) | assumption); obtain ⟨ad134, e134, hx134_0⟩ := Kd.at_string (Kd.R_reads' HO_8.out).2.2 1 p134 q134; obtain rfl : ad133 = ad134 := (by injection e134); (try simp only [show (1 : Int).toNat = 1 from rfl, Nat.reduceMul, Nat.reduceEqDiff, Go.Addr.add, ↓reduceIte] at hx134_0); have qi134 : (1 < x8_4.length) = True := eq_true (by omega); (try rw [show ((1 : Int)).toNat = 1 from rfl] at hx134_0); replace p134 := eq_true p134; replace q134 := eq_true q134; have p135 : 0 ≤ (2 : Int) := (by omega); have q135 : 2 < (x8_4.length : Int) := of_decide_eq_true (by first | (with_reducible assumption) | assumption); obtain ⟨ad135, e135, hx135_0⟩ := Kd.at_string (Kd.R_reads' HO_8.out).2.2 2 p135 q135; obtain rfl : ad133 = ad135 := (by injection e135); (try simp only [show (2 : Int).toNat = 2 from rfl, Nat.reduceMul, Nat.reduceEqDiff, Go.Addr.add, ↓reduceIte] at hx135_0); have qi135 : (2 < x8_4.length) = True := eq_true (by omega); (try rw [show ((2 : Int)).toNat = 2 from rfl] at hx135_0); replace p135 := eq_true p135; replace q135 := eq_true q135)))
                refine bodyPost_ret (results_list (rs := [.tmp 4, .tmp 5, .tmp 6, .tmp 7]) rfl (by simp) (.tmp (.tmp (.tmp (.tmp .nil))))) rfl ?_
                exact ⟨by first | rfl | (simp [errW_none, errW_some] <;> rfl) | (simp [*, errW_none, errW_some] <;> rfl), by repeat (first | (with_reducible first | exact HB.out | apply below_alloc | apply pw_below_drewN | apply below_drew1) | exact HB.out)⟩
              · rw [if_neg c17] at H
                exact absurd H (by simp)
            · rw [if_neg c16] at H
              exact absurd H (by simp)
          · rw [if_neg c15] at H
            exact absurd H (by simp)
        · rw [if_neg c14] at H
          have c14b0 : ((x8_4.length : Int) == 3) = false := beq_eq_false_iff_ne.mpr c14
          have c14b1 : ((x8_4.length : Int) != 3) = true := bne_iff_ne.mpr c14
          have HC19 := Aside0.mk H
          clear H
          obtain ⟨Ao20, co20, eo20⟩ := Kd.R_slice HO_8.out
          subst eo20
          go_upto_region 9 with (first | (go_at_call 33; (with_reducible refine (slices_Contains_string_string.calls kj4 _ _ x8_4 (⟨#[]⟩ : ByteArray) false _ ?side1 ?side2 A11.out).mono ?_); (case side1 => repeat (first | exact (Kd.R_reads' HO_8.out).2.2 | (with_reducible refine Kd.C_alloc ?_ _) | (with_reducible refine Kd.C_drewN ?_ _) | (with_reducible refine Kd.C_drew ?_))); (case side2 => exact (Kd.R_reads' HO_8.out).2.1); rintro e w' ⟨rfl, ⟨nd, rfl⟩⟩; (try first | exact ⟨rfl, _, World.drewN_drewN _ _ _⟩ | exact ⟨rfl, _, Eq.trans (World.drewN_drewN _ _ _) (congrArg (World.drewN _) (Nat.add_assoc _ _ _))⟩)))
          repeat (go_quiet (first | (go_at_call 33; (with_reducible refine (slices_Contains_string_string.calls kj4 _ _ x8_4 (⟨#[]⟩ : ByteArray) false _ ?side1 ?side2 A11.out).mono ?_); (case side1 => repeat (first | exact (Kd.R_reads' HO_8.out).2.2 | (with_reducible refine Kd.C_alloc ?_ _) | (with_reducible refine Kd.C_drewN ?_ _) | (with_reducible refine Kd.C_drew ?_))); (case side2 => exact (Kd.R_reads' HO_8.out).2.1); rintro e w' ⟨rfl, ⟨nd, rfl⟩⟩; (try first | exact ⟨rfl, _, World.drewN_drewN _ _ _⟩ | exact ⟨rfl, _, Eq.trans (World.drewN_drewN _ _ _) (congrArg (World.drewN _) (Nat.add_assoc _ _ _))⟩))); go_upto_region 9 with (first | (go_at_call 33; (with_reducible refine (slices_Contains_string_string.calls kj4 _ _ x8_4 (⟨#[]⟩ : ByteArray) false _ ?side1 ?side2 A11.out).mono ?_); (case side1 => repeat (first | exact (Kd.R_reads' HO_8.out).2.2 | (with_reducible refine Kd.C_alloc ?_ _) | (with_reducible refine Kd.C_drewN ?_ _) | (with_reducible refine Kd.C_drew ?_))); (case side2 => exact (Kd.R_reads' HO_8.out).2.1); rintro e w' ⟨rfl, ⟨nd, rfl⟩⟩; (try first | exact ⟨rfl, _, World.drewN_drewN _ _ _⟩ | exact ⟨rfl, _, Eq.trans (World.drewN_drewN _ _ _) (congrArg (World.drewN _) (Nat.add_assoc _ _ _))⟩))))
          (try simp only [Act.put, List.setIfInBounds_toArray, List.set_cons_zero, List.set_cons_succ])
          go_cut [35] (fun v35 wc => ∃ (kq : Nat) (x35_18 : Bool), v35 = .bool x35_18 ∧ Aside0 (request_parted.j1 kq x0_4 a1 x8_4 (x8_4.length : Int) x35_18 = some (r1, r2, r3, r4)) ∧ Aside0 (kq ≤ kj4) ∧ Aside0 (Kd.R Kd.string 9 wc w.heap.size (fun _ => True) (.slice Ao20 x8_4.length co20) x8_4) ∧ Aside0 (Below w.heap.size w wc))
          case first =>
            have H := HC19.out
            clear HC19
            by_cases c21 : (x8_4.length : Int) > 3
            · rw [if_pos c21] at H
              have c21b0 : decide (3 < (x8_4.length : Int)) = true := decide_eq_true c21
              have c21b1 : decide (3 < x8_4.length) = true := decide_eq_true (by omega)
              clear c21
              (first | rw [c21b0] | (simp only [i64_w, i32_w]; rw [c21b0]) | skip)
              replace H := Option.bind_eq_some_iff.mp H
              obtain ⟨t136, A220, H⟩ := H
              replace H : (request_parted.j1 kj4 x0_4 a1 x8_4 (x8_4.length : Int) t136) = some (r1, r2, r3, r4) := H
              have A22 := Aside0.mk A220
              clear A220
              have H' := Aside0.mk H
              clear H
              go_wp2_with (first | (go_at_call 29; (with_reducible refine (quirks_Has.calls a1 7 t136 _ A22.out).mono ?_); rintro e w' ⟨rfl, ⟨nd, rfl⟩⟩; (try first | exact ⟨rfl, _, World.drewN_drewN _ _ _⟩ | exact ⟨rfl, _, Eq.trans (World.drewN_drewN _ _ _) (congrArg (World.drewN _) (Nat.add_assoc _ _ _))⟩)))
              repeat (go_quiet (first | (go_at_call 29; (with_reducible refine (quirks_Has.calls a1 7 t136 _ A22.out).mono ?_); rintro e w' ⟨rfl, ⟨nd, rfl⟩⟩; (try first | exact ⟨rfl, _, World.drewN_drewN _ _ _⟩ | exact ⟨rfl, _, Eq.trans (World.drewN_drewN _ _ _) (congrArg (World.drewN _) (Nat.add_assoc _ _ _))⟩))); try go_wp2_with (first | (go_at_call 29; (with_reducible refine (quirks_Has.calls a1 7 t136 _ A22.out).mono ?_); rintro e w' ⟨rfl, ⟨nd, rfl⟩⟩; (try first | exact ⟨rfl, _, World.drewN_drewN _ _ _⟩ | exact ⟨rfl, _, Eq.trans (World.drewN_drewN _ _ _) (congrArg (World.drewN _) (Nat.add_assoc _ _ _))⟩))))
              go_meet
              case rel => exact ⟨_, (t136), (by first | rfl | (simp; done) | (simp [*]; done)), H', ⟨by have := HJ4.out; first | omega | exact Nat.le_refl _⟩, ⟨by (with_reducible repeat (first | apply Kd.R_alloc | apply Kd.R_drewN | apply Kd.R_drew)); exact HO_8.out⟩, ⟨by repeat (first | (with_reducible first | exact HB.out | apply below_alloc | apply pw_below_drewN | apply below_drew1) | exact HB.out)⟩⟩
            · rw [if_neg c21] at H
              have c21b0 : decide (3 < (x8_4.length : Int)) = false := decide_eq_false c21
              have c21b1 : decide (3 < x8_4.length) = false := decide_eq_false (by omega)
              clear c21
              (first | rw [c21b0] | (simp only [i64_w, i32_w]; rw [c21b0]) | skip)
              have H' := Aside0.mk H
              clear H
              go_wp2
              repeat (go_quiet (fail); try go_wp2)
              go_meet
              case rel => exact ⟨_, (false), (by first | rfl | (simp; done) | (simp [*]; done)), H', ⟨by have := HJ4.out; first | omega | exact Nat.le_refl _⟩, ⟨by (with_reducible repeat (first | apply Kd.R_alloc | apply Kd.R_drewN | apply Kd.R_drew)); exact HO_8.out⟩, ⟨by repeat (first | (with_reducible first | exact HB.out | apply below_alloc | apply pw_below_drewN | apply below_drew1) | exact HB.out)⟩⟩
          case rest =>
            clear HC19
            try clear c1
            try clear p1
            try clear q1
            try clear hx1
            try clear qi1
            try clear c2
            try clear p2
            try clear c7
            try clear c12
            try clear p13
            try clear q13
            try clear hx13
            try clear qi13
            try clear c14
            try clear c14b0
            try clear c14b1
            try clear c15
            try clear c15b0
            try clear c15b1
            try clear c16
            try clear c16b0
            try clear c16b1
            try clear c17
            try clear c17b0
            try clear c17b1
            try clear c18
            try clear c21
            try clear c21b0
            try clear c21b1
            try clear hx133_0
            try clear hx134_0
            try clear hx135_0
            try clear p133
            try clear p134
            try clear p135
            try clear p2
            try clear q133
            try clear q134
            try clear q135
            obtain ⟨kq, x35_18, rfl, HA, HJ18, HO_8, HB⟩ := hcut
            cases kq with
            | zero => exact absurd HA.out (by simp [request_parted.j1])
            | succ kj18 =>
              have H := HA.out
              clear HA
              simp only [request_parted.j1] at H
              by_cases c23 : x35_18 = true
              · subst c23
                have H1 : (if 0 < (x8_4.length : Int) then (if 0 ≤ (wrap64 ((x8_4.length : Int) - 1)) then (if (wrap64 ((x8_4.length : Int) - 1)) < (x8_4.length : Int) then (if 0 ≤ (wrap64 (((rdOf ByteArray.empty x8_4 0).size : Int) + 1)) then (if (wrap64 (((rdOf ByteArray.empty x8_4 0).size : Int) + 1)) ≤ (wrap64 ((wrap64 ((x0_4.size : Int) - ((rdOf ByteArray.empty x8_4 (wrap64 ((x8_4.length : Int) - 1))).size : Int))) - 1)) then (if (wrap64 ((wrap64 ((x0_4.size : Int) - ((rdOf ByteArray.empty x8_4 (wrap64 ((x8_4.length : Int) - 1))).size : Int))) - 1)) ≤ (x0_4.size : Int) then ((quirks_Has.f a1 3).bind fun t139 => (if t139 = true then ((text_Trim.f (x0_4.extract ((wrap64 (((rdOf ByteArray.empty x8_4 0).size : Int) + 1)) : Int).toNat ((wrap64 ((wrap64 ((x0_4.size : Int) - ((rdOf ByteArray.empty x8_4 (wrap64 ((x8_4.length : Int) - 1))).size : Int))) - 1)) : Int).toNat)).bind fun t140 => (some (rdOf ByteArray.empty x8_4 0, t140, rdOf ByteArray.empty x8_4 (wrap64 ((x8_4.length : Int) - 1)), 0))) else (some (rdOf ByteArray.empty x8_4 0, x0_4.extract ((wrap64 (((rdOf ByteArray.empty x8_4 0).size : Int) + 1)) : Int).toNat ((wrap64 ((wrap64 ((x0_4.size : Int) - ((rdOf ByteArray.empty x8_4 (wrap64 ((x8_4.length : Int) - 1))).size : Int))) - 1)) : Int).toNat, rdOf ByteArray.empty x8_4 (wrap64 ((x8_4.length : Int) - 1)), 0)))) else (none)) else (none)) else (none)) else (none)) else (none)) else (none)) = some (r1, r2, r3, r4) := by rw [if_pos rfl] at H; exact H
                clear H
                have H := H1
                clear H1
                by_cases c24 : 0 < (x8_4.length : Int)
                · rw [if_pos c24] at H
                  have c24b0 : decide (0 < (x8_4.length : Int)) = true := decide_eq_true c24
                  have c24b1 : decide (0 < x8_4.length) = true := decide_eq_true (by omega)
                  clear c24
                  obtain ⟨ji25, hji25⟩ : ∃ j_ : Int, (wrap64 ((x8_4.length : Int) - 1)) = j_ := ⟨_, rfl⟩
                  replace H : (if 0 ≤ (ji25) then (if (ji25) < (x8_4.length : Int) then (if 0 ≤ (wrap64 (((rdOf ByteArray.empty x8_4 0).size : Int) + 1)) then (if (wrap64 (((rdOf ByteArray.empty x8_4 0).size : Int) + 1)) ≤ (wrap64 ((wrap64 ((x0_4.size : Int) - ((rdOf ByteArray.empty x8_4 (ji25)).size : Int))) - 1)) then (if (wrap64 ((wrap64 ((x0_4.size : Int) - ((rdOf ByteArray.empty x8_4 (ji25)).size : Int))) - 1)) ≤ (x0_4.size : Int) then ((quirks_Has.f a1 3).bind fun t139 => (if t139 = true then ((text_Trim.f (x0_4.extract ((wrap64 (((rdOf ByteArray.empty x8_4 0).size : Int) + 1)) : Int).toNat ((wrap64 ((wrap64 ((x0_4.size : Int) - ((rdOf ByteArray.empty x8_4 (ji25)).size : Int))) - 1)) : Int).toNat)).bind fun t140 => (some (rdOf ByteArray.empty x8_4 0, t140, rdOf ByteArray.empty x8_4 (ji25), 0))) else (some (rdOf ByteArray.empty x8_4 0, x0_4.extract ((wrap64 (((rdOf ByteArray.empty x8_4 0).size : Int) + 1)) : Int).toNat ((wrap64 ((wrap64 ((x0_4.size : Int) - ((rdOf ByteArray.empty x8_4 (ji25)).size : Int))) - 1)) : Int).toNat, rdOf ByteArray.empty x8_4 (ji25), 0)))) else (none)) else (none)) else (none)) else (none)) else (none)) = some (r1, r2, r3, r4) := by first | (rw [hji25] at H; exact H) | (simp only [hji25] at H ⊢; exact H)
                  have hji25w : (IntKind.i64.wrap ((x8_4.length : Int) - 1)) = ji25 := (i64_w _).trans hji25
                  by_cases c26 : 0 ≤ (ji25)
                  · rw [if_pos c26] at H
                    have c26b0 : decide (0 ≤ (ji25)) = true := decide_eq_true c26
                    clear c26
                    by_cases c27 : (ji25) < (x8_4.length : Int)
                    · rw [if_pos c27] at H
                      have c27b0 : decide ((ji25) < (x8_4.length : Int)) = true := decide_eq_true c27
                      clear c27
                      obtain ⟨ji28, hji28⟩ : ∃ j_ : Int, (wrap64 (((rdOf ByteArray.empty x8_4 0).size : Int) + 1)) = j_ := ⟨_, rfl⟩
                      replace H : (if 0 ≤ (ji28) then (if (ji28) ≤ (wrap64 ((wrap64 ((x0_4.size : Int) - ((rdOf ByteArray.empty x8_4 (ji25)).size : Int))) - 1)) then (if (wrap64 ((wrap64 ((x0_4.size : Int) - ((rdOf ByteArray.empty x8_4 (ji25)).size : Int))) - 1)) ≤ (x0_4.size : Int) then ((quirks_Has.f a1 3).bind fun t139 => (if t139 = true then ((text_Trim.f (x0_4.extract ((ji28) : Int).toNat ((wrap64 ((wrap64 ((x0_4.size : Int) - ((rdOf ByteArray.empty x8_4 (ji25)).size : Int))) - 1)) : Int).toNat)).bind fun t140 => (some (rdOf ByteArray.empty x8_4 0, t140, rdOf ByteArray.empty x8_4 (ji25), 0))) else (some (rdOf ByteArray.empty x8_4 0, x0_4.extract ((ji28) : Int).toNat ((wrap64 ((wrap64 ((x0_4.size : Int) - ((rdOf ByteArray.empty x8_4 (ji25)).size : Int))) - 1)) : Int).toNat, rdOf ByteArray.empty x8_4 (ji25), 0)))) else (none)) else (none)) else (none)) = some (r1, r2, r3, r4) := by first | (rw [hji28] at H; exact H) | (simp only [hji28] at H ⊢; exact H)
                      have hji28w : (IntKind.i64.wrap (((rdOf ByteArray.empty x8_4 0).size : Int) + 1)) = ji28 := (i64_w _).trans hji28
                      by_cases c29 : 0 ≤ (ji28)
                      · rw [if_pos c29] at H
                        have c29b0 := eq_true c29
                        have c29b1 : decide (0 ≤ (ji28)) = true := decide_eq_true c29
                        clear c29
                        by_cases c30 : (ji28) ≤ (wrap64 ((wrap64 ((x0_4.size : Int) - ((rdOf ByteArray.empty x8_4 (ji25)).size : Int))) - 1))
                        · rw [if_pos c30] at H
                          have c30b0 := eq_true c30
                          have c30b1 : decide ((ji28) ≤ (wrap64 ((wrap64 ((x0_4.size : Int) - ((rdOf ByteArray.empty x8_4 (ji25)).size : Int))) - 1))) = true := decide_eq_true c30
                          clear c30
                          by_cases c31 : (wrap64 ((wrap64 ((x0_4.size : Int) - ((rdOf ByteArray.empty x8_4 (ji25)).size : Int))) - 1)) ≤ (x0_4.size : Int)
                          · rw [if_pos c31] at H
                            have c31b0 := eq_true c31
                            have c31b1 : decide ((wrap64 ((wrap64 ((x0_4.size : Int) - ((rdOf ByteArray.empty x8_4 (ji25)).size : Int))) - 1)) ≤ (x0_4.size : Int)) = true := decide_eq_true c31
                            clear c31
                            replace H := Option.bind_eq_some_iff.mp H
                            obtain ⟨t139, A320, H⟩ := H
                            replace H : (if t139 = true then ((text_Trim.f (x0_4.extract ((ji28) : Int).toNat ((wrap64 ((wrap64 ((x0_4.size : Int) - ((rdOf ByteArray.empty x8_4 (ji25)).size : Int))) - 1)) : Int).toNat)).bind fun t140 => (some (rdOf ByteArray.empty x8_4 0, t140, rdOf ByteArray.empty x8_4 (ji25), 0))) else (some (rdOf ByteArray.empty x8_4 0, x0_4.extract ((ji28) : Int).toNat ((wrap64 ((wrap64 ((x0_4.size : Int) - ((rdOf ByteArray.empty x8_4 (ji25)).size : Int))) - 1)) : Int).toNat, rdOf ByteArray.empty x8_4 (ji25), 0))) = some (r1, r2, r3, r4) := H
                            have A32 := Aside0.mk A320
                            clear A320
                            by_cases c33 : t139 = true
                            · subst c33
                              have H1 : ((text_Trim.f (x0_4.extract ((ji28) : Int).toNat ((wrap64 ((wrap64 ((x0_4.size : Int) - ((rdOf ByteArray.empty x8_4 (ji25)).size : Int))) - 1)) : Int).toNat)).bind fun t140 => (some (rdOf ByteArray.empty x8_4 0, t140, rdOf ByteArray.empty x8_4 (ji25), 0))) = some (r1, r2, r3, r4) := by rw [if_pos rfl] at H; exact H
                              clear H
                              have H := H1
                              clear H1
                              replace H := Option.bind_eq_some_iff.mp H
                              obtain ⟨t140, A340, H⟩ := H
                              replace H : (some (rdOf ByteArray.empty x8_4 0, t140, rdOf ByteArray.empty x8_4 (ji25), 0)) = some (r1, r2, r3, r4) := H
                              have A34 := Aside0.mk A340
                              clear A340
                              simp only [Option.some.injEq, Prod.mk.injEq] at H
                              obtain ⟨rfl, rfl, rfl, rfl⟩ := H
                              have p137 : 0 ≤ (0 : Int) := (by omega)
                              have q137 : 0 < (x8_4.length : Int) := of_decide_eq_true (by first | (with_reducible assumption) | assumption)
                              obtain ⟨ad137, e137, hx137_0⟩ := Kd.at_string (Kd.R_reads' HO_8.out).2.2 0 p137 q137
                              cases e137
                              have qi137 : (0 < x8_4.length) = True := eq_true (by omega)
                              (try rw [show ((0 : Int)).toNat = 0 from rfl] at hx137_0)
                              (try rw [Addr.add_zero'] at hx137_0)
                              replace p137 := eq_true p137
                              replace q137 := eq_true q137
                              have p138 : 0 ≤ ((ji25) : Int) := of_decide_eq_true (by first | (with_reducible assumption) | assumption)
                              have q138 : (ji25) < (x8_4.length : Int) := of_decide_eq_true (by first | (with_reducible assumption) | assumption)
                              obtain ⟨ad138, e138, hx138_0⟩ := Kd.at_string (Kd.R_reads' HO_8.out).2.2 (ji25) p138 q138
                              obtain rfl : ad137 = ad138 := (by injection e138)
                              replace p138 := eq_true p138
                              replace q138 := eq_true q138
                              go_wp2_with (first | (go_at_call 29; (with_reducible refine (quirks_Has.calls a1 3 true _ A32.out).mono ?_); rintro e w' ⟨rfl, ⟨nd, rfl⟩⟩; (try first | exact ⟨rfl, _, World.drewN_drewN _ _ _⟩ | exact ⟨rfl, _, Eq.trans (World.drewN_drewN _ _ _) (congrArg (World.drewN _) (Nat.add_assoc _ _ _))⟩)) | (go_at_call 30; (with_reducible refine (text_Trim.calls (x0_4.extract ((ji28) : Int).toNat ((wrap64 ((wrap64 ((x0_4.size : Int) - ((rdOf ByteArray.empty x8_4 (ji25)).size : Int))) - 1)) : Int).toNat) t140 _ A34.out).mono ?_); rintro e w' ⟨rfl, ⟨nd, rfl⟩⟩; (try first | exact ⟨rfl, _, World.drewN_drewN _ _ _⟩ | exact ⟨rfl, _, Eq.trans (World.drewN_drewN _ _ _) (congrArg (World.drewN _) (Nat.add_assoc _ _ _))⟩); have p141 : 0 ≤ (0 : Int) := (by omega); have q141 : 0 < (x8_4.length : Int) := of_decide_eq_true (by first | (with_reducible assumption) | assumption); obtain ⟨ad141, e141, hx141_0⟩ := Kd.at_string (Kd.R_reads' HO_8.out).2.2 0 p141 q141; obtain rfl : ad137 = ad141 := (by injection e141); have qi141 : (0 < x8_4.length) = True := eq_true (by omega); (try rw [show ((0 : Int)).toNat = 0 from rfl] at hx141_0); (try rw [Addr.add_zero'] at hx141_0); replace p141 := eq_true p141; replace q141 := eq_true q141; have p142 : 0 ≤ ((ji25) : Int) := of_decide_eq_true (by first | (with_reducible assumption) | assumption); have q142 : (ji25) < (x8_4.length : Int) := of_decide_eq_true (by first | (with_reducible assumption) | assumption); obtain ⟨ad142, e142, hx142_0⟩ := Kd.at_string (Kd.R_reads' HO_8.out).2.2 (ji25) p142 q142; obtain rfl : ad137 = ad142 := (by injection e142); replace p142 := eq_true p142; replace q142 := eq_true q142))
                              repeat (go_quiet (first | (go_at_call 29; (with_reducible refine (quirks_Has.calls a1 3 true _ A32.out).mono ?_); rintro e w' ⟨rfl, ⟨nd, rfl⟩⟩; (try first | exact ⟨rfl, _, World.drewN_drewN _ _ _⟩ | exact ⟨rfl, _, Eq.trans (World.drewN_drewN _ _ _) (congrArg (World.drewN _) (Nat.add_assoc _ _ _))⟩)) | (go_at_call 30; (with_reducible refine (text_Trim.calls (x0_4.extract ((ji28) : Int).toNat ((wrap64 ((wrap64 ((x0_4.size : Int) - ((rdOf ByteArray.empty x8_4 (ji25)).size : Int))) - 1)) : Int).toNat) t140 _ A34.out).mono ?_); rintro e w' ⟨rfl, ⟨nd, rfl⟩⟩; (try first | exact ⟨rfl, _, World.drewN_drewN _ _ _⟩ | exact ⟨rfl, _, Eq.trans (World.drewN_drewN _ _ _) (congrArg (World.drewN _) (Nat.add_assoc _ _ _))⟩); have p141 : 0 ≤ (0 : Int) := (by omega); have q141 : 0 < (x8_4.length : Int) := of_decide_eq_true (by first | (with_reducible assumption) | assumption); obtain ⟨ad141, e141, hx141_0⟩ := Kd.at_string (Kd.R_reads' HO_8.out).2.2 0 p141 q141; obtain rfl : ad137 = ad141 := (by injection e141); have qi141 : (0 < x8_4.length) = True := eq_true (by omega); (try rw [show ((0 : Int)).toNat = 0 from rfl] at hx141_0); (try rw [Addr.add_zero'] at hx141_0); replace p141 := eq_true p141; replace q141 := eq_true q141; have p142 : 0 ≤ ((ji25) : Int) := of_decide_eq_true (by first | (with_reducible assumption) | assumption); have q142 : (ji25) < (x8_4.length : Int) := of_decide_eq_true (by first | (with_reducible assumption) | assumption); obtain ⟨ad142, e142, hx142_0⟩ := Kd.at_string (Kd.R_reads' HO_8.out).2.2 (ji25) p142 q142; obtain rfl : ad137 = ad142 := (by injection e142); replace p142 := eq_true p142; replace q142 := eq_true q142)); try go_wp2_with (first | (go_at_call 29; (with_reducible refine (quirks_Has.calls a1 3 true _ A32.out).mono ?_); rintro e w' ⟨rfl, ⟨nd, rfl⟩⟩; (try first | exact ⟨rfl, _, World.drewN_drewN _ _ _⟩ | exact ⟨rfl, _, Eq.trans (World.drewN_drewN _ _ _) (congrArg (World.drewN _) (Nat.add_assoc _ _ _))⟩)) | (go_at_call 30; (with_reducible refine (text_Trim.calls (x0_4.extract ((ji28) : Int).toNat ((wrap64 ((wrap64 ((x0_4.size : Int) - ((rdOf ByteArray.empty x8_4 (ji25)).size : Int))) - 1)) : Int).toNat) t140 _ A34.out).mono ?_); rintro e w' ⟨rfl, ⟨nd, rfl⟩⟩; (try first | exact ⟨rfl, _, World.drewN_drewN _ _ _⟩ | exact ⟨rfl, _, Eq.trans (World.drewN_drewN _ _ _) (congrArg (World.drewN _) (Nat.add_assoc _ _ _))⟩); have p141 : 0 ≤ (0 : Int) := (by omega); have q141 : 0 < (x8_4.length : Int) := of_decide_eq_true (by first | (with_reducible assumption) | assumption); obtain ⟨ad141, e141, hx141_0⟩ := Kd.at_string (Kd.R_reads' HO_8.out).2.2 0 p141 q141; obtain rfl : ad137 = ad141 := (by injection e141); have qi141 : (0 < x8_4.length) = True := eq_true (by omega); (try rw [show ((0 : Int)).toNat = 0 from rfl] at hx141_0); (try rw [Addr.add_zero'] at hx141_0); replace p141 := eq_true p141; replace q141 := eq_true q141; have p142 : 0 ≤ ((ji25) : Int) := of_decide_eq_true (by first | (with_reducible assumption) | assumption); have q142 : (ji25) < (x8_4.length : Int) := of_decide_eq_true (by first | (with_reducible assumption) | assumption); obtain ⟨ad142, e142, hx142_0⟩ := Kd.at_string (Kd.R_reads' HO_8.out).2.2 (ji25) p142 q142; obtain rfl : ad137 = ad142 := (by injection e142); replace p142 := eq_true p142; replace q142 := eq_true q142)))
                              refine bodyPost_ret (results_list (rs := [.tmp 4, .tmp 5, .tmp 6, .tmp 7]) rfl (by simp) (.tmp (.tmp (.tmp (.tmp .nil))))) rfl ?_
                              exact ⟨by first | rfl | (simp [errW_none, errW_some] <;> rfl) | (simp only [← hji25, ← hji28]; first | rfl | (simp [errW_none, errW_some] <;> rfl)) | (simp [*, errW_none, errW_some] <;> rfl), by repeat (first | (with_reducible first | exact HB.out | apply below_alloc | apply pw_below_drewN | apply below_drew1) | exact HB.out)⟩
                            · replace c33 := Bool.eq_false_iff.mpr c33
                              subst c33
                              have H1 : (some (rdOf ByteArray.empty x8_4 0, x0_4.extract ((ji28) : Int).toNat ((wrap64 ((wrap64 ((x0_4.size : Int) - ((rdOf ByteArray.empty x8_4 (ji25)).size : Int))) - 1)) : Int).toNat, rdOf ByteArray.empty x8_4 (ji25), 0)) = some (r1, r2, r3, r4) := by rw [if_neg (show ¬ (false = true) by decide)] at H; exact H
                              clear H
                              have H := H1
                              clear H1
                              simp only [Option.some.injEq, Prod.mk.injEq] at H
                              obtain ⟨rfl, rfl, rfl, rfl⟩ := H
                              have p137 : 0 ≤ (0 : Int) := (by omega)
                              have q137 : 0 < (x8_4.length : Int) := of_decide_eq_true (by first | (with_reducible assumption) | assumption)
                              obtain ⟨ad137, e137, hx137_0⟩ := Kd.at_string (Kd.R_reads' HO_8.out).2.2 0 p137 q137
                              cases e137
                              have qi137 : (0 < x8_4.length) = True := eq_true (by omega)
                              (try rw [show ((0 : Int)).toNat = 0 from rfl] at hx137_0)
                              (try rw [Addr.add_zero'] at hx137_0)
                              replace p137 := eq_true p137
                              replace q137 := eq_true q137
                              have p138 : 0 ≤ ((ji25) : Int) := of_decide_eq_true (by first | (with_reducible assumption) | assumption)
                              have q138 : (ji25) < (x8_4.length : Int) := of_decide_eq_true (by first | (with_reducible assumption) | assumption)
                              obtain ⟨ad138, e138, hx138_0⟩ := Kd.at_string (Kd.R_reads' HO_8.out).2.2 (ji25) p138 q138
                              obtain rfl : ad137 = ad138 := (by injection e138)
                              replace p138 := eq_true p138
                              replace q138 := eq_true q138
                              go_wp2_with (first | (go_at_call 29; (with_reducible refine (quirks_Has.calls a1 3 false _ A32.out).mono ?_); rintro e w' ⟨rfl, ⟨nd, rfl⟩⟩; (try first | exact ⟨rfl, _, World.drewN_drewN _ _ _⟩ | exact ⟨rfl, _, Eq.trans (World.drewN_drewN _ _ _) (congrArg (World.drewN _) (Nat.add_assoc _ _ _))⟩); have p143 : 0 ≤ (0 : Int) := (by omega); have q143 : 0 < (x8_4.length : Int) := of_decide_eq_true (by first | (with_reducible assumption) | assumption); obtain ⟨ad143, e143, hx143_0⟩ := Kd.at_string (Kd.R_reads' HO_8.out).2.2 0 p143 q143; obtain rfl : ad137 = ad143 := (by injection e143); have qi143 : (0 < x8_4.length) = True := eq_true (by omega); (try rw [show ((0 : Int)).toNat = 0 from rfl] at hx143_0); (try rw [Addr.add_zero'] at hx143_0); replace p143 := eq_true p143; replace q143 := eq_true q143; have p144 : 0 ≤ ((ji25) : Int) := of_decide_eq_true (by first | (with_reducible assumption) | assumption); have q144 : (ji25) < (x8_4.length : Int) := of_decide_eq_true (by first | (with_reducible assumption) | assumption); obtain ⟨ad144, e144, hx144_0⟩ := Kd.at_string (Kd.R_reads' HO_8.out).2.2 (ji25) p144 q144; obtain rfl : ad137 = ad144 := (by injection e144); replace p144 := eq_true p144; replace q144 := eq_true q144))
                              repeat (go_quiet (first | (go_at_call 29; (with_reducible refine (quirks_Has.calls a1 3 false _ A32.out).mono ?_); rintro e w' ⟨rfl, ⟨nd, rfl⟩⟩; (try first | exact ⟨rfl, _, World.drewN_drewN _ _ _⟩ | exact ⟨rfl, _, Eq.trans (World.drewN_drewN _ _ _) (congrArg (World.drewN _) (Nat.add_assoc _ _ _))⟩); have p143 : 0 ≤ (0 : Int) := (by omega); have q143 : 0 < (x8_4.length : Int) := of_decide_eq_true (by first | (with_reducible assumption) | assumption); obtain ⟨ad143, e143, hx143_0⟩ := Kd.at_string (Kd.R_reads' HO_8.out).2.2 0 p143 q143; obtain rfl : ad137 = ad143 := (by injection e143); have qi143 : (0 < x8_4.length) = True := eq_true (by omega); (try rw [show ((0 : Int)).toNat = 0 from rfl] at hx143_0); (try rw [Addr.add_zero'] at hx143_0); replace p143 := eq_true p143; replace q143 := eq_true q143; have p144 : 0 ≤ ((ji25) : Int) := of_decide_eq_true (by first | (with_reducible assumption) | assumption); have q144 : (ji25) < (x8_4.length : Int) := of_decide_eq_true (by first | (with_reducible assumption) | assumption); obtain ⟨ad144, e144, hx144_0⟩ := Kd.at_string (Kd.R_reads' HO_8.out).2.2 (ji25) p144 q144; obtain rfl : ad137 = ad144 := (by injection e144); replace p144 := eq_true p144; replace q144 := eq_true q144)); try go_wp2_with (first | (go_at_call 29; (with_reducible refine (quirks_Has.calls a1 3 false _ A32.out).mono ?_); rintro e w' ⟨rfl, ⟨nd, rfl⟩⟩; (try first | exact ⟨rfl, _, World.drewN_drewN _ _ _⟩ | exact ⟨rfl, _, Eq.trans (World.drewN_drewN _ _ _) (congrArg (World.drewN _) (Nat.add_assoc _ _ _))⟩); have p143 : 0 ≤ (0 : Int) := (by omega); have q143 : 0 < (x8_4.length : Int) := of_decide_eq_true (by first | (with_reducible assumption) | assumption); obtain ⟨ad143, e143, hx143_0⟩ := Kd.at_string (Kd.R_reads' HO_8.out).2.2 0 p143 q143; obtain rfl : ad137 = ad143 := (by injection e143); have qi143 : (0 < x8_4.length) = True := eq_true (by omega); (try rw [show ((0 : Int)).toNat = 0 from rfl] at hx143_0); (try rw [Addr.add_zero'] at hx143_0); replace p143 := eq_true p143; replace q143 := eq_true q143; have p144 : 0 ≤ ((ji25) : Int) := of_decide_eq_true (by first | (with_reducible assumption) | assumption); have q144 : (ji25) < (x8_4.length : Int) := of_decide_eq_true (by first | (with_reducible assumption) | assumption); obtain ⟨ad144, e144, hx144_0⟩ := Kd.at_string (Kd.R_reads' HO_8.out).2.2 (ji25) p144 q144; obtain rfl : ad137 = ad144 := (by injection e144); replace p144 := eq_true p144; replace q144 := eq_true q144)))
                              refine bodyPost_ret (results_list (rs := [.tmp 4, .tmp 5, .tmp 6, .tmp 7]) rfl (by simp) (.tmp (.tmp (.tmp (.tmp .nil))))) rfl ?_
                              exact ⟨by first | rfl | (simp [errW_none, errW_some] <;> rfl) | (simp only [← hji25, ← hji28]; first | rfl | (simp [errW_none, errW_some] <;> rfl)) | (simp [*, errW_none, errW_some] <;> rfl), by repeat (first | (with_reducible first | exact HB.out | apply below_alloc | apply pw_below_drewN | apply below_drew1) | exact HB.out)⟩
                          · rw [if_neg c31] at H
                            exact absurd H (by simp)
                        · rw [if_neg c30] at H
                          exact absurd H (by simp)
                      · rw [if_neg c29] at H
                        exact absurd H (by simp)
                    · rw [if_neg c27] at H
                      exact absurd H (by simp)
                  · rw [if_neg c26] at H
                    exact absurd H (by simp)
                · rw [if_neg c24] at H
                  exact absurd H (by simp)
              · replace c23 := Bool.eq_false_iff.mpr c23
                subst c23
                have H1 : (if (x8_4.length : Int) = 2 then ((quirks_Has.f a1 6).bind fun t145 => (if t145 = true then (if 0 < (x8_4.length : Int) then (if 1 < (x8_4.length : Int) then (some (rdOf ByteArray.empty x8_4 0, rdOf ByteArray.empty x8_4 1, (⟨#[]⟩ : ByteArray), 0)) else (none)) else (none)) else (some ((⟨#[]⟩ : ByteArray), (⟨#[]⟩ : ByteArray), (⟨#[]⟩ : ByteArray), 400)))) else (some ((⟨#[]⟩ : ByteArray), (⟨#[]⟩ : ByteArray), (⟨#[]⟩ : ByteArray), 400))) = some (r1, r2, r3, r4) := by rw [if_neg (show ¬ (false = true) by decide)] at H; exact H
                clear H
                have H := H1
                clear H1
                by_cases c35 : (x8_4.length : Int) = 2
                · rw [if_pos c35] at H
                  have c35b0 : ((x8_4.length : Int) == 2) = true := beq_iff_eq.mpr c35
                  have c35b1 : ((x8_4.length : Int) != 2) = false := bne_eq_false_iff_eq.mpr c35
                  clear c35
                  replace H := Option.bind_eq_some_iff.mp H
                  obtain ⟨t145, A360, H⟩ := H
                  replace H : (if t145 = true then (if 0 < (x8_4.length : Int) then (if 1 < (x8_4.length : Int) then (some (rdOf ByteArray.empty x8_4 0, rdOf ByteArray.empty x8_4 1, (⟨#[]⟩ : ByteArray), 0)) else (none)) else (none)) else (some ((⟨#[]⟩ : ByteArray), (⟨#[]⟩ : ByteArray), (⟨#[]⟩ : ByteArray), 400))) = some (r1, r2, r3, r4) := H
                  have A36 := Aside0.mk A360
                  clear A360
                  by_cases c37 : t145 = true
                  · subst c37
                    have H1 : (if 0 < (x8_4.length : Int) then (if 1 < (x8_4.length : Int) then (some (rdOf ByteArray.empty x8_4 0, rdOf ByteArray.empty x8_4 1, (⟨#[]⟩ : ByteArray), 0)) else (none)) else (none)) = some (r1, r2, r3, r4) := by rw [if_pos rfl] at H; exact H
                    clear H
                    have H := H1
                    clear H1
                    by_cases c38 : 0 < (x8_4.length : Int)
                    · rw [if_pos c38] at H
                      have c38b0 : decide (0 < (x8_4.length : Int)) = true := decide_eq_true c38
                      have c38b1 : decide (0 < x8_4.length) = true := decide_eq_true (by omega)
                      clear c38
                      by_cases c39 : 1 < (x8_4.length : Int)
                      · rw [if_pos c39] at H
                        have c39b0 : decide (1 < (x8_4.length : Int)) = true := decide_eq_true c39
                        have c39b1 : decide (1 < x8_4.length) = true := decide_eq_true (by omega)
                        clear c39
                        simp only [Option.some.injEq, Prod.mk.injEq] at H
                        obtain ⟨rfl, rfl, rfl, rfl⟩ := H
                        go_wp2_with (first | (go_at_call 29; (with_reducible refine (quirks_Has.calls a1 6 true _ A36.out).mono ?_); rintro e w' ⟨rfl, ⟨nd, rfl⟩⟩; (try first | exact ⟨rfl, _, World.drewN_drewN _ _ _⟩ | exact ⟨rfl, _, Eq.trans (World.drewN_drewN _ _ _) (congrArg (World.drewN _) (Nat.add_assoc _ _ _))⟩); have p146 : 0 ≤ (0 : Int) := (by omega); have q146 : 0 < (x8_4.length : Int) := of_decide_eq_true (by first | (with_reducible assumption) | assumption); obtain ⟨ad146, e146, hx146_0⟩ := Kd.at_string (Kd.R_reads' HO_8.out).2.2 0 p146 q146; cases e146; have qi146 : (0 < x8_4.length) = True := eq_true (by omega); (try rw [show ((0 : Int)).toNat = 0 from rfl] at hx146_0); (try rw [Addr.add_zero'] at hx146_0); replace p146 := eq_true p146; replace q146 := eq_true q146; have p147 : 0 ≤ (1 : Int) := (by omega); have q147 : 1 < (x8_4.length : Int) := of_decide_eq_true (by first | (with_reducible assumption) | assumption); obtain ⟨ad147, e147, hx147_0⟩ := Kd.at_string (Kd.R_reads' HO_8.out).2.2 1 p147 q147; obtain rfl : ad146 = ad147 := (by injection e147); (try simp only [show (1 : Int).toNat = 1 from rfl, Nat.reduceMul, Nat.reduceEqDiff, Go.Addr.add, ↓reduceIte] at hx147_0); have qi147 : (1 < x8_4.length) = True := eq_true (by omega); (try rw [show ((1 : Int)).toNat = 1 from rfl] at hx147_0); replace p147 := eq_true p147; replace q147 := eq_true q147))
                        repeat (go_quiet (first | (go_at_call 29; (with_reducible refine (quirks_Has.calls a1 6 true _ A36.out).mono ?_); rintro e w' ⟨rfl, ⟨nd, rfl⟩⟩; (try first | exact ⟨rfl, _, World.drewN_drewN _ _ _⟩ | exact ⟨rfl, _, Eq.trans (World.drewN_drewN _ _ _) (congrArg (World.drewN _) (Nat.add_assoc _ _ _))⟩); have p146 : 0 ≤ (0 : Int) := (by omega); have q146 : 0 < (x8_4.length : Int) := of_decide_eq_true (by first | (with_reducible assumption) | assumption); obtain ⟨ad146, e146, hx146_0⟩ := Kd.at_string (Kd.R_reads' HO_8.out).2.2 0 p146 q146; cases e146; have qi146 : (0 < x8_4.length) = True := eq_true (by omega); (try rw [show ((0 : Int)).toNat = 0 from rfl] at hx146_0); (try rw [Addr.add_zero'] at hx146_0); replace p146 := eq_true p146; replace q146 := eq_true q146; have p147 : 0 ≤ (1 : Int) := (by omega); have q147 : 1 < (x8_4.length : Int) := of_decide_eq_true (by first | (with_reducible assumption) | assumption); obtain ⟨ad147, e147, hx147_0⟩ := Kd.at_string (Kd.R_reads' HO_8.out).2.2 1 p147 q147; obtain rfl : ad146 = ad147 := (by injection e147); (try simp only [show (1 : Int).toNat = 1 from rfl, Nat.reduceMul, Nat.reduceEqDiff, Go.Addr.add, ↓reduceIte] at hx147_0); have qi147 : (1 < x8_4.length) = True := eq_true (by omega); (try rw [show ((1 : Int)).toNat = 1 from rfl] at hx147_0); replace p147 := eq_true p147; replace q147 := eq_true q147)); try go_wp2_with (first | (go_at_call 29; (with_reducible refine (quirks_Has.calls a1 6 true _ A36.out).mono ?_); rintro e w' ⟨rfl, ⟨nd, rfl⟩⟩; (try first | exact ⟨rfl, _, World.drewN_drewN _ _ _⟩ | exact ⟨rfl, _, Eq.trans (World.drewN_drewN _ _ _) (congrArg (World.drewN _) (Nat.add_assoc _ _ _))⟩); have p146 : 0 ≤ (0 : Int) := (by omega); have q146 : 0 < (x8_4.length : Int) := of_decide_eq_true (by first | (with_reducible assumption) | assumption); obtain ⟨ad146, e146, hx146_0⟩ := Kd.at_string (Kd.R_reads' HO_8.out).2.2 0 p146 q146; cases e146; have qi146 : (0 < x8_4.length) = True := eq_true (by omega); (try rw [show ((0 : Int)).toNat = 0 from rfl] at hx146_0); (try rw [Addr.add_zero'] at hx146_0); replace p146 := eq_true p146; replace q146 := eq_true q146; have p147 : 0 ≤ (1 : Int) := (by omega); have q147 : 1 < (x8_4.length : Int) := of_decide_eq_true (by first | (with_reducible assumption) | assumption); obtain ⟨ad147, e147, hx147_0⟩ := Kd.at_string (Kd.R_reads' HO_8.out).2.2 1 p147 q147; obtain rfl : ad146 = ad147 := (by injection e147); (try simp only [show (1 : Int).toNat = 1 from rfl, Nat.reduceMul, Nat.reduceEqDiff, Go.Addr.add, ↓reduceIte] at hx147_0); have qi147 : (1 < x8_4.length) = True := eq_true (by omega); (try rw [show ((1 : Int)).toNat = 1 from rfl] at hx147_0); replace p147 := eq_true p147; replace q147 := eq_true q147)))
                        refine bodyPost_ret (results_list (rs := [.tmp 4, .tmp 5, .tmp 6, .tmp 7]) rfl (by simp) (.tmp (.tmp (.tmp (.tmp .nil))))) rfl ?_
                        exact ⟨by first | rfl | (simp [errW_none, errW_some] <;> rfl) | (simp [*, errW_none, errW_some] <;> rfl), by repeat (first | (with_reducible first | exact HB.out | apply below_alloc | apply pw_below_drewN | apply below_drew1) | exact HB.out)⟩
                      · rw [if_neg c39] at H
                        exact absurd H (by simp)
                    · rw [if_neg c38] at H
                      exact absurd H (by simp)
                  · replace c37 := Bool.eq_false_iff.mpr c37
                    subst c37
                    have H1 : (some ((⟨#[]⟩ : ByteArray), (⟨#[]⟩ : ByteArray), (⟨#[]⟩ : ByteArray), 400)) = some (r1, r2, r3, r4) := by rw [if_neg (show ¬ (false = true) by decide)] at H; exact H
                    clear H
                    have H := H1
                    clear H1
                    simp only [Option.some.injEq, Prod.mk.injEq] at H
                    obtain ⟨rfl, rfl, rfl, rfl⟩ := H
                    go_wp2_with (first | (go_at_call 29; (with_reducible refine (quirks_Has.calls a1 6 false _ A36.out).mono ?_); rintro e w' ⟨rfl, ⟨nd, rfl⟩⟩; (try first | exact ⟨rfl, _, World.drewN_drewN _ _ _⟩ | exact ⟨rfl, _, Eq.trans (World.drewN_drewN _ _ _) (congrArg (World.drewN _) (Nat.add_assoc _ _ _))⟩)))
                    repeat (go_quiet (first | (go_at_call 29; (with_reducible refine (quirks_Has.calls a1 6 false _ A36.out).mono ?_); rintro e w' ⟨rfl, ⟨nd, rfl⟩⟩; (try first | exact ⟨rfl, _, World.drewN_drewN _ _ _⟩ | exact ⟨rfl, _, Eq.trans (World.drewN_drewN _ _ _) (congrArg (World.drewN _) (Nat.add_assoc _ _ _))⟩))); try go_wp2_with (first | (go_at_call 29; (with_reducible refine (quirks_Has.calls a1 6 false _ A36.out).mono ?_); rintro e w' ⟨rfl, ⟨nd, rfl⟩⟩; (try first | exact ⟨rfl, _, World.drewN_drewN _ _ _⟩ | exact ⟨rfl, _, Eq.trans (World.drewN_drewN _ _ _) (congrArg (World.drewN _) (Nat.add_assoc _ _ _))⟩))))
                    refine bodyPost_ret (results_list (rs := [.tmp 4, .tmp 5, .tmp 6, .tmp 7]) rfl (by simp) (.tmp (.tmp (.tmp (.tmp .nil))))) rfl ?_
                    exact ⟨by first | rfl | (simp [errW_none, errW_some] <;> rfl) | (simp [*, errW_none, errW_some] <;> rfl), by repeat (first | (with_reducible first | exact HB.out | apply below_alloc | apply pw_below_drewN | apply below_drew1) | exact HB.out)⟩
                · rw [if_neg c35] at H
                  have c35b0 : ((x8_4.length : Int) == 2) = false := beq_eq_false_iff_ne.mpr c35
                  have c35b1 : ((x8_4.length : Int) != 2) = true := bne_iff_ne.mpr c35
                  simp only [Option.some.injEq, Prod.mk.injEq] at H
                  obtain ⟨rfl, rfl, rfl, rfl⟩ := H
                  go_wp2
                  repeat (go_quiet (fail); try go_wp2)
                  refine bodyPost_ret (results_list (rs := [.tmp 4, .tmp 5, .tmp 6, .tmp 7]) rfl (by simp) (.tmp (.tmp (.tmp (.tmp .nil))))) rfl ?_
                  exact ⟨by first | rfl | (simp [errW_none, errW_some] <;> rfl) | (simp [*, errW_none, errW_some] <;> rfl), by repeat (first | (with_reducible first | exact HB.out | apply below_alloc | apply pw_below_drewN | apply below_drew1) | exact HB.out)⟩

/-! ### octet_Visible: function 35 -/
def octet_Visible.f (a0 : Int) : Option (Bool) := if a0 > 32 then (some (decide (a0 < 127))) else (some false)
set_option maxHeartbeats 8000000 in
set_option maxRecDepth 100000 in
theorem octet_Visible.calls (a0 : Int) (r : Bool) (w : World) (h : octet_Visible.f a0 = some r) :
    Calls Tryd.prog 35 #[.int .u8 a0] w fun e w' => e = .returned (.bool r) ∧ Drawn0 w w' := by
  have H : (if a0 > 32 then (some (decide (a0 < 127))) else (some false)) = some r := h
  clear h
  by_cases c2 : a0 > 32
  · rw [if_pos c2] at H
    have c2b0 : decide (32 < a0) = true := decide_eq_true c2
    clear c2
    obtain rfl := Option.some.inj H
    go_enter Tryd.func35, Tryd.ntmps35
    go_wp2
    go_ret
    exact ⟨by first | rfl | (simp; done) | (simp [*]; done), by repeat (first | exact Drawn0.refl _ | apply Drawn0.step)⟩
  · rw [if_neg c2] at H
    have c2b0 : decide (32 < a0) = false := decide_eq_false c2
    clear c2
    obtain rfl := Option.some.inj H
    go_enter Tryd.func35, Tryd.ntmps35
    go_wp2
    go_ret
    exact ⟨by first | rfl | (simp; done) | (simp [*]; done), by repeat (first | exact Drawn0.refl _ | apply Drawn0.step)⟩

/-! ### octet_Blank: function 36 -/
def octet_Blank.f (a0 : Int) : Option (Bool) := if a0 = 32 then (some true) else (some (a0 == 9))
set_option maxHeartbeats 8000000 in
set_option maxRecDepth 100000 in
theorem octet_Blank.calls (a0 : Int) (r : Bool) (w : World) (h : octet_Blank.f a0 = some r) :
    Calls Tryd.prog 36 #[.int .u8 a0] w fun e w' => e = .returned (.bool r) ∧ Drawn0 w w' := by
  have H : (if a0 = 32 then (some true) else (some (a0 == 9))) = some r := h
  clear h
  by_cases c2 : a0 = 32
  · rw [if_pos c2] at H
    have c2b0 : (a0 == 32) = true := beq_iff_eq.mpr c2
    have c2b1 : (a0 != 32) = false := bne_eq_false_iff_eq.mpr c2
    clear c2
    obtain rfl := Option.some.inj H
    go_enter Tryd.func36, Tryd.ntmps36
    go_wp2
    go_ret
    exact ⟨by first | rfl | (simp; done) | (simp [*]; done), by repeat (first | exact Drawn0.refl _ | apply Drawn0.step)⟩
  · rw [if_neg c2] at H
    have c2b0 : (a0 == 32) = false := beq_eq_false_iff_ne.mpr c2
    have c2b1 : (a0 != 32) = true := bne_iff_ne.mpr c2
    obtain rfl := Option.some.inj H
    go_enter Tryd.func36, Tryd.ntmps36
    go_wp2
    go_ret
    exact ⟨by first | rfl | (simp; done) | (simp [*]; done), by repeat (first | exact Drawn0.refl _ | apply Drawn0.step)⟩

/-! ### octet_Digit: function 39 -/
def octet_Digit.f (a0 : Int) : Option (Bool) := if a0 ≥ 48 then (some (decide (a0 ≤ 57))) else (some false)
set_option maxHeartbeats 8000000 in
set_option maxRecDepth 100000 in
theorem octet_Digit.calls (a0 : Int) (r : Bool) (w : World) (h : octet_Digit.f a0 = some r) :
    Calls Tryd.prog 39 #[.int .u8 a0] w fun e w' => e = .returned (.bool r) ∧ Drawn0 w w' := by
  have H : (if a0 ≥ 48 then (some (decide (a0 ≤ 57))) else (some false)) = some r := h
  clear h
  by_cases c2 : a0 ≥ 48
  · rw [if_pos c2] at H
    have c2b0 : decide (48 ≤ a0) = true := decide_eq_true c2
    clear c2
    obtain rfl := Option.some.inj H
    go_enter Tryd.func39, Tryd.ntmps39
    go_wp2
    go_ret
    exact ⟨by first | rfl | (simp; done) | (simp [*]; done), by repeat (first | exact Drawn0.refl _ | apply Drawn0.step)⟩
  · rw [if_neg c2] at H
    have c2b0 : decide (48 ≤ a0) = false := decide_eq_false c2
    clear c2
    obtain rfl := Option.some.inj H
    go_enter Tryd.func39, Tryd.ntmps39
    go_wp2
    go_ret
    exact ⟨by first | rfl | (simp; done) | (simp [*]; done), by repeat (first | exact Drawn0.refl _ | apply Drawn0.step)⟩

/-! ### octet_letter: function 76 -/
def octet_letter.f (a0 : Int) : Option (Bool) := if (Go.bits .or .u8 a0 32) ≥ 97 then (some (decide ((Go.bits .or .u8 a0 32) ≤ 122))) else (some false)
set_option maxHeartbeats 8000000 in
set_option maxRecDepth 100000 in
theorem octet_letter.calls (a0 : Int) (r : Bool) (w : World) (h : octet_letter.f a0 = some r) :
    Calls Tryd.prog 76 #[.int .u8 a0] w fun e w' => e = .returned (.bool r) ∧ Drawn0 w w' := by
  have H : (if (Go.bits .or .u8 a0 32) ≥ 97 then (some (decide ((Go.bits .or .u8 a0 32) ≤ 122))) else (some false)) = some r := h
  clear h
  by_cases c2 : (Go.bits .or .u8 a0 32) ≥ 97
  · rw [if_pos c2] at H
    have c2b0 : decide (97 ≤ (Go.bits .or .u8 a0 32)) = true := decide_eq_true c2
    clear c2
    obtain rfl := Option.some.inj H
    go_enter Tryd.func76, Tryd.ntmps76
    go_wp2
    go_ret
    exact ⟨by first | rfl | (simp; done) | (simp [*]; done), by repeat (first | exact Drawn0.refl _ | apply Drawn0.step)⟩
  · rw [if_neg c2] at H
    have c2b0 : decide (97 ≤ (Go.bits .or .u8 a0 32)) = false := decide_eq_false c2
    clear c2
    obtain rfl := Option.some.inj H
    go_enter Tryd.func76, Tryd.ntmps76
    go_wp2
    go_ret
    exact ⟨by first | rfl | (simp; done) | (simp [*]; done), by repeat (first | exact Drawn0.refl _ | apply Drawn0.step)⟩

/-! ### strings_IndexByte: function 77 -/
theorem dead_byte {p : Int → Prop} (h : ∀ n : Fin 256, ¬ p (n.val : Int)) {a : Int} (hw : (Lit.int .u8 a).wf = true) : ¬ p a := by
  have e1 : IntKind.u8.min = 0 := by decide
  have e2 : IntKind.u8.max = 255 := by decide
  simp only [Lit.wf, e1, e2, Bool.and_eq_true, decide_eq_true_eq] at hw
  have := h ⟨a.toNat, by omega⟩
  rwa [show ((⟨a.toNat, by omega⟩ : Fin 256).val : Int) = a by simp; omega] at this
def strings_IndexByte.f (a0 : ByteArray) (a1 : Int) : Option (Int) := some (Lib.indexByte a0.data.toList a1.toNat.toUInt8)
theorem strings_IndexByte.calls (a0 : ByteArray) (a1 : Int) (r : Int) (w : World) (h : strings_IndexByte.f a0 a1 = some r) :
    Calls Tryd.prog 77 #[.string a0, .int .u8 a1] w fun e w' => e = .returned (.int .i64 r) ∧ Drawn0 w w' := by
  obtain rfl := Option.some.inj h
  refine (Tryd.strings_IndexByte a0 a1 w).mono ?_
  rintro e w' ⟨rfl, rfl⟩
  exact ⟨rfl, Drawn0.refl _⟩

/-! ### octet_Token: function 55 -/
def octet_Token.f (a0 : Int) : Option (Bool) := (octet_letter.f a0).bind fun t148 => (if t148 = true then (some true) else ((octet_Digit.f a0).bind fun t149 => (if t149 = true then (some true) else ((strings_IndexByte.f (⟨#[33, 35, 36, 37, 38, 39, 42, 43, 45, 46, 94, 95, 96, 124, 126]⟩ : ByteArray) a0).bind fun t150 => (some (decide (t150 ≥ 0)))))))
set_option maxHeartbeats 8000000 in
set_option maxRecDepth 100000 in
theorem octet_Token.calls (a0 : Int) (r : Bool) (w : World) (h : octet_Token.f a0 = some r) :
    Calls Tryd.prog 55 #[.int .u8 a0] w fun e w' => e = .returned (.bool r) ∧ Drawn0 w w' := by
  have H : ((octet_letter.f a0).bind fun t148 => (if t148 = true then (some true) else ((octet_Digit.f a0).bind fun t149 => (if t149 = true then (some true) else ((strings_IndexByte.f (⟨#[33, 35, 36, 37, 38, 39, 42, 43, 45, 46, 94, 95, 96, 124, 126]⟩ : ByteArray) a0).bind fun t150 => (some (decide (t150 ≥ 0)))))))) = some r := h
  clear h
  replace H := Option.bind_eq_some_iff.mp H
  obtain ⟨t148, A20, H⟩ := H
  replace H : (if t148 = true then (some true) else ((octet_Digit.f a0).bind fun t149 => (if t149 = true then (some true) else ((strings_IndexByte.f (⟨#[33, 35, 36, 37, 38, 39, 42, 43, 45, 46, 94, 95, 96, 124, 126]⟩ : ByteArray) a0).bind fun t150 => (some (decide (t150 ≥ 0))))))) = some r := H
  have A2 := Aside0.mk A20
  clear A20
  by_cases c3 : t148 = true
  · subst c3
    have H1 : (some true) = some r := by rw [if_pos rfl] at H; exact H
    clear H
    have H := H1
    clear H1
    obtain rfl := Option.some.inj H
    go_enter Tryd.func55, Tryd.ntmps55
    go_wp2_with (first | ((with_reducible refine gate_callee (f := 76) rfl ?_); refine goesL_ (some 4) rfl rfl Tryd.func76 (by kernel_rfl) rfl #[.int .u8 a0] rfl (by (try simp only [List.map_toArray, List.map_cons, List.map_nil]); first | done | rfl | (simp only [List.length_drop, List.length_take]; rfl)) ?_; (with_reducible refine (octet_letter.calls a0 true _ A2.out).mono ?_); rintro e w' ⟨rfl, ⟨nd, rfl⟩⟩; refine ⟨_, rfl, ?_⟩))
    go_ret
    exact ⟨by first | rfl | (simp; done) | (simp [*]; done), by repeat (first | exact Drawn0.refl _ | apply Drawn0.step)⟩
  · replace c3 := Bool.eq_false_iff.mpr c3
    subst c3
    have H1 : ((octet_Digit.f a0).bind fun t149 => (if t149 = true then (some true) else ((strings_IndexByte.f (⟨#[33, 35, 36, 37, 38, 39, 42, 43, 45, 46, 94, 95, 96, 124, 126]⟩ : ByteArray) a0).bind fun t150 => (some (decide (t150 ≥ 0)))))) = some r := by rw [if_neg (show ¬ (false = true) by decide)] at H; exact H
    clear H
    have H := H1
    clear H1
    replace H := Option.bind_eq_some_iff.mp H
    obtain ⟨t149, A40, H⟩ := H
    replace H : (if t149 = true then (some true) else ((strings_IndexByte.f (⟨#[33, 35, 36, 37, 38, 39, 42, 43, 45, 46, 94, 95, 96, 124, 126]⟩ : ByteArray) a0).bind fun t150 => (some (decide (t150 ≥ 0))))) = some r := H
    have A4 := Aside0.mk A40
    clear A40
    by_cases c5 : t149 = true
    · subst c5
      have H1 : (some true) = some r := by rw [if_pos rfl] at H; exact H
      clear H
      have H := H1
      clear H1
      obtain rfl := Option.some.inj H
      go_enter Tryd.func55, Tryd.ntmps55
      go_wp2_with (first | ((with_reducible refine gate_callee (f := 76) rfl ?_); refine goesL_ (some 4) rfl rfl Tryd.func76 (by kernel_rfl) rfl #[.int .u8 a0] rfl (by (try simp only [List.map_toArray, List.map_cons, List.map_nil]); first | done | rfl | (simp only [List.length_drop, List.length_take]; rfl)) ?_; (with_reducible refine (octet_letter.calls a0 false _ A2.out).mono ?_); rintro e w' ⟨rfl, ⟨nd, rfl⟩⟩; refine ⟨_, rfl, ?_⟩) | (go_at_call 39; (with_reducible refine (octet_Digit.calls a0 true _ A4.out).mono ?_); rintro e w' ⟨rfl, ⟨nd, rfl⟩⟩))
      go_ret
      exact ⟨by first | rfl | (simp; done) | (simp [*]; done), by repeat (first | exact Drawn0.refl _ | apply Drawn0.step)⟩
    · replace c5 := Bool.eq_false_iff.mpr c5
      subst c5
      have H1 : ((strings_IndexByte.f (⟨#[33, 35, 36, 37, 38, 39, 42, 43, 45, 46, 94, 95, 96, 124, 126]⟩ : ByteArray) a0).bind fun t150 => (some (decide (t150 ≥ 0)))) = some r := by rw [if_neg (show ¬ (false = true) by decide)] at H; exact H
      clear H
      have H := H1
      clear H1
      replace H := Option.bind_eq_some_iff.mp H
      obtain ⟨t150, A60, H⟩ := H
      replace H : (some (decide (t150 ≥ 0))) = some r := H
      have A6 := Aside0.mk A60
      clear A60
      obtain rfl := Option.some.inj H
      go_enter Tryd.func55, Tryd.ntmps55
      go_wp2_with (first | ((with_reducible refine gate_callee (f := 76) rfl ?_); refine goesL_ (some 4) rfl rfl Tryd.func76 (by kernel_rfl) rfl #[.int .u8 a0] rfl (by (try simp only [List.map_toArray, List.map_cons, List.map_nil]); first | done | rfl | (simp only [List.length_drop, List.length_take]; rfl)) ?_; (with_reducible refine (octet_letter.calls a0 false _ A2.out).mono ?_); rintro e w' ⟨rfl, ⟨nd, rfl⟩⟩; refine ⟨_, rfl, ?_⟩) | (go_at_call 39; (with_reducible refine (octet_Digit.calls a0 false _ A4.out).mono ?_); rintro e w' ⟨rfl, ⟨nd, rfl⟩⟩) | (go_at_call 77; (with_reducible refine (strings_IndexByte.calls (⟨#[33, 35, 36, 37, 38, 39, 42, 43, 45, 46, 94, 95, 96, 124, 126]⟩ : ByteArray) a0 t150 _ A6.out).mono ?_); rintro e w' ⟨rfl, ⟨nd, rfl⟩⟩))
      go_ret
      exact ⟨by first | rfl | (simp; done) | (simp [*]; done), by repeat (first | exact Drawn0.refl _ | apply Drawn0.step)⟩

/-! ### octet_Hex: function 56 -/
def octet_Hex.f (a0 : Int) : Option (Int × Bool) := (octet_Digit.f a0).bind fun t151 => (if t151 = true then (some ((a0 - 48) % 256, true)) else ((octet_letter.f a0).bind fun t152 => (if t152 = true then (if (Go.bits .or .u8 a0 32) ≤ 102 then (some ((((Go.bits .or .u8 a0 32) - 97) % 256) + 10, true)) else (some (0, false))) else (some (0, false)))))
set_option maxHeartbeats 8000000 in
set_option maxRecDepth 100000 in
theorem octet_Hex.calls (a0 : Int) (r1 : Int) (r2 : Bool) (w : World) (h : octet_Hex.f a0 = some (r1, r2)) :
    Calls Tryd.prog 56 #[.int .u8 a0] w fun e w' => e = .returned (.tuple #[.int .i64 r1, .bool r2]) ∧ Drawn0 w w' := by
  have H : ((octet_Digit.f a0).bind fun t151 => (if t151 = true then (some ((a0 - 48) % 256, true)) else ((octet_letter.f a0).bind fun t152 => (if t152 = true then (if (Go.bits .or .u8 a0 32) ≤ 102 then (some ((((Go.bits .or .u8 a0 32) - 97) % 256) + 10, true)) else (some (0, false))) else (some (0, false)))))) = some (r1, r2) := h
  clear h
  replace H := Option.bind_eq_some_iff.mp H
  obtain ⟨t151, A20, H⟩ := H
  replace H : (if t151 = true then (some ((a0 - 48) % 256, true)) else ((octet_letter.f a0).bind fun t152 => (if t152 = true then (if (Go.bits .or .u8 a0 32) ≤ 102 then (some ((((Go.bits .or .u8 a0 32) - 97) % 256) + 10, true)) else (some (0, false))) else (some (0, false))))) = some (r1, r2) := H
  have A2 := Aside0.mk A20
  clear A20
  by_cases c3 : t151 = true
  · subst c3
    have H1 : (some ((a0 - 48) % 256, true)) = some (r1, r2) := by rw [if_pos rfl] at H; exact H
    clear H
    have H := H1
    clear H1
    simp only [Option.some.injEq, Prod.mk.injEq] at H
    obtain ⟨rfl, rfl⟩ := H
    go_enter Tryd.func56, Tryd.ntmps56
    go_wp2_with (first | ((with_reducible refine gate_callee (f := 39) rfl ?_); refine goesL_ (some 6) rfl rfl Tryd.func39 (by kernel_rfl) rfl #[.int .u8 a0] rfl (by (try simp only [List.map_toArray, List.map_cons, List.map_nil]); first | done | rfl | (simp only [List.length_drop, List.length_take]; rfl)) ?_; (with_reducible refine (octet_Digit.calls a0 true _ A2.out).mono ?_); rintro e w' ⟨rfl, ⟨nd, rfl⟩⟩; refine ⟨_, rfl, ?_⟩))
    go_ret2
    exact ⟨by first | rfl | (simp; done) | (simp [*]; done), by repeat (first | exact Drawn0.refl _ | apply Drawn0.step)⟩
  · replace c3 := Bool.eq_false_iff.mpr c3
    subst c3
    have H1 : ((octet_letter.f a0).bind fun t152 => (if t152 = true then (if (Go.bits .or .u8 a0 32) ≤ 102 then (some ((((Go.bits .or .u8 a0 32) - 97) % 256) + 10, true)) else (some (0, false))) else (some (0, false)))) = some (r1, r2) := by rw [if_neg (show ¬ (false = true) by decide)] at H; exact H
    clear H
    have H := H1
    clear H1
    replace H := Option.bind_eq_some_iff.mp H
    obtain ⟨t152, A40, H⟩ := H
    replace H : (if t152 = true then (if (Go.bits .or .u8 a0 32) ≤ 102 then (some ((((Go.bits .or .u8 a0 32) - 97) % 256) + 10, true)) else (some (0, false))) else (some (0, false))) = some (r1, r2) := H
    have A4 := Aside0.mk A40
    clear A40
    by_cases c5 : t152 = true
    · subst c5
      have H1 : (if (Go.bits .or .u8 a0 32) ≤ 102 then (some ((((Go.bits .or .u8 a0 32) - 97) % 256) + 10, true)) else (some (0, false))) = some (r1, r2) := by rw [if_pos rfl] at H; exact H
      clear H
      have H := H1
      clear H1
      by_cases c6 : (Go.bits .or .u8 a0 32) ≤ 102
      · rw [if_pos c6] at H
        have c6b0 : decide ((Go.bits .or .u8 a0 32) ≤ 102) = true := decide_eq_true c6
        clear c6
        simp only [Option.some.injEq, Prod.mk.injEq] at H
        obtain ⟨rfl, rfl⟩ := H
        go_enter Tryd.func56, Tryd.ntmps56
        go_wp2_with (first | ((with_reducible refine gate_callee (f := 39) rfl ?_); refine goesL_ (some 6) rfl rfl Tryd.func39 (by kernel_rfl) rfl #[.int .u8 a0] rfl (by (try simp only [List.map_toArray, List.map_cons, List.map_nil]); first | done | rfl | (simp only [List.length_drop, List.length_take]; rfl)) ?_; (with_reducible refine (octet_Digit.calls a0 false _ A2.out).mono ?_); rintro e w' ⟨rfl, ⟨nd, rfl⟩⟩; refine ⟨_, rfl, ?_⟩) | ((with_reducible refine gate_callee (f := 76) rfl ?_); refine goesL_ (some 12) rfl rfl Tryd.func76 (by kernel_rfl) rfl #[.int .u8 a0] rfl (by (try simp only [List.map_toArray, List.map_cons, List.map_nil]); first | done | rfl | (simp only [List.length_drop, List.length_take]; rfl)) ?_; (with_reducible refine (octet_letter.calls a0 true _ A4.out).mono ?_); rintro e w' ⟨rfl, ⟨nd, rfl⟩⟩; refine ⟨_, rfl, ?_⟩))
        go_ret2
        exact ⟨by first | rfl | (simp; done) | (simp [*]; done), by repeat (first | exact Drawn0.refl _ | apply Drawn0.step)⟩
      · rw [if_neg c6] at H
        have c6b0 : decide ((Go.bits .or .u8 a0 32) ≤ 102) = false := decide_eq_false c6
        clear c6
        simp only [Option.some.injEq, Prod.mk.injEq] at H
        obtain ⟨rfl, rfl⟩ := H
        go_enter Tryd.func56, Tryd.ntmps56
        go_wp2_with (first | ((with_reducible refine gate_callee (f := 39) rfl ?_); refine goesL_ (some 6) rfl rfl Tryd.func39 (by kernel_rfl) rfl #[.int .u8 a0] rfl (by (try simp only [List.map_toArray, List.map_cons, List.map_nil]); first | done | rfl | (simp only [List.length_drop, List.length_take]; rfl)) ?_; (with_reducible refine (octet_Digit.calls a0 false _ A2.out).mono ?_); rintro e w' ⟨rfl, ⟨nd, rfl⟩⟩; refine ⟨_, rfl, ?_⟩) | ((with_reducible refine gate_callee (f := 76) rfl ?_); refine goesL_ (some 12) rfl rfl Tryd.func76 (by kernel_rfl) rfl #[.int .u8 a0] rfl (by (try simp only [List.map_toArray, List.map_cons, List.map_nil]); first | done | rfl | (simp only [List.length_drop, List.length_take]; rfl)) ?_; (with_reducible refine (octet_letter.calls a0 true _ A4.out).mono ?_); rintro e w' ⟨rfl, ⟨nd, rfl⟩⟩; refine ⟨_, rfl, ?_⟩))
        go_ret2
        exact ⟨by first | rfl | (simp; done) | (simp [*]; done), by repeat (first | exact Drawn0.refl _ | apply Drawn0.step)⟩
    · replace c5 := Bool.eq_false_iff.mpr c5
      subst c5
      have H1 : (some (0, false)) = some (r1, r2) := by rw [if_neg (show ¬ (false = true) by decide)] at H; exact H
      clear H
      have H := H1
      clear H1
      simp only [Option.some.injEq, Prod.mk.injEq] at H
      obtain ⟨rfl, rfl⟩ := H
      go_enter Tryd.func56, Tryd.ntmps56
      go_wp2_with (first | ((with_reducible refine gate_callee (f := 39) rfl ?_); refine goesL_ (some 6) rfl rfl Tryd.func39 (by kernel_rfl) rfl #[.int .u8 a0] rfl (by (try simp only [List.map_toArray, List.map_cons, List.map_nil]); first | done | rfl | (simp only [List.length_drop, List.length_take]; rfl)) ?_; (with_reducible refine (octet_Digit.calls a0 false _ A2.out).mono ?_); rintro e w' ⟨rfl, ⟨nd, rfl⟩⟩; refine ⟨_, rfl, ?_⟩) | ((with_reducible refine gate_callee (f := 76) rfl ?_); refine goesL_ (some 12) rfl rfl Tryd.func76 (by kernel_rfl) rfl #[.int .u8 a0] rfl (by (try simp only [List.map_toArray, List.map_cons, List.map_nil]); first | done | rfl | (simp only [List.length_drop, List.length_take]; rfl)) ?_; (with_reducible refine (octet_letter.calls a0 false _ A4.out).mono ?_); rintro e w' ⟨rfl, ⟨nd, rfl⟩⟩; refine ⟨_, rfl, ?_⟩))
      go_ret2
      exact ⟨by first | rfl | (simp; done) | (simp [*]; done), by repeat (first | exact Drawn0.refl _ | apply Drawn0.step)⟩

/-! ### octet_Text: function 57 -/
def octet_Text.f (a0 : Int) : Option (Bool) := (octet_Visible.f a0).bind fun t153 => (if t153 = true then (some true) else ((octet_Blank.f a0).bind fun t154 => (if t154 = true then (some true) else (some (decide (a0 ≥ 128))))))
set_option maxHeartbeats 8000000 in
set_option maxRecDepth 100000 in
theorem octet_Text.calls (a0 : Int) (r : Bool) (w : World) (h : octet_Text.f a0 = some r) :
    Calls Tryd.prog 57 #[.int .u8 a0] w fun e w' => e = .returned (.bool r) ∧ Drawn0 w w' := by
  have H : ((octet_Visible.f a0).bind fun t153 => (if t153 = true then (some true) else ((octet_Blank.f a0).bind fun t154 => (if t154 = true then (some true) else (some (decide (a0 ≥ 128))))))) = some r := h
  clear h
  replace H := Option.bind_eq_some_iff.mp H
  obtain ⟨t153, A20, H⟩ := H
  replace H : (if t153 = true then (some true) else ((octet_Blank.f a0).bind fun t154 => (if t154 = true then (some true) else (some (decide (a0 ≥ 128)))))) = some r := H
  have A2 := Aside0.mk A20
  clear A20
  by_cases c3 : t153 = true
  · subst c3
    have H1 : (some true) = some r := by rw [if_pos rfl] at H; exact H
    clear H
    have H := H1
    clear H1
    obtain rfl := Option.some.inj H
    go_enter Tryd.func57, Tryd.ntmps57
    go_wp2_with (first | ((with_reducible refine gate_callee (f := 35) rfl ?_); refine goesL_ (some 4) rfl rfl Tryd.func35 (by kernel_rfl) rfl #[.int .u8 a0] rfl (by (try simp only [List.map_toArray, List.map_cons, List.map_nil]); first | done | rfl | (simp only [List.length_drop, List.length_take]; rfl)) ?_; (with_reducible refine (octet_Visible.calls a0 true _ A2.out).mono ?_); rintro e w' ⟨rfl, ⟨nd, rfl⟩⟩; refine ⟨_, rfl, ?_⟩))
    go_ret
    exact ⟨by first | rfl | (simp; done) | (simp [*]; done), by repeat (first | exact Drawn0.refl _ | apply Drawn0.step)⟩
  · replace c3 := Bool.eq_false_iff.mpr c3
    subst c3
    have H1 : ((octet_Blank.f a0).bind fun t154 => (if t154 = true then (some true) else (some (decide (a0 ≥ 128))))) = some r := by rw [if_neg (show ¬ (false = true) by decide)] at H; exact H
    clear H
    have H := H1
    clear H1
    replace H := Option.bind_eq_some_iff.mp H
    obtain ⟨t154, A40, H⟩ := H
    replace H : (if t154 = true then (some true) else (some (decide (a0 ≥ 128)))) = some r := H
    have A4 := Aside0.mk A40
    clear A40
    by_cases c5 : t154 = true
    · subst c5
      have H1 : (some true) = some r := by rw [if_pos rfl] at H; exact H
      clear H
      have H := H1
      clear H1
      obtain rfl := Option.some.inj H
      go_enter Tryd.func57, Tryd.ntmps57
      go_wp2_with (first | ((with_reducible refine gate_callee (f := 35) rfl ?_); refine goesL_ (some 4) rfl rfl Tryd.func35 (by kernel_rfl) rfl #[.int .u8 a0] rfl (by (try simp only [List.map_toArray, List.map_cons, List.map_nil]); first | done | rfl | (simp only [List.length_drop, List.length_take]; rfl)) ?_; (with_reducible refine (octet_Visible.calls a0 false _ A2.out).mono ?_); rintro e w' ⟨rfl, ⟨nd, rfl⟩⟩; refine ⟨_, rfl, ?_⟩) | (go_at_call 36; (with_reducible refine (octet_Blank.calls a0 true _ A4.out).mono ?_); rintro e w' ⟨rfl, ⟨nd, rfl⟩⟩))
      go_ret
      exact ⟨by first | rfl | (simp; done) | (simp [*]; done), by repeat (first | exact Drawn0.refl _ | apply Drawn0.step)⟩
    · replace c5 := Bool.eq_false_iff.mpr c5
      subst c5
      have H1 : (some (decide (a0 ≥ 128))) = some r := by rw [if_neg (show ¬ (false = true) by decide)] at H; exact H
      clear H
      have H := H1
      clear H1
      obtain rfl := Option.some.inj H
      go_enter Tryd.func57, Tryd.ntmps57
      go_wp2_with (first | ((with_reducible refine gate_callee (f := 35) rfl ?_); refine goesL_ (some 4) rfl rfl Tryd.func35 (by kernel_rfl) rfl #[.int .u8 a0] rfl (by (try simp only [List.map_toArray, List.map_cons, List.map_nil]); first | done | rfl | (simp only [List.length_drop, List.length_take]; rfl)) ?_; (with_reducible refine (octet_Visible.calls a0 false _ A2.out).mono ?_); rintro e w' ⟨rfl, ⟨nd, rfl⟩⟩; refine ⟨_, rfl, ?_⟩) | (go_at_call 36; (with_reducible refine (octet_Blank.calls a0 false _ A4.out).mono ?_); rintro e w' ⟨rfl, ⟨nd, rfl⟩⟩))
      go_ret
      exact ⟨by first | rfl | (simp; done) | (simp [*]; done), by repeat (first | exact Drawn0.refl _ | apply Drawn0.step)⟩

/-! ### octet_of: function 34 -/
def octet_of.f (a0 : Int) (a1 : Int) : Option (Bool) := if a1 = 1 then ((octet_Token.f a0).bind fun t155 => (some t155)) else (if a1 = 2 then ((octet_Visible.f a0).bind fun t156 => (some t156)) else (if a1 = 3 then ((octet_Blank.f a0).bind fun t157 => (some t157)) else (if a1 = 4 then ((octet_Digit.f a0).bind fun t158 => (some t158)) else (if a1 = 5 then ((octet_Hex.f a0).bind fun bt159 => (some bt159.2)) else (if a1 = 6 then ((octet_Text.f a0).bind fun t161 => (some t161)) else (some false))))))
set_option maxHeartbeats 8000000 in
set_option maxRecDepth 100000 in
theorem octet_of.calls (a0 : Int) (a1 : Int) (r : Bool) (w : World) (h : octet_of.f a0 a1 = some r) :
    Calls Tryd.prog 34 #[.int .u8 a0, .int .i64 a1] w fun e w' => e = .returned (.bool r) ∧ Drawn0 w w' := by
  have H : (if a1 = 1 then ((octet_Token.f a0).bind fun t155 => (some t155)) else (if a1 = 2 then ((octet_Visible.f a0).bind fun t156 => (some t156)) else (if a1 = 3 then ((octet_Blank.f a0).bind fun t157 => (some t157)) else (if a1 = 4 then ((octet_Digit.f a0).bind fun t158 => (some t158)) else (if a1 = 5 then ((octet_Hex.f a0).bind fun bt159 => (some bt159.2)) else (if a1 = 6 then ((octet_Text.f a0).bind fun t161 => (some t161)) else (some false))))))) = some r := h
  clear h
  by_cases c3 : a1 = 1
  · rw [if_pos c3] at H
    have c3b0 : (a1 == 1) = true := beq_iff_eq.mpr c3
    have c3b1 : (a1 != 1) = false := bne_eq_false_iff_eq.mpr c3
    clear c3
    replace H := Option.bind_eq_some_iff.mp H
    obtain ⟨t155, A40, H⟩ := H
    replace H : (some t155) = some r := H
    have A4 := Aside0.mk A40
    clear A40
    obtain rfl := Option.some.inj H
    go_enter Tryd.func34, Tryd.ntmps34
    go_wp2_with (first | ((with_reducible refine gate_callee (f := 55) rfl ?_); refine goesL_ (some 11) rfl rfl Tryd.func55 (by kernel_rfl) rfl #[.int .u8 a0] rfl (by (try simp only [List.map_toArray, List.map_cons, List.map_nil]); first | done | rfl | (simp only [List.length_drop, List.length_take]; rfl)) ?_; (with_reducible refine (octet_Token.calls a0 t155 _ A4.out).mono ?_); rintro e w' ⟨rfl, ⟨nd, rfl⟩⟩; refine ⟨_, rfl, ?_⟩))
    go_ret
    exact ⟨by first | rfl | (simp; done) | (simp [*]; done), by repeat (first | exact Drawn0.refl _ | apply Drawn0.step)⟩
  · rw [if_neg c3] at H
    have c3b0 : (a1 == 1) = false := beq_eq_false_iff_ne.mpr c3
    have c3b1 : (a1 != 1) = true := bne_iff_ne.mpr c3
    by_cases c5 : a1 = 2
    · rw [if_pos c5] at H
      have c5b0 : (a1 == 2) = true := beq_iff_eq.mpr c5
      have c5b1 : (a1 != 2) = false := bne_eq_false_iff_eq.mpr c5
      clear c5
      replace H := Option.bind_eq_some_iff.mp H
      obtain ⟨t156, A60, H⟩ := H
      replace H : (some t156) = some r := H
      have A6 := Aside0.mk A60
      clear A60
      obtain rfl := Option.some.inj H
      go_enter Tryd.func34, Tryd.ntmps34
      go_wp2_with (first | ((with_reducible refine gate_callee (f := 35) rfl ?_); refine goesL_ (some 15) rfl rfl Tryd.func35 (by kernel_rfl) rfl #[.int .u8 a0] rfl (by (try simp only [List.map_toArray, List.map_cons, List.map_nil]); first | done | rfl | (simp only [List.length_drop, List.length_take]; rfl)) ?_; (with_reducible refine (octet_Visible.calls a0 t156 _ A6.out).mono ?_); rintro e w' ⟨rfl, ⟨nd, rfl⟩⟩; refine ⟨_, rfl, ?_⟩))
      go_ret
      exact ⟨by first | rfl | (simp; done) | (simp [*]; done), by repeat (first | exact Drawn0.refl _ | apply Drawn0.step)⟩
    · rw [if_neg c5] at H
      have c5b0 : (a1 == 2) = false := beq_eq_false_iff_ne.mpr c5
      have c5b1 : (a1 != 2) = true := bne_iff_ne.mpr c5
      by_cases c7 : a1 = 3
      · rw [if_pos c7] at H
        have c7b0 : (a1 == 3) = true := beq_iff_eq.mpr c7
        have c7b1 : (a1 != 3) = false := bne_eq_false_iff_eq.mpr c7
        clear c7
        replace H := Option.bind_eq_some_iff.mp H
        obtain ⟨t157, A80, H⟩ := H
        replace H : (some t157) = some r := H
        have A8 := Aside0.mk A80
        clear A80
        obtain rfl := Option.some.inj H
        go_enter Tryd.func34, Tryd.ntmps34
        go_wp2_with (first | ((with_reducible refine gate_callee (f := 36) rfl ?_); refine goesL_ (some 19) rfl rfl Tryd.func36 (by kernel_rfl) rfl #[.int .u8 a0] rfl (by (try simp only [List.map_toArray, List.map_cons, List.map_nil]); first | done | rfl | (simp only [List.length_drop, List.length_take]; rfl)) ?_; (with_reducible refine (octet_Blank.calls a0 t157 _ A8.out).mono ?_); rintro e w' ⟨rfl, ⟨nd, rfl⟩⟩; refine ⟨_, rfl, ?_⟩))
        go_ret
        exact ⟨by first | rfl | (simp; done) | (simp [*]; done), by repeat (first | exact Drawn0.refl _ | apply Drawn0.step)⟩
      · rw [if_neg c7] at H
        have c7b0 : (a1 == 3) = false := beq_eq_false_iff_ne.mpr c7
        have c7b1 : (a1 != 3) = true := bne_iff_ne.mpr c7
        by_cases c9 : a1 = 4
        · rw [if_pos c9] at H
          have c9b0 : (a1 == 4) = true := beq_iff_eq.mpr c9
          have c9b1 : (a1 != 4) = false := bne_eq_false_iff_eq.mpr c9
          clear c9
          replace H := Option.bind_eq_some_iff.mp H
          obtain ⟨t158, A100, H⟩ := H
          replace H : (some t158) = some r := H
          have A10 := Aside0.mk A100
          clear A100
          obtain rfl := Option.some.inj H
          go_enter Tryd.func34, Tryd.ntmps34
          go_wp2_with (first | ((with_reducible refine gate_callee (f := 39) rfl ?_); refine goesL_ (some 23) rfl rfl Tryd.func39 (by kernel_rfl) rfl #[.int .u8 a0] rfl (by (try simp only [List.map_toArray, List.map_cons, List.map_nil]); first | done | rfl | (simp only [List.length_drop, List.length_take]; rfl)) ?_; (with_reducible refine (octet_Digit.calls a0 t158 _ A10.out).mono ?_); rintro e w' ⟨rfl, ⟨nd, rfl⟩⟩; refine ⟨_, rfl, ?_⟩))
          go_ret
          exact ⟨by first | rfl | (simp; done) | (simp [*]; done), by repeat (first | exact Drawn0.refl _ | apply Drawn0.step)⟩
        · rw [if_neg c9] at H
          have c9b0 : (a1 == 4) = false := beq_eq_false_iff_ne.mpr c9
          have c9b1 : (a1 != 4) = true := bne_iff_ne.mpr c9
          by_cases c11 : a1 = 5
          · rw [if_pos c11] at H
            have c11b0 : (a1 == 5) = true := beq_iff_eq.mpr c11
            have c11b1 : (a1 != 5) = false := bne_eq_false_iff_eq.mpr c11
            clear c11
            replace H := Option.bind_eq_some_iff.mp H
            obtain ⟨⟨t159, t160⟩, A120, H⟩ := H
            replace H : (some t160) = some r := H
            have A12 := Aside0.mk A120
            clear A120
            obtain rfl := Option.some.inj H
            go_enter Tryd.func34, Tryd.ntmps34
            go_wp2_with (first | ((with_reducible refine gate_callee (f := 56) rfl ?_); refine goesL_ (some 28) rfl rfl Tryd.func56 (by kernel_rfl) rfl #[.int .u8 a0] rfl (by (try simp only [List.map_toArray, List.map_cons, List.map_nil]); first | done | rfl | (simp only [List.length_drop, List.length_take]; rfl)) ?_; (with_reducible refine (octet_Hex.calls a0 t159 t160 _ A12.out).mono ?_); rintro e w' ⟨rfl, ⟨nd, rfl⟩⟩; refine ⟨_, rfl, ?_⟩))
            go_ret
            exact ⟨by first | rfl | (simp; done) | (simp [*]; done), by repeat (first | exact Drawn0.refl _ | apply Drawn0.step)⟩
          · rw [if_neg c11] at H
            have c11b0 : (a1 == 5) = false := beq_eq_false_iff_ne.mpr c11
            have c11b1 : (a1 != 5) = true := bne_iff_ne.mpr c11
            by_cases c13 : a1 = 6
            · rw [if_pos c13] at H
              have c13b0 : (a1 == 6) = true := beq_iff_eq.mpr c13
              have c13b1 : (a1 != 6) = false := bne_eq_false_iff_eq.mpr c13
              clear c13
              replace H := Option.bind_eq_some_iff.mp H
              obtain ⟨t161, A140, H⟩ := H
              replace H : (some t161) = some r := H
              have A14 := Aside0.mk A140
              clear A140
              obtain rfl := Option.some.inj H
              go_enter Tryd.func34, Tryd.ntmps34
              go_wp2_with (first | ((with_reducible refine gate_callee (f := 57) rfl ?_); refine goesL_ (some 35) rfl rfl Tryd.func57 (by kernel_rfl) rfl #[.int .u8 a0] rfl (by (try simp only [List.map_toArray, List.map_cons, List.map_nil]); first | done | rfl | (simp only [List.length_drop, List.length_take]; rfl)) ?_; (with_reducible refine (octet_Text.calls a0 t161 _ A14.out).mono ?_); rintro e w' ⟨rfl, ⟨nd, rfl⟩⟩; refine ⟨_, rfl, ?_⟩))
              go_ret
              exact ⟨by first | rfl | (simp; done) | (simp [*]; done), by repeat (first | exact Drawn0.refl _ | apply Drawn0.step)⟩
            · rw [if_neg c13] at H
              have c13b0 : (a1 == 6) = false := beq_eq_false_iff_ne.mpr c13
              have c13b1 : (a1 != 6) = true := bne_iff_ne.mpr c13
              obtain rfl := Option.some.inj H
              go_enter Tryd.func34, Tryd.ntmps34
              go_wp2
              go_ret
              exact ⟨by first | rfl | (simp; done) | (simp [*]; done), by repeat (first | exact Drawn0.refl _ | apply Drawn0.step)⟩

end Go.Proofs.YtclaaacdmaeblaaDoor.PRequestExtends
