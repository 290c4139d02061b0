/- It is proved that NumberNoughts answers true for every number: noughts ahead change nothing. -/
import Derived.Test.YtnckmjdonbnpoaaDoorPNumberNoughtsx2
import Derived.Test.YtnckmjdonbnpoaaDoorTxtNumberNoughts
namespace Go.Proofs.YtnckmjdonbnpoaaDoor.Pure
open Go.RowKit Go.Proofs.YtnckmjdonbnpoaaDoor.PNumberNoughts Go.Proofs.YtnckmjdonbnpoaaDoorW.PrintWords Go.Proofs.YtnckmjdonbnpoaaDoorW.PrintLast Go.Proofs.YtnckmjdonbnpoaaDoor.Aid Go.Proofs.YtnckmjdonbnpoaaDoor.Parts

theorem known_true : Ev (fun k => parallaxlaw2_known.f k) true := by
  have d1 : Ev (fun k => number_Dec.f k (⟨#[48, 48, 55]⟩ : ByteArray) 9) (7, 0) := Ev.of (fun k => number_Dec.mono _ _ k) (k := 40) (by decide +kernel)
  have d2 : Ev (fun k => number_Dec.f k (⟨#[49, 48]⟩ : ByteArray) 9) (0, 23) := Ev.of (fun k => number_Dec.mono _ _ k) (k := 40) (by decide +kernel)
  have d3 : Ev (fun k => number_Dec.f k (⟨#[49, 97]⟩ : ByteArray) 99) (0, 22) := Ev.of (fun k => number_Dec.mono _ _ k) (k := 40) (by decide +kernel)
  have d4 : Ev (fun k => number_Hex.f k (⟨#[102, 70]⟩ : ByteArray) 255) (255, 0) := Ev.of (fun k => number_Hex.mono _ _ k) (k := 40) (by decide +kernel)
  unfold parallaxlaw2_known.f
  refine Ev.bind d1 (Ev.bind d2 (Ev.bind d3 (Ev.bind d4 (Ev.pos rfl (Ev.pos rfl (Ev.pos rfl (Ev.pos rfl (Ev.pos rfl (Ev.pos rfl ?_)))))))))
  refine Ev.val (put_some 120 (by omega)) (Ev.pos ?_ (Ev.val (puthex_some 255 (by omega)) ((Ev.now _).to ?_)))
  · have e : Lib.decDigits 120 = [49, 50, 48] := by
      rw [Lib.decDigits, dif_neg (by decide), Lib.decDigits, dif_neg (by decide), Lib.decDigits, dif_pos (by decide)]; rfl
    rw [ByteArray.toList_eq]
    show (Lib.decDigits 120) = _
    exact e
  · rw [ByteArray.toList_eq]; decide +kernel

theorem zeros (a x : Int) (h0 : 0 ≤ x) (hx : x ≤ 9223372036854775807) (ha : 0 ≤ a ∧ a < 256) (m : Nat) (hm : wrap64 (Int.tmod a 50) = (m : Int)) (hm50 : m < 50) (d : Nat) : ∀ (i : Nat) (z : ByteArray), i + d = m → bytesOf z = List.replicate i 48 → Ev (fun k => parallaxlaw2_NumberNoughts.l0 k a x z (i : Int)) true := by
  have hn : (x.toNat : Int) = x := Int.toNat_of_nonneg h0
  have hmx : mx x 0 = x := by unfold mx; rw [if_neg (by omega)]
  have pre : ∀ {b kind : Int} {l : List Int} {n : Nat} (h : Num b kind l n) (hk : ofB 48 kind = true) (i : Nat), Num b kind (List.replicate i 48 ++ l) n := by
    intro b kind l n h hk i
    induction i with
    | zero => simpa using h
    | succ i ih => rw [List.replicate_succ, List.cons_append]; exact num_zero ih hk nought.2
  have happ : ∀ s t : ByteArray, bytesOf (s ++ t) = bytesOf s ++ bytesOf t := by
    intro s t; unfold bytesOf; rw [Parts.data_app, List.map_append]
  have hmod : Int.tmod a 50 = (m : Int) := by
    have e : Int.tmod a 50 = a % 50 := Int.tmod_eq_emod_of_nonneg ha.1
    rw [e, wrap_in (i := a % 50) (by omega) (by omega)] at hm
    rw [e, hm]
  induction d with
  | zero =>
    intro i z hi hz
    have hzs : z.size = i := by rw [← bytesOf_length, hz, List.length_replicate]
    have hs1 := decB_size x.toNat (by omega)
    have hs2 := hexB_size x.toNat
    have n1 : Num 10 4 (bytesOf (z ++ decB x.toNat)) x.toNat := by rw [happ, hz]; exact pre (decB_num _) nought.1.1 i
    have n2 : Num 16 5 (bytesOf (z ++ Hex.hexB x.toNat)) x.toNat := by rw [happ, hz]; exact pre (hexB_num _ (by omega)) nought.1.2 i
    have n3 : Num 10 4 (bytesOf (z ++ (⟨#[48]⟩ : ByteArray))) 0 := by rw [happ, hz]; exact pre (num_one (c := 48) (d := 0) nought.1.1 nought.2) nought.1.1 i
    refine Ev.step (fun _ => parallaxlaw2_NumberNoughts.l0.eq_2 ..) (Ev.neg (by rw [hm]; omega) ?_)
    have z1 : (z ++ decB x.toNat).size = z.size + (decB x.toNat).size := ByteArray.size_append
    have z2 : (z ++ Hex.hexB x.toNat).size = z.size + (Hex.hexB x.toNat).size := ByteArray.size_append
    have z3 : (z ++ (⟨#[48]⟩ : ByteArray)).size = z.size + 1 := by rw [ByteArray.size_append]; rfl
    have p1 := put_some x hx
    have p2 := puthex_some x hx
    rw [hmx] at p1 p2
    refine Ev.val p1 (Ev.pos (by omega) (Ev.bind (dec_ev _ x hx (by omega)) (Ev.val p2 (Ev.pos (by omega) (Ev.bind (hexn_ev _ x hx (by omega)) (Ev.pos (by omega) ?_))))))
    refine Ev.bind (dec_ev _ 0 (by omega) (by omega)) (Ev.bind (dec_ev z 9 (by omega) (by omega)) ?_)
    have r1 : readB (z ++ decB x.toNat) 10 x 4 = (x, 0) := by rw [num_read n1, hmx, hn, if_pos (Int.le_refl _)]
    have r2 : readB (z ++ Hex.hexB x.toNat) 16 x 5 = (x, 0) := by rw [num_read n2, hmx, hn, if_pos (Int.le_refl _)]
    have r3 : readB (z ++ (⟨#[48]⟩ : ByteArray)) 10 0 4 = (0, 0) := by rw [num_read n3, if_pos (by decide)]; rfl
    rw [r1, r2, r3]
    refine Ev.pos rfl (Ev.pos rfl (Ev.pos rfl (Ev.pos rfl (Ev.pos rfl (Ev.pos rfl ((Ev.now _).to ?_))))))
    rw [hmod]
    by_cases hz0 : i = 0
    · have e : bytesOf z = [] := by rw [hz, hz0]; rfl
      have e2 : m = 0 := by omega
      unfold readB; rw [if_pos (.inl e), e2]; rfl
    · have e : Num 10 4 (bytesOf z) 0 := by
        rw [hz, show i = (i - 1) + 1 by omega, List.replicate_succ']
        exact pre (num_one (c := 48) (d := 0) nought.1.1 nought.2) nought.1.1 _
      rw [num_read e, if_pos (by decide)]
      have e2 : ((m : Int) == 0) = false := by simp; omega
      rw [e2]; rfl
  | succ d ih =>
    intro i z hi hz
    have h9 : i < 9223372036854775807 := by omega
    have hzs : z.size = i := by rw [← bytesOf_length, hz, List.length_replicate]
    refine Ev.step (fun _ => parallaxlaw2_NumberNoughts.l0.eq_2 ..) (Ev.pos (by rw [hm]; omega) (Ev.pos (by omega) ?_))
    rw [wrap_nat h9]
    refine ih (i + 1) _ (by omega) ?_
    rw [happ, hz, List.replicate_succ']; rfl

theorem NumberNoughts : parallaxlaw2_NumberNoughts.Pure := by
  intro a0 a1 h0 h1
  refine Ev.rounds (g := fun k => parallaxlaw2_NumberNoughts.f k a0 a1) ?_
  unfold parallaxlaw2_NumberNoughts.f
  have hi := i64_wf h0
  have hu := u8_wf h1
  have e : Int.tmod a1 50 = a1 % 50 := Int.tmod_eq_emod_of_nonneg hu.1
  refine Ev.bind known_true (Ev.pos rfl ?_)
  have hx0 : 0 ≤ mx a0 0 := by unfold mx; split <;> omega
  have hx1 : mx a0 0 ≤ 9223372036854775807 := by unfold mx; split <;> omega
  refine zeros a1 (mx a0 0) hx0 hx1 hu (a1 % 50).toNat ?_ (by omega) (a1 % 50).toNat 0 _ (by omega) rfl
  rw [e, wrap_in (i := a1 % 50) (by omega) (by omega)]; omega

end Go.Proofs.YtnckmjdonbnpoaaDoor.Pure
