/- It is proved that NumberBack answers true for every number: what is written is read, just up to itself. -/
import Derived.Test.YtnckmjdonbnpoaaDoorPNumberBackx2
import Derived.Test.YtnckmjdonbnpoaaDoorTxtNumberBack
namespace Go.Proofs.YtnckmjdonbnpoaaDoor.Pure
open Go.RowKit Go.Proofs.YtnckmjdonbnpoaaDoor.PNumberBack Go.Proofs.YtnckmjdonbnpoaaDoorW.PrintWords Go.Proofs.YtnckmjdonbnpoaaDoorW.PrintLast Go.Proofs.YtnckmjdonbnpoaaDoor.Aid Go.Proofs.YtnckmjdonbnpoaaDoor.Parts

theorem known_true : Ev (fun k => parallaxlaw2_known.f k) true := by
  have d1 : Ev (fun k => number_Dec.f k (⟨#[48, 48, 55]⟩ : ByteArray) 9) (7, 0) := Ev.of (fun k => number_Dec.mono _ _ k) (k := 40) (by decide +kernel)
  have d2 : Ev (fun k => number_Dec.f k (⟨#[49, 48]⟩ : ByteArray) 9) (0, 23) := Ev.of (fun k => number_Dec.mono _ _ k) (k := 40) (by decide +kernel)
  have d3 : Ev (fun k => number_Dec.f k (⟨#[49, 97]⟩ : ByteArray) 99) (0, 22) := Ev.of (fun k => number_Dec.mono _ _ k) (k := 40) (by decide +kernel)
  have d4 : Ev (fun k => number_Hex.f k (⟨#[102, 70]⟩ : ByteArray) 255) (255, 0) := Ev.of (fun k => number_Hex.mono _ _ k) (k := 40) (by decide +kernel)
  unfold parallaxlaw2_known.f
  refine Ev.bind d1 (Ev.bind d2 (Ev.bind d3 (Ev.bind d4 (Ev.pos rfl (Ev.pos rfl (Ev.pos rfl (Ev.pos rfl (Ev.pos rfl (Ev.pos rfl ?_)))))))))
  refine Ev.val (put_some 120 (by omega)) (Ev.pos ?_ (Ev.val (puthex_some 255 (by omega)) ((Ev.now _).to ?_)))
  · have e : Lib.decDigits 120 = [49, 50, 48] := by
      rw [Lib.decDigits, dif_neg (by decide), Lib.decDigits, dif_neg (by decide), Lib.decDigits, dif_pos (by decide)]; rfl
    rw [ByteArray.toList_eq]
    show (Lib.decDigits 120) = _
    exact e
  · rw [ByteArray.toList_eq]; decide +kernel

theorem NumberBack : parallaxlaw2_NumberBack.Pure := by
  intro a0 h0
  refine Ev.rounds (g := fun k => parallaxlaw2_NumberBack.f k a0) ?_
  unfold parallaxlaw2_NumberBack.f
  have hi := i64_wf h0
  have hx0 : 0 ≤ mx a0 0 := by unfold mx; split <;> omega
  have hx1 : mx a0 0 ≤ 9223372036854775807 := by unfold mx; split <;> omega
  have hmm : ∀ y : Int, 0 ≤ y → mx y 0 = y := by intro y hy; unfold mx; rw [if_neg (by omega)]
  have p1 := put_some a0 hi.2
  have p2 := puthex_some a0 hi.2
  generalize mx a0 0 = x at hx0 hx1 p1 p2 ⊢
  have hn : (x.toNat : Int) = x := Int.toNat_of_nonneg hx0
  have hs1 := decB_size x.toNat (by omega)
  have hs2 := hexB_size x.toNat
  have n1 := decB_num x.toNat
  have n2 := hexB_num x.toNat (by omega)
  have r1 : readB (decB x.toNat) 10 x 4 = (x, 0) := by rw [num_read n1, hmm x hx0, hn, if_pos (Int.le_refl _)]
  have r2 : readB (Hex.hexB x.toNat) 16 x 5 = (x, 0) := by rw [num_read n2, hmm x hx0, hn, if_pos (Int.le_refl _)]
  refine Ev.bind known_true (Ev.pos rfl (Ev.val p1 (Ev.bind ((dec_ev _ x hx1 (by omega)).to r1) (Ev.val p2 (Ev.bind ((hexn_ev _ x hx1 (by omega)).to r2) ?_)))))
  refine Ev.pos rfl (Ev.pos rfl (Ev.pos rfl (Ev.pos rfl ?_)))
  by_cases hz : x = 0
  · exact Ev.pos hz (Ev.now _)
  · have hw : wrap64 (x - 1) = x - 1 := wrap_in (by omega) (by omega)
    have r3 : readB (decB x.toNat) 10 (x - 1) 4 = (0, 23) := by rw [num_read n1, hmm (x - 1) (by omega), hn, if_neg (by omega)]
    have r4 : readB (Hex.hexB x.toNat) 16 (x - 1) 5 = (0, 23) := by rw [num_read n2, hmm (x - 1) (by omega), hn, if_neg (by omega)]
    refine Ev.neg hz ?_
    rw [hw]
    exact Ev.val p1 (Ev.bind ((dec_ev _ (x - 1) (by omega) (by omega)).to r3) (Ev.val p2 (Ev.bind ((hexn_ev _ (x - 1) (by omega) (by omega)).to r4) (Ev.pos rfl (Ev.now _)))))

end Go.Proofs.YtnckmjdonbnpoaaDoor.Pure
