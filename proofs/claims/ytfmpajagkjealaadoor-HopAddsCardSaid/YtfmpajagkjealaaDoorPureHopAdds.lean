/- It is proved that HopAdds answers true at every input: what is added stands behind, and takes nothing away. -/
import Derived.Test.YtfmpajagkjealaaDoorPHopAddsx4
import Derived.Test.YtfmpajagkjealaaDoorTxtHopAdds
namespace Go.Proofs.YtfmpajagkjealaaDoor.Pure
open Go.RowKit Go.Proofs.YtfmpajagkjealaaDoor.PHopAdds Go.Proofs.YtfmpajagkjealaaDoorW.PrintWords Go.Proofs.YtfmpajagkjealaaDoorW.PrintLast Go.Proofs.YtfmpajagkjealaaDoor.Aid Go.Proofs.YtfmpajagkjealaaDoor.Parts

theorem with_some (l : List S28) (hl : l.length ≤ 20) (a b : ByteArray) : hop_with.f l a b = some (l ++ [(⟨a, b⟩ : S28)]) := by
  unfold hop_with.f api_Field.f
  rw [if_pos (by omega), Option.bind_some, if_pos (by omega)]
theorem via_some (l : List S28) (hl : l.length ≤ 20) (a : ByteArray) (ha : a.size ≤ 140737488351232) : hop_Via.f l a = some (l ++ [(⟨(⟨#[86, 105, 97]⟩ : ByteArray), (⟨#[49, 46, 49, 32]⟩ : ByteArray) ++ a⟩ : S28)]) := by
  unfold hop_Via.f
  rw [if_pos (by omega), with_some l hl]; rfl
theorem from_some (l : List S28) (hl : l.length ≤ 20) (a : ByteArray) : hop_From.f l a = some (l ++ [(⟨(⟨#[88, 45, 70, 111, 114, 119, 97, 114, 100, 101, 100, 45, 70, 111, 114]⟩ : ByteArray), a⟩ : S28)]) := by
  unfold hop_From.f
  rw [with_some l hl]; rfl
theorem rd_last (l : List S28) (x : S28) : rd_T28 (l ++ [x]) (l.length : Int) = x := by
  unfold rd_T28; simp [List.getD_eq_getElem?_getD]
theorem HopAdds : parallaxlaw18_HopAdds.Pure := by
  intro l0 a1 a2 hl0 h1 h2
  refine Ev.rounds (g := fun k => parallaxlaw18_HopAdds.f k l0 a1 a2) ?_
  unfold parallaxlaw18_HopAdds.f
  refine Ev.bind known_ev (Ev.pos rfl ?_)
  obtain ⟨b, hb, hp⟩ := hfields_ev l0
  refine Ev.bind hb ?_
  cases b with
  | false => exact Ev.neg (by simp) (Ev.now _)
  | true =>
    have hp := hp rfl
    refine Ev.pos rfl ?_
    by_cases h : (wrap64 ((a1.size : Int) + (a2.size : Int))) > 60
    · exact Ev.pos h (Ev.now _)
    refine Ev.neg h (Ev.val (via_some l0 hp a1 h1) (Ev.val (from_some l0 hp a2) ?_))
    have hlen : ∀ x : S28, (l0 ++ [x]).length = l0.length + 1 := fun x => by simp
    simp only [hlen, rd_last]
    rw [wrap_nat (by omega)]
    refine Ev.pos rfl (Ev.pos rfl (Ev.pos (by omega) (Ev.pos (by omega) ?_)))
    have ht : ∀ x : S28, (l0 ++ [x]).take ((l0.length : Int)).toNat = l0 := fun x => by simp
    simp only [ht]
    refine Ev.bind (rfields_refl l0 (by omega)) (Ev.pos rfl (Ev.pos (by omega) (Ev.bind (rfields_refl l0 (by omega)) (Ev.pos rfl (Ev.pos (by omega) (Ev.pos (by omega) (Ev.pos ?_ (Ev.pos (by omega) ((Ev.now _).to ?_)))))))))
    · rw [Bool.and_eq_true]; exact ⟨by rw [beq_iff_eq]; decide +kernel, beq_self_eq_true _⟩
    · rw [Bool.and_eq_true]; exact ⟨by rw [beq_iff_eq]; decide +kernel, beq_self_eq_true _⟩
end Go.Proofs.YtfmpajagkjealaaDoor.Pure
