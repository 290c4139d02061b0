/- It is proved that ChunkWrites answers true of all parts: they are written as chunks as the reference writes them. -/
import Derived.Test.YtihcmknbdjmcdaaDoorPChunkWritesx5
import Derived.Test.YtihcmknbdjmcdaaDoorTxtChunkWrites
namespace Go.Proofs.YtihcmknbdjmcdaaDoor.Pure
open Go.RowKit Go.Proofs.YtihcmknbdjmcdaaDoor.PChunkWrites Go.Proofs.YtihcmknbdjmcdaaDoorW.PrintWords Go.Proofs.YtihcmknbdjmcdaaDoorW.PrintLast Go.Proofs.YtihcmknbdjmcdaaDoorW.PrintMore Go.Proofs.YtihcmknbdjmcdaaDoor.Aid Go.Proofs.YtihcmknbdjmcdaaDoor.Parts

theorem law_loop (l : List (List Int)) (hn : l.length ≤ 8) (d : Nat) : ∀ i : Nat, i + d = l.length → (∀ c ∈ l.take i, c.length ≤ 60) → Ev (fun k => parallaxlaw11_ChunkWrites.l0 k l (i : Int)) true := by
  induction d with
  | zero =>
    intro i hi hs
    rw [List.take_of_length_le (by omega)] at hs
    have hs : ∀ c ∈ l, c.length ≤ 1000000 := fun c hc => Nat.le_trans (hs c hc) (by decide)
    refine Ev.step (fun _ => parallaxlaw11_ChunkWrites.l0.eq_2 ..) (Ev.neg (by omega) ?_)
    refine Ev.bind (cput_ev l hs (by omega)) (Ev.bind (rchunks_ev l hs (by omega)) (Ev.pos rfl (Ev.bind (cput_ev [] (by simp) (by simp)) ((Ev.now _).to ?_))))
    rw [ByteArray.toList_eq]; decide +kernel
  | succ d ih =>
    intro i hi hs
    have hlt : i < l.length := by omega
    have hr : rd_L2 l (i : Int) = l[i] := by unfold rd_L2; simp [List.getD_eq_getElem?_getD, hlt]
    refine Ev.step (fun _ => parallaxlaw11_ChunkWrites.l0.eq_2 ..) (Ev.pos (by omega) (Ev.pos (by omega) ?_))
    by_cases h : ((rd_L2 l (i : Int)).length : Int) > 60
    · exact Ev.pos h (Ev.now _)
    · refine Ev.neg h ?_
      rw [wrap_nat (by omega)]
      refine ih (i + 1) (by omega) ?_
      rw [List.take_succ_eq_append_getElem hlt]
      intro c hc
      rcases List.mem_append.mp hc with e | e
      · exact hs c e
      · rw [List.mem_singleton.mp e, ← hr]; omega
theorem ChunkWrites : parallaxlaw11_ChunkWrites.Pure := by
  intro l0 h0
  refine Ev.rounds (g := fun k => parallaxlaw11_ChunkWrites.f k l0) ?_
  unfold parallaxlaw11_ChunkWrites.f
  refine Ev.bind known_ev (Ev.pos rfl ?_)
  by_cases c0 : (l0.length : Int) > 8
  · exact Ev.pos c0 (Ev.now _)
  · exact Ev.neg c0 (law_loop l0 (by omega) l0.length 0 (by omega) (by simp))

end Go.Proofs.YtihcmknbdjmcdaaDoor.Pure
