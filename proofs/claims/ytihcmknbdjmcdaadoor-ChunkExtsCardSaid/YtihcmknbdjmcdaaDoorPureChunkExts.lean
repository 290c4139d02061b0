/- It is proved that ChunkExts answers true at every input: just how long a chunk's extension may be, and that it changes no size. -/
import Derived.Test.YtihcmknbdjmcdaaDoorPChunkExtsx5
import Derived.Test.YtihcmknbdjmcdaaDoorTxtChunkExts
namespace Go.Proofs.YtihcmknbdjmcdaaDoor.Pure
open Go.RowKit Go.Proofs.YtihcmknbdjmcdaaDoor.PChunkExts Go.Proofs.YtihcmknbdjmcdaaDoorW.PrintWords Go.Proofs.YtihcmknbdjmcdaaDoorW.PrintLast Go.Proofs.YtihcmknbdjmcdaaDoorW.PrintMore Go.Proofs.YtihcmknbdjmcdaaDoor.Aid Go.Proofs.YtihcmknbdjmcdaaDoor.Parts

theorem sign_all : ∀ j : Fin 8, allB (strOfNums [bt (⟨#[97, 98, 61, 59, 44, 32, 9, 128]⟩ : ByteArray) (j.val : Int)]) [6] = true ∧ (strOfNums [bt (⟨#[97, 98, 61, 59, 44, 32, 9, 128]⟩ : ByteArray) (j.val : Int)]).size = 1 := by decide +kernel
theorem semi_all : allB (BA [59]) [6] = true := by decide +kernel
theorem one_all : allB (BA [59] ++ BA [1]) [6] = false := by decide +kernel
theorem size_ext (n : Nat) (hn : n < 65536) (s : ByteArray) (hs : allB s [6] = true) (ext : Int) : sizeB (Hex.hexB n ++ BA [59] ++ s) 0 65536 ext = if ((s.size : Int) + 1) > ext then (0, 400) else ((n : Int), 0) := by
  obtain ⟨c1, c2⟩ := cut_app 59 (Hex.hexB n) s (fun x hx => (hexB_not n (by omega) x hx).1)
  unfold sizeB
  rw [c1, c2, all_app, semi_all, hs]
  have hz : ((BA [59] ++ s).size : Int) = (s.size : Int) + 1 := by rw [ByteArray.size_append, show (BA [59]).size = 1 from rfl]; omega
  rw [hz]
  by_cases h : (s.size : Int) + 1 > ext
  · rw [if_pos (.inl h), if_pos h]
  · rw [if_neg (by rintro (x | x); exact h x; cases x), if_neg h]
    have b28 : hasB 0 28 = false := by decide
    have b27 : hasB 0 27 = false := by decide
    simp only [b28, b27, Bool.false_and]
    rw [if_neg (show ¬ false = true by simp), if_neg (show ¬ false = true by simp), hexB_read n hn]; rfl
theorem size_one (n : Nat) (hn : n < 65536) (ext : Int) : sizeB (Hex.hexB n ++ BA [59] ++ BA [1]) 0 65536 ext = (0, 400) := by
  obtain ⟨c1, c2⟩ := cut_app 59 (Hex.hexB n) (BA [1]) (fun x hx => (hexB_not n (by omega) x hx).1)
  unfold sizeB
  rw [c1, c2, one_all, if_pos (.inr rfl)]
theorem ext_loop (n : Nat) (hn : n < 65536) (l : List Int) (hl : l.length ≤ 60) (hw : ∀ x ∈ l, 0 ≤ x ∧ x < 256) (ext : Int) (d : Nat) : ∀ (i : Nat) (s : ByteArray), i + d = l.length → s.size = i → allB s [6] = true →
    Ev (fun k => parallaxlaw11_ChunkExts.l0 k (n : Int) l s (i : Int) 1024 32 8192 65536 ext 8 4 20 true true) true := by
  induction d with
  | zero =>
    intro i s hi hs ha
    have hx := hexB_size n
    have hmx : mx (n : Int) 0 = (n : Int) := by unfold mx; rw [if_neg (by omega)]
    have hw0 : wrap64 (n : Int) = (n : Int) := wrap_in (by omega) (by omega)
    have hP := rPutHex_ev (n : Int) (by omega)
    rw [hmx, Int.toNat_natCast] at hP
    have e2 : (Hex.hexB n ++ (⟨#[59, 1]⟩ : ByteArray)) = Hex.hexB n ++ BA [59] ++ BA [1] := by
      apply ba_inj; rw [data_app, data_app, data_app, data_BA, data_BA, List.append_assoc]; rfl
    have z1 : (Hex.hexB n ++ BA [59]).size = (Hex.hexB n).size + 1 := ByteArray.size_append
    have z2 : (Hex.hexB n ++ BA [59] ++ s).size = (Hex.hexB n).size + 1 + s.size := by rw [ByteArray.size_append, z1]
    have z3 : (Hex.hexB n ++ BA [59] ++ BA [1]).size = (Hex.hexB n).size + 1 + 1 := by rw [ByteArray.size_append, z1]; rfl
    refine Ev.step (fun _ => parallaxlaw11_ChunkExts.l0.eq_2 ..) (Ev.neg (by omega) ?_)
    rw [hw0]
    refine Ev.bind hP ?_
    rw [show (⟨#[59]⟩ : ByteArray) = BA [59] from rfl]
    refine Ev.pos (by omega) (Ev.pos (by omega) ?_)
    refine Ev.bind ((size_ev (Hex.hexB n ++ BA [59] ++ s) (by omega) 0 (by decide) 1024 32 8192 65536 ext 8 4 20 true true (by omega)).to (size_ext n hn s ha ext)) (Ev.bind hP ?_)
    rw [e2]
    refine Ev.pos (by omega) (Ev.val rfl ?_)
    refine Ev.bind ((size_ev (Hex.hexB n ++ BA [59] ++ BA [1]) (by omega) 0 (by decide) 1024 32 8192 65536 32 8 4 20 true true (by omega)).to (size_one n hn 32)) ?_
    have hw1 : wrap64 ((s.size : Int) + 1) = (s.size : Int) + 1 := wrap_in (by omega) (by omega)
    rw [hw1]
    by_cases h : (s.size : Int) + 1 > ext
    · simp only [if_pos h]; exact Ev.pos trivial (Ev.now _)
    · simp only [if_neg h]; exact Ev.pos trivial (Ev.pos trivial (Ev.now _))
  | succ d ih =>
    intro i s hi hs ha
    have hx := hw (rd l (i : Int)) (by rw [rd_nat, List.getD_eq_getElem?_getD, List.getElem?_eq_getElem (by omega : i < l.length)]; exact List.getElem_mem _)
    obtain ⟨j, hj⟩ : ∃ j : Nat, Int.tmod (rd l (i : Int)) 8 = (j : Int) ∧ j < 8 := ⟨(rd l (i : Int)).toNat % 8, by rw [Int.tmod_eq_emod_of_nonneg (by omega)]; omega, Nat.mod_lt _ (by decide)⟩
    obtain ⟨g1, g2⟩ := sign_all ⟨j, hj.2⟩
    refine Ev.step (fun _ => parallaxlaw11_ChunkExts.l0.eq_2 ..) (Ev.pos (by omega) (Ev.pos (by omega) ?_))
    rw [hj.1]
    refine Ev.pos (by omega) (Ev.pos (by omega) (Ev.val rfl (Ev.pos (by simp only at g2; omega) ?_)))
    rw [wrap_nat (by omega)]
    refine ih (i + 1) _ (by omega) (by rw [ByteArray.size_append]; simp only at g2; omega) ?_
    rw [all_app, ha]; exact g1
theorem ChunkExts : parallaxlaw11_ChunkExts.Pure := by
  intro a0 l1 a2 h0 h1 h1b hw1 h2
  refine Ev.rounds (g := fun k => parallaxlaw11_ChunkExts.f k a0 l1 a2) ?_
  unfold parallaxlaw11_ChunkExts.f
  have hi0 : 0 ≤ a0 ∧ a0 < 65536 := by
    have e1 : IntKind.u16.min = 0 := by decide
    have e2 : IntKind.u16.max = 65535 := by decide
    simp only [Lit.wf, e1, e2, Bool.and_eq_true, decide_eq_true_eq] at h0
    omega
  obtain ⟨n, rfl⟩ : ∃ n : Nat, a0 = (n : Int) := ⟨a0.toNat, by omega⟩
  refine Ev.bind known_ev (Ev.pos rfl ?_)
  by_cases c1 : (l1.length : Int) > 60
  · exact Ev.pos c1 (Ev.now _)
  refine Ev.neg c1 (Ev.val rfl ?_)
  exact ext_loop n (by omega) l1 (by omega) (fun x hx => u8_wf (hw1 x hx)) _ l1.length 0 _ (by omega) rfl (by decide +kernel)

end Go.Proofs.YtihcmknbdjmcdaaDoor.Pure
