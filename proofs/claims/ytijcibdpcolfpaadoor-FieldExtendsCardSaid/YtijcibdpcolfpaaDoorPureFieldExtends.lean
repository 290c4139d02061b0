/- It is proved that FieldExtends answers true at every input: what the strict reader takes every profile reads alike, and its line, written anew, is read so, too. -/
import Derived.Test.YtijcibdpcolfpaaDoorPFieldExtendsx5
import Derived.Test.YtijcibdpcolfpaaDoorTxtFieldExtends
namespace Go.Proofs.YtijcibdpcolfpaaDoor.Pure
open Go.RowKit Go.Proofs.YtijcibdpcolfpaaDoor.PFieldExtends Go.Proofs.YtijcibdpcolfpaaDoorW.PrintWords Go.Proofs.YtijcibdpcolfpaaDoorW.PrintLast Go.Proofs.YtijcibdpcolfpaaDoorW.PrintMore Go.Proofs.YtijcibdpcolfpaaDoor.Aid Go.Proofs.YtijcibdpcolfpaaDoor.Parts

theorem line_cut (n v : ByteArray) : (lineB ⟨n, v⟩).extract 0 ((lineB ⟨n, v⟩).size - 2) = n ++ BA [58] ++ ((⟨#[32]⟩ : ByteArray) ++ v) := by
  apply ba_inj
  rw [ext_data, List.drop_zero, Nat.sub_zero]
  have e : (lineB ⟨n, v⟩).data.toList = (n ++ BA [58] ++ ((⟨#[32]⟩ : ByteArray) ++ v)).data.toList ++ [13, 10] := by
    unfold lineB
    rw [data_app, data_app, data_app, data_app, data_app, data_app, data_BA]
    simp
  have hs : (lineB ⟨n, v⟩).size = (n ++ BA [58] ++ ((⟨#[32]⟩ : ByteArray) ++ v)).data.toList.length + 2 := by
    rw [← data_length (lineB ⟨n, v⟩), e, List.length_append]; rfl
  rw [e, hs, Nat.add_sub_cancel, List.take_left']
  rfl
theorem rtrim_same (s : ByteArray) (hs : s.size ≤ 80) : Ev (fun k => (parallaxref1_Trim.f k s).bind fun t232 => (if 1 + s.size ≤ 9223372036854775807 then ((parallaxref1_Trim.f k ((⟨#[32]⟩ : ByteArray) ++ s)).bind fun t233 => (some (t232.toList == t233.toList))) else (none))) true := by
  refine Ev.bind (rtrim_ev s (by omega)) (Ev.pos (by omega) (Ev.bind (rtrim_ev _ (by rw [ByteArray.size_append]; show 1 + _ < _; omega)) ((Ev.now _).to ?_)))
  rw [trimB_sp]; simp
theorem ext_loop (s : ByteArray) (hs : s.size ≤ 80) (a : Nat) (ha : a < 4294967296) (l : List ByteArray) (hl : l.length ≤ 3) (hz : ∀ x ∈ l, x.size ≤ 100000) (d : Nat) : ∀ i : Nat, i + d = l.length → Ev (fun k => parallaxlaw9_FieldExtends.l0 k s (a : Int) l (l.length : Int) (i : Int)) true := by
  induction d with
  | zero =>
    intro i hi
    exact Ev.step (fun _ => parallaxlaw9_FieldExtends.l0.eq_2 ..) (Ev.neg (by omega) (rtrim_same s hs))
  | succ d ih =>
    intro i hi
    have h9 : i < 9223372036854775807 := by omega
    have hm := hz _ (rdOf_mem l i (by omega))
    refine Ev.step (fun _ => parallaxlaw9_FieldExtends.l0.eq_2 ..) (Ev.pos (by omega) (Ev.pos (by omega) (Ev.pos (by omega) ?_)))
    rw [wrap_nat h9, bits_mask32 a ha]
    have ih' := ih (i + 1) (by omega)
    generalize rdOf ByteArray.empty l (i : Int) = z at hm ⊢
    have hp := fparse_ev z (by omega) 0 (by decide)
    simp only [hasB_zero] at hp
    refine Ev.bind hp ?_
    by_cases h : (parseG z false false false false false).2.2.2 = 0
    · obtain ⟨f1, f2, f3, f4, f5⟩ := strict_all z h
      rw [f5]
      have hb := before_size 58 z
      have hv : (valueF z).size ≤ z.size := Nat.le_trans (trimB_le2 _) (after_size 58 z)
      have hvt : Trim.trimB Trim.blankB (valueF z) = valueF z := trimB_again _
      have hq := fparse_ev z (by omega) (a % 1073741824) (by omega)
      rw [f5] at hq
      clear hp h f5
      generalize beforeB 58 z = n at *
      generalize valueF z = v at *
      refine Ev.pos rfl (Ev.bind hq ?_)
      dsimp only
      refine Ev.val (fput_some _ (by simp) (by simp; omega)) ?_
      refine Ev.pos rfl (Ev.bind (fright_ev _ _ f2 f3 f4 hvt (by omega)) (Ev.pos rfl (Ev.pos rfl (Ev.pos rfl (Ev.neg (by simp) ?_)))))
      have hls : (putB [(⟨n, v⟩ : S25)]).size = (n).size + 2 + (v).size + 2 := by rw [put_one, lineB_size]
      rw [wrap_in (i := ((putB [(⟨n, v⟩ : S25)]).size : Int) - 2) (by omega) (by omega)]
      refine Ev.neg (by omega) (Ev.pos (by omega) (Ev.pos (by omega) ?_))
      have e1 : ((putB [(⟨n, v⟩ : S25)]).extract 0 (((putB [(⟨n, v⟩ : S25)]).size : Int) - 2).toNat) = n ++ BA [58] ++ ((⟨#[32]⟩ : ByteArray) ++ v) := by
        rw [put_one, ← line_cut]
        congr 1; omega
      rw [e1]
      have hr := fparse_ev (n ++ BA [58] ++ ((⟨#[32]⟩ : ByteArray) ++ v)) (by rw [ByteArray.size_append, ByteArray.size_append, ByteArray.size_append]; show _ + 1 + (1 + _) < _; omega) 0 (by decide)
      rw [parse_made _ _ f2 f3 (by rw [trimB_sp, hvt]; exact f4), trimB_sp, hvt] at hr
      exact Ev.bind hr (Ev.pos rfl (Ev.pos rfl (Ev.neg (by simp) ih')))
    · exact Ev.neg h ih'
theorem FieldExtends : parallaxlaw9_FieldExtends.Pure := by
  intro a0 l1 a2 a3 a4 h0 _ _ hw h2 h3 h4
  refine Ev.rounds (g := fun k => parallaxlaw9_FieldExtends.f k a0 l1 a2 a3 a4) ?_
  obtain ⟨a, rfl⟩ : ∃ n : Nat, a2 = (n : Int) := ⟨a2.toNat, by have := u32_wf h2; omega⟩
  have ha : a < 4294967296 := by have := u32_wf h2; omega
  unfold parallaxlaw9_FieldExtends.f
  refine Ev.bind known_ev (Ev.pos rfl ?_)
  by_cases c1 : (a0.size : Int) > 80
  · exact Ev.pos c1 (Ev.now _)
  by_cases c2 : (l1.length : Int) > 12
  · exact Ev.neg c1 (Ev.pos c2 (Ev.now _))
  obtain ⟨t, ht, hte⟩ := seat_field a3 a4 (u8_wf h4)
  have hss := some_size l1
  refine Ev.neg c1 (Ev.neg c2 (Ev.bind (some_ev l1 (by omega) (fun x hx => u8_wf (hw x hx))) (Ev.val hte (Ev.val rfl ?_))))
  refine ext_loop a0 (by omega) a ha _ (by simp) ?_ 3 0 rfl
  intro x hx
  simp only [List.mem_cons, List.not_mem_nil, or_false] at hx
  rcases hx with e | e | e <;> rw [e] <;> omega
end Go.Proofs.YtijcibdpcolfpaaDoor.Pure
