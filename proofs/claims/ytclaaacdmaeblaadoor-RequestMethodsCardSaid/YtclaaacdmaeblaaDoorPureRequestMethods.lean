/- It is proved that RequestMethods answers true at every input: just which methods may be. -/
import Derived.Test.YtclaaacdmaeblaaDoorPRequestMethodsx9
import Derived.Test.YtclaaacdmaeblaaDoorTxtRequestMethods
namespace Go.Proofs.YtclaaacdmaeblaaDoor.Pure
open Go.RowKit Go.Proofs.YtclaaacdmaeblaaDoor.PRequestMethods Go.Proofs.YtclaaacdmaeblaaDoorW.PrintWords Go.Proofs.YtclaaacdmaeblaaDoorW.PrintLast Go.Proofs.YtclaaacdmaeblaaDoorW.PrintMore Go.Proofs.YtclaaacdmaeblaaDoor.Aid Go.Proofs.YtclaaacdmaeblaaDoor.Parts

def restT : ByteArray := ⟨#[32, 47, 97, 32, 72, 84, 84, 80, 47, 49, 46, 49]⟩
def pathT : ByteArray := ⟨#[47, 97]⟩
def httpT : ByteArray := ⟨#[72, 84, 84, 80, 47, 49, 46, 49]⟩
def nilT : ByteArray := ⟨#[]⟩
theorem parts_line (s : ByteArray) (h : (32 : UInt8) ∉ s.data.toList) : parts 32 (s ++ restT) = [s, pathT, httpT] := by
  unfold parts
  rw [data_app]
  show (splitU 32 (s.data.toList ++ 32 :: [47, 97, 32, 72, 84, 84, 80, 47, 49, 46, 49])).map BA = _
  rw [splitU_at 32 _ _ h, List.map_cons, BA_data]
  rfl
theorem nil_is (s : ByteArray) : nilT.toList = s.toList ↔ s.size = 0 := by
  rw [ByteArray.toList_eq, ByteArray.toList_eq, ← data_length s]
  show ([] : List UInt8) = _ ↔ _
  cases s.data.toList <;> simp
theorem has_no (c : Int) (h : 0 ≤ c ∧ c < 30) : quirks_Has.f 0 c = some false := by
  obtain ⟨n, rfl⟩ : ∃ n : Nat, c = (n : Int) := ⟨c.toNat, by omega⟩
  have := qhas_some 0 (by decide) (n : Int)
  rw [hasB_nat 0 n (by omega), Nat.zero_testBit] at this
  exact this
theorem parted_ev (s : ByteArray) (hs : s.size ≤ 100) (h : (32 : UInt8) ∉ s.data.toList) : Ev (fun k => request_parted.f k (s ++ restT) 0) (if s.size = 0 then (nilT, nilT, nilT, 400) else (s, pathT, httpT, 0)) := by
  unfold request_parted.f
  have hz : (s ++ restT).size ≤ 1000000000000 := by rw [ByteArray.size_append]; show _ + 12 ≤ _; omega
  refine Ev.bind (split_ev 32 (s ++ restT) hz) ?_
  rw [parts_line s h]
  refine Ev.val (has_no 3 (by decide)) (Ev.neg (by simp) (Ev.step (fun _ => request_parted.j0.eq_2 ..) ?_))
  have hi : idxL [s, pathT, httpT] nilT = if s.size = 0 then 0 else -1 := by
    show (if nilT.toList = s.toList then (0 : Int) else if idxL [pathT, httpT] nilT < 0 then -1 else idxL [pathT, httpT] nilT + 1) = _
    rw [show idxL [pathT, httpT] nilT = -1 by decide +kernel]
    by_cases h0 : s.size = 0
    · rw [if_pos ((nil_is s).mpr h0), if_pos h0]
    · rw [if_neg (fun e => h0 ((nil_is s).mp e)), if_neg h0]; rfl
  have hc : Ev (fun k => slices_Contains_string_string.f k [s, pathT, httpT] (⟨#[]⟩ : ByteArray)) (decide (s.size = 0)) := by
    unfold slices_Contains_string_string.f
    refine Ev.bind (idx_ev [s, pathT, httpT] nilT (by simp)) ((Ev.now _).to ?_)
    rw [hi]
    by_cases h0 : s.size = 0
    · simp [h0]
    · simp [h0]
  refine Ev.bind hc ?_
  by_cases h0 : s.size = 0
  · rw [if_pos h0]
    exact Ev.pos (decide_eq_true h0) (Ev.now _)
  · rw [if_neg h0]
    exact Ev.neg (by simp [h0]) (Ev.pos rfl (Ev.pos (by simp) (Ev.pos (by simp) (Ev.pos (by simp) (Ev.now _)))))
theorem goes_ev (s : ByteArray) (hm : s.toList ≠ ([67, 79, 78, 78, 69, 67, 84] : List UInt8)) : Ev (fun k => request_goes.f k s pathT 0) true := by
  unfold request_goes.f
  refine Ev.val (has_no 7 (by decide)) (Ev.val (has_no 8 (by decide)) ?_)
  have hb : parseB s pathT = originB 1 nilT pathT := by
    unfold parseB
    rw [if_neg hm, if_neg (fun h => absurd h.2 (by decide +kernel)), if_pos (by decide +kernel)]
    rfl
  have hp := parse_ev s pathT (by decide) (fun h => absurd h (by decide +kernel))
  rw [hb] at hp
  have w1 : wrap64 (0 + 1) = 1 := wrap_in (by omega) (by omega)
  have w2 : wrap64 (1 + 1) = 2 := wrap_in (by omega) (by omega)
  refine Ev.step (fun _ => request_goes.l0.eq_2 ..) (Ev.pos (by decide) (Ev.pos (by decide) (Ev.pos (by decide) (Ev.val (by decide +kernel : octet_Visible.f (bt pathT 0) = some true) (Ev.pos rfl ?_)))))
  rw [w1]
  refine Ev.step (fun _ => request_goes.l0.eq_2 ..) (Ev.pos (by decide) (Ev.pos (by decide) (Ev.pos (by decide) (Ev.val (by decide +kernel : octet_Visible.f (bt pathT 1) = some true) (Ev.pos rfl ?_)))))
  rw [w2]
  refine Ev.step (fun _ => request_goes.l0.eq_2 ..) (Ev.neg (by decide) (Ev.neg (by decide +kernel) (Ev.neg (by simp) (Ev.neg (by simp) (Ev.bind hp ((Ev.now _).to (by decide +kernel)))))))
theorem minor_ev : Ev (fun k => request_minor.f k httpT 0 true) (1, true) := Ev.of (fun k => request_minor.mono httpT 0 true k) (k := 10) (by decide +kernel)
/-- what a line of this law comes to -/
def lineB (s : ByteArray) : ByteArray × ByteArray × Int × Int := if (decide (0 < s.size) && (decide (s.size ≤ 32) && allB s [1])) = true then (s, pathT, 1, 0) else (nilT, nilT, 0, 400)
theorem line_ev (s : ByteArray) (hs : s.size ≤ 100) (h : (32 : UInt8) ∉ s.data.toList) (hm : s.toList ≠ ([67, 79, 78, 78, 69, 67, 84] : List UInt8)) : Ev (fun k => request_Parse.f k (s ++ restT) 0 1024 32 8192 65536 32 8 4 20 true true) (lineB s) := by
  have bad : Ev (fun k => request_Parse.j0 k 0 s pathT httpT true 1024 32 8192 65536 32 8 4 20 true true) (nilT, nilT, 0, 400) := Ev.step (fun _ => request_Parse.j0.eq_2 ..) (Ev.pos rfl (Ev.now _))
  have good : Ev (fun k => request_Parse.j0 k 0 s pathT httpT false 1024 32 8192 65536 32 8 4 20 true true) (s, pathT, 1, 0) := Ev.step (fun _ => request_Parse.j0.eq_2 ..) (Ev.neg (by simp) (Ev.bind minor_ev (Ev.pos rfl (Ev.now _))))
  have none_ : Ev (fun k => request_Parse.j0 k 0 nilT nilT nilT true 1024 32 8192 65536 32 8 4 20 true true) (nilT, nilT, 0, 400) := Ev.step (fun _ => request_Parse.j0.eq_2 ..) (Ev.pos rfl (Ev.now _))
  unfold request_Parse.f lineB
  refine Ev.bind (parted_ev s hs h) ?_
  by_cases h0 : s.size = 0
  · rw [if_pos h0, if_neg (by simp [h0])]
    exact Ev.neg (by decide) none_
  · rw [if_neg h0, decide_eq_true (by omega : 0 < s.size), Bool.true_and]
    refine Ev.pos rfl (Ev.neg (fun e => h0 ?_) ?_)
    · have e' : s.toList = ([] : List UInt8) := e
      rw [ByteArray.toList_eq] at e'
      rw [← data_length s, e']; rfl
    · by_cases h32 : s.size ≤ 32
      · rw [decide_eq_true h32, Bool.true_and]
        refine Ev.neg (by show ¬ ((s.size : Int) > 32); omega) (Ev.bind (own_ev s [1] (by decide) (by omega)) ?_)
        cases allB s [1] with
        | true => exact Ev.pos rfl (Ev.bind (goes_ev s hm) good)
        | false => exact Ev.neg (by simp) bad
      · rw [decide_eq_false h32, Bool.false_and, if_neg (by simp)]
        exact Ev.pos (by show (s.size : Int) > 32; omega) bad
def charT : ByteArray := ⟨#[71, 69, 84, 120, 45, 33, 126, 55, 40, 47, 58, 64]⟩
def chS (v : Nat) : ByteArray := strOfNums [bt charT (v : Int)]
theorem tab_ch : ∀ v : Fin 12, (chS v.val).size = 1 ∧ ((chS v.val).data.toList.all fun b => b != 32 && b != 67) = true ∧ allB (chS v.val) [1] = decide (v.val < 8) := by decide +kernel
/-- a text of these signs -/
structure Word (s : ByteArray) : Prop where
  no : (s.data.toList.all fun b => b != 32 && b != 67) = true
theorem word_app {s t : ByteArray} (h : Word s) (h' : (t.data.toList.all fun b => b != 32 && b != 67) = true) : Word (s ++ t) := ⟨by rw [data_app, List.all_append, h.no, h']; rfl⟩
theorem word_blank {s : ByteArray} (h : Word s) : (32 : UInt8) ∉ s.data.toList := fun hm => by
  have := List.all_eq_true.mp h.no 32 hm
  exact absurd this (by decide)
theorem word_conn {s : ByteArray} (h : Word s) : s.toList ≠ ([67, 79, 78, 78, 69, 67, 84] : List UInt8) := fun e => by
  rw [ByteArray.toList_eq] at e
  have := List.all_eq_true.mp h.no 67 (by rw [e]; simp)
  exact absurd this (by decide)
theorem many (i : Nat) : (BA (List.replicate i 77)).size = i ∧ Word (BA (List.replicate i 77)) ∧ allB (BA (List.replicate i 77)) [1] = true := by
  refine ⟨by rw [size_BA, List.length_replicate], ⟨?_⟩, ?_⟩
  · rw [data_BA, List.all_eq_true]
    intro b hb
    rw [(List.mem_replicate.mp hb).2]; decide
  · unfold allB bytesOf
    rw [data_BA, List.all_eq_true]
    intro c hc
    obtain ⟨b, hb, rfl⟩ := List.mem_map.mp hc
    rw [(List.mem_replicate.mp hb).2]; decide +kernel
theorem end_ev (n : Nat) (s : ByteArray) (hs : s.size ≤ 20) (hw : Word s) (g : Bool) (hg : g = (decide (0 < s.size) && allB s [1])) (d : Nat) : ∀ i : Nat, i + d = 30 + n % 5 →
    Ev (fun k => parallaxlaw8_RequestMethods.l1 k (n : Int) s g (BA (List.replicate i 77)) (i : Int) 1024 32 8192 65536 32 8 4 20 true true) true := by
  have h5 : n % 5 < 5 := Nat.mod_lt _ (by decide)
  have mn : wrap64 (30 + wrap64 (Int.tmod (n : Int) 5)) = ((30 + n % 5 : Nat) : Int) := by
    rw [Int.tmod_eq_emod_of_nonneg (by omega), show ((n : Int) % 5) = ((n % 5 : Nat) : Int) from (Int.natCast_emod n 5).symm, wrap_in (i := ((n % 5 : Nat) : Int)) (by omega) (by omega), wrap_in (by omega) (by omega)]
    omega
  induction d with
  | zero =>
    intro i hi
    obtain ⟨z1, z2, z3⟩ := many i
    refine Ev.step (fun _ => parallaxlaw8_RequestMethods.l1.eq_2 ..) ?_
    rw [mn]
    refine Ev.neg (by omega) (Ev.pos (by omega) (Ev.bind (line_ev s (by omega) (word_blank hw) (word_conn hw)) (Ev.pos (by omega) (Ev.bind (line_ev _ (by omega) (word_blank z2) (word_conn z2)) ?_))))
    have e1 : lineB s = if g = true then (s, pathT, 1, 0) else (nilT, nilT, 0, 400) := by
      unfold lineB
      rw [decide_eq_true (by omega : s.size ≤ 32), Bool.true_and, ← hg]
    have e2 : lineB (BA (List.replicate i 77)) = if i ≤ 32 then (BA (List.replicate i 77), pathT, 1, 0) else (nilT, nilT, 0, 400) := by
      unfold lineB
      rw [z1, z3, decide_eq_true (by omega : 0 < i), Bool.true_and, Bool.and_true]
      by_cases hi : i ≤ 32
      · rw [if_pos (decide_eq_true hi), if_pos hi]
      · rw [if_neg (by simpa using hi), if_neg hi]
    have e3 : ((lineB (BA (List.replicate i 77))).2.2.2 == 0) = decide (((BA (List.replicate i 77)).size : Int) ≤ 32) := by
      rw [e2, z1]
      by_cases hi : i ≤ 32
      · rw [if_pos hi, decide_eq_true (by omega)]; rfl
      · rw [if_neg hi, decide_eq_false (by omega)]; rfl
    have j3 : ∀ b : Bool, b = true → Ev (fun k => parallaxlaw8_RequestMethods.j3 k b) true := fun b hb => hb ▸ Ev.step (fun _ => parallaxlaw8_RequestMethods.j3.eq_2 ..) (Ev.now _)
    rw [e1]
    cases g with
    | true => exact Ev.pos (by simp) (Ev.pos rfl (Ev.pos (by simp) (j3 _ (by rw [e3]; simp))))
    | false => exact Ev.pos (by simp) (Ev.neg (by simp) (Ev.pos (by simp) (j3 _ (by rw [e3]; simp))))
  | succ d ih =>
    intro i hi
    obtain ⟨z1, _, _⟩ := many i
    refine Ev.step (fun _ => parallaxlaw8_RequestMethods.l1.eq_2 ..) ?_
    rw [mn]
    refine Ev.pos (by omega) (Ev.pos (by omega) ?_)
    have e : BA (List.replicate i 77) ++ (⟨#[77]⟩ : ByteArray) = BA (List.replicate (i + 1) 77) := by
      apply ba_inj
      rw [data_app, data_BA, data_BA, List.replicate_succ']
    rw [e, wrap_nat (by omega)]
    exact ih (i + 1) (by omega)
theorem make_ev (l : List Int) (hl : l.length ≤ 20) (hw : ∀ x ∈ l, 0 ≤ x ∧ x < 256) (n : Nat) (d : Nat) : ∀ (i : Nat) (s : ByteArray) (g : Bool), i + d = l.length → s.size = i → Word s → g = (decide (0 < l.length) && allB s [1]) →
    Ev (fun k => parallaxlaw8_RequestMethods.l0 k l (n : Int) s g (i : Int) 1024 32 8192 65536 32 8 4 20 true true) true := by
  induction d with
  | zero =>
    intro i s g hi hs hW hg
    refine Ev.step (fun _ => parallaxlaw8_RequestMethods.l0.eq_2 ..) (Ev.neg (by omega) ?_)
    exact end_ev n s (by omega) hW g (by rw [hg, hs, show i = l.length by omega]) (30 + n % 5) 0 (by omega)
  | succ d ih =>
    intro i s g hi hs hW hg
    have hx : 0 ≤ rd l (i : Int) ∧ rd l (i : Int) < 256 := by
      rw [rd_nat, List.getD_eq_getElem?_getD, List.getElem?_eq_getElem (by omega), Option.getD_some]
      exact hw _ (List.getElem_mem _)
    obtain ⟨v, hv⟩ : ∃ v : Nat, rd l (i : Int) = (v : Int) := ⟨(rd l (i : Int)).toNat, by omega⟩
    have hm : Int.tmod (v : Int) 12 = ((v % 12 : Nat) : Int) := by rw [Int.tmod_eq_emod_of_nonneg (by omega)]; exact (Int.natCast_emod v 12).symm
    have h12 : v % 12 < 12 := Nat.mod_lt _ (by decide)
    obtain ⟨c1, c2, c3⟩ := tab_ch ⟨v % 12, h12⟩
    dsimp only at c1 c2 c3
    have hz : (s ++ chS (v % 12)).size = i + 1 := by rw [ByteArray.size_append, c1, hs]
    have next : ∀ g', g' = (decide (0 < l.length) && allB (s ++ chS (v % 12)) [1]) → Ev (fun k => parallaxlaw8_RequestMethods.j1 k l (n : Int) (s ++ chS (v % 12)) g' (i : Int) 1024 32 8192 65536 32 8 4 20 true true) true := by
      intro g' hg'
      refine Ev.step (fun _ => parallaxlaw8_RequestMethods.j1.eq_2 ..) ?_
      rw [wrap_nat (by omega)]
      exact ih (i + 1) _ g' (by omega) hz (word_app hW c2) hg'
    have e8 : decide (((v % 12 : Nat) : Int) < 8) = decide (v % 12 < 8) := decide_eq_decide.mpr (by omega)
    refine Ev.step (fun _ => parallaxlaw8_RequestMethods.l0.eq_2 ..) (Ev.pos (by omega) (Ev.pos (by omega) ?_))
    rw [hv, hm, e8]
    refine Ev.pos (by omega) (Ev.pos (by omega) (Ev.val rfl ?_))
    refine Ev.pos (by show s.size + (chS (v % 12)).size ≤ _; omega) ?_
    cases g with
    | true =>
      refine Ev.pos rfl (next _ ?_)
      rw [all_app, c3, ← Bool.and_assoc, ← hg, Bool.true_and]
    | false =>
      refine Ev.neg (by simp) (next _ ?_)
      rw [all_app, ← Bool.and_assoc, ← hg, Bool.false_and]
theorem RequestMethods : parallaxlaw8_RequestMethods.Pure := by
  intro l0 a1 h0 h1 hw w1
  refine Ev.rounds (g := fun k => parallaxlaw8_RequestMethods.f k l0 a1) ?_
  have r1 := u8_wf w1
  obtain ⟨n, rfl⟩ : ∃ n : Nat, a1 = (n : Int) := ⟨a1.toNat, by omega⟩
  unfold parallaxlaw8_RequestMethods.f
  refine Ev.bind known_ev (Ev.pos rfl ?_)
  by_cases c0 : (l0.length : Int) > 20
  · exact Ev.pos c0 (Ev.now _)
  refine Ev.neg c0 (Ev.val rfl ?_)
  exact make_ev l0 (by omega) (fun x hx => u8_wf (hw x hx)) n l0.length 0 nilT _ (by omega) rfl ⟨rfl⟩ (by
    rw [show allB nilT [1] = true from rfl, Bool.and_true]; exact decide_eq_decide.mpr (by omega))
end Go.Proofs.YtclaaacdmaeblaaDoor.Pure
