/- It is proved that RequestExtends answers true at every input: what the strict reader takes every profile reads alike. -/
import Derived.Test.YtclaaacdmaeblaaDoorPRequestExtendsx11
import Derived.Test.YtclaaacdmaeblaaDoorTxtRequestExtends
import Derived.Lib.FieldsP
import Derived.Lib.TrimUEq
namespace Go.Proofs.YtclaaacdmaeblaaDoor.Pure
open Go.RowKit Go.Proofs.YtclaaacdmaeblaaDoor.PRequestExtends Go.Proofs.YtclaaacdmaeblaaDoorW.PrintWords Go.Proofs.YtclaaacdmaeblaaDoorW.PrintLast Go.Proofs.YtclaaacdmaeblaaDoorW.PrintMore Go.Proofs.YtclaaacdmaeblaaDoor.Aid Go.Proofs.YtclaaacdmaeblaaDoor.Parts

def httpT : ByteArray := ⟨#[72, 84, 84, 80, 47, 49, 46, 49]⟩
def oldT : ByteArray := ⟨#[72, 84, 84, 80, 47, 49, 46, 48]⟩
def nilT : ByteArray := ⟨#[]⟩
/-- what the parts of bytes tell of the bytes -/
theorem splitU_inv (c : UInt8) (l : List UInt8) : ∀ x t, splitU c l = x :: t → c ∉ x ∧ ((t = [] ∧ l = x) ∨ ∃ r, l = x ++ c :: r ∧ splitU c r = t) := by
  induction l with
  | nil =>
    intro x t h
    simp only [splitU, List.cons.injEq] at h
    obtain ⟨rfl, rfl⟩ := h
    exact ⟨by simp, .inl ⟨rfl, rfl⟩⟩
  | cons b l ih =>
    intro x t h
    unfold splitU at h
    by_cases hb : b = c
    · rw [if_pos hb, List.cons.injEq] at h
      obtain ⟨rfl, rfl⟩ := h
      exact ⟨by simp, .inr ⟨l, by rw [hb]; rfl, rfl⟩⟩
    · rw [if_neg hb] at h
      cases hs : splitU c l with
      | nil => exact absurd hs (splitU_ne c l)
      | cons y u =>
        rw [hs] at h
        simp only [List.cons.injEq] at h
        obtain ⟨rfl, rfl⟩ := h
        obtain ⟨h1, h2⟩ := ih y u hs
        refine ⟨fun hm => ?_, ?_⟩
        · rcases List.mem_cons.mp hm with e | e
          · exact hb e.symm
          · exact h1 e
        · rcases h2 with ⟨e1, e2⟩ | ⟨r, e1, e2⟩
          · exact .inl ⟨e1, by rw [e2]⟩
          · exact .inr ⟨r, by rw [e1]; rfl, e2⟩
/-- a text of three parts -/
theorem three {s m g v : ByteArray} (h : parts 32 s = [m, g, v]) : s.data.toList = m.data.toList ++ 32 :: (g.data.toList ++ 32 :: v.data.toList) := by
  unfold parts at h
  cases h0 : splitU 32 s.data.toList with
  | nil => exact absurd h0 (splitU_ne 32 _)
  | cons x t =>
    rw [h0, List.map_cons, List.cons.injEq] at h
    obtain ⟨e1, h⟩ := h
    obtain ⟨_, ⟨e2, _⟩ | ⟨r, e2, e3⟩⟩ := splitU_inv 32 _ x t h0
    · rw [e2] at h; cases h
    · rw [← e3] at h
      cases h1 : splitU 32 r with
      | nil => exact absurd h1 (splitU_ne 32 _)
      | cons y u =>
        rw [h1, List.map_cons, List.cons.injEq] at h
        obtain ⟨e4, h⟩ := h
        obtain ⟨_, ⟨e5, _⟩ | ⟨q, e5, e6⟩⟩ := splitU_inv 32 _ y u h1
        · rw [e5] at h; cases h
        · rw [← e6] at h
          cases h2 : splitU 32 q with
          | nil => exact absurd h2 (splitU_ne 32 _)
          | cons z w =>
            rw [h2, List.map_cons, List.cons.injEq] at h
            obtain ⟨e7, h⟩ := h
            obtain ⟨_, ⟨_, e8⟩ | ⟨p, _, e9⟩⟩ := splitU_inv 32 _ z w h2
            · rw [e2, e5, e8, ← e1, ← e4, ← e7, data_BA, data_BA, data_BA]
            · rw [← e9, List.map_eq_nil_iff] at h
              exact absurd h (splitU_ne 32 _)
/-- a sign that stays within its part: below 128, no blank -/
def firmB (b : UInt8) : Bool := decide (b.toNat < 128) && (b != 32 && b != 9)
/-- is a rune a blank? (as the program's closure says) -/
def rb (x : Nat) : Bool := (request_blank.f (x : Int)).getD false
theorem rb_firm {b : UInt8} (h : firmB b = true) : rb b.toNat = false := by
  revert b
  have : ∀ n : Fin 256, firmB (UInt8.ofNat n.val) = true → rb (UInt8.ofNat n.val).toNat = false := by decide +kernel
  intro b h
  have e : b = UInt8.ofNat b.toNat := by simp
  rw [e] at h ⊢
  exact this ⟨b.toNat, b.toNat_lt⟩ h
theorem decode_low (s : ByteArray) (i : Nat) (h : (s.data.toList.getD i 0).toNat < 128) : Utf8.decode s i = ((s.data.toList.getD i 0).toNat, 1) := by
  rw [Lib.decode_N, Lib.decodeN_ascii _ _ _ _ _ h]
theorem at_mid (a r : List UInt8) (b : UInt8) : (a ++ b :: r).getD a.length 0 = b := by
  simp [List.getD_eq_getElem?_getD]
/-- within a part that has begun -/
theorem span_run (s : ByteArray) (f st : Nat) (acc : List (Nat × Nat)) (x : List UInt8) : ∀ (a r : List UInt8), s.data.toList = a ++ x ++ r → (x.all firmB) = true → Lib.spansFromP rb s (f + x.length) a.length (some st) acc = Lib.spansFromP rb s f (a.length + x.length) (some st) acc := by
  induction x with
  | nil => intro a r _ _; rfl
  | cons b x ih =>
    intro a r hs hx
    rw [List.all_cons, Bool.and_eq_true] at hx
    have hb : s.data.toList.getD a.length 0 = b := by rw [hs, List.append_assoc, List.cons_append, at_mid]
    have hl : b.toNat < 128 := by have := hx.1; unfold firmB at this; rw [Bool.and_eq_true, decide_eq_true_eq] at this; exact this.1
    have hd := decode_low s a.length (by rw [hb]; exact hl)
    rw [hb] at hd
    have hz : a.length < s.size := by rw [← data_length s, hs]; simp
    rw [List.length_cons, ← Nat.add_assoc]
    conv => lhs; unfold Lib.spansFromP
    rw [if_pos hz, hd]
    simp only [rb_firm hx.1, Bool.false_eq_true, if_false]
    have := ih (a ++ [b]) r (by rw [hs]; simp) hx.2
    rw [List.length_append, List.length_singleton] at this
    rw [this, Nat.add_right_comm, Nat.add_assoc]
/-- one part -/
theorem span_part (s : ByteArray) (f : Nat) (acc : List (Nat × Nat)) (x a r : List UInt8) (hs : s.data.toList = a ++ x ++ r) (h0 : x ≠ []) (hx : (x.all firmB) = true) : Lib.spansFromP rb s (f + x.length) a.length none acc = Lib.spansFromP rb s f (a.length + x.length) (some a.length) acc := by
  cases x with
  | nil => exact absurd rfl h0
  | cons b x =>
    rw [List.all_cons, Bool.and_eq_true] at hx
    have hb : s.data.toList.getD a.length 0 = b := by rw [hs, List.append_assoc, List.cons_append, at_mid]
    have hl : b.toNat < 128 := by have := hx.1; unfold firmB at this; rw [Bool.and_eq_true, decide_eq_true_eq] at this; exact this.1
    have hd := decode_low s a.length (by rw [hb]; exact hl)
    rw [hb] at hd
    have hz : a.length < s.size := by rw [← data_length s, hs]; simp
    rw [List.length_cons, ← Nat.add_assoc]
    conv => lhs; unfold Lib.spansFromP
    rw [if_pos hz, hd]
    simp only [rb_firm hx.1, Bool.false_eq_true, if_false]
    have := span_run s f a.length acc x (a ++ [b]) r (by rw [hs]; simp) hx.2
    rw [List.length_append, List.length_singleton] at this
    rw [this, Nat.add_right_comm, Nat.add_assoc]
/-- a space behind a part -/
theorem span_gap (s : ByteArray) (f st : Nat) (acc : List (Nat × Nat)) (a r : List UInt8) (hs : s.data.toList = a ++ 32 :: r) : Lib.spansFromP rb s (f + 1) a.length (some st) acc = Lib.spansFromP rb s f (a.length + 1) none (acc ++ [(st, a.length)]) := by
  have hb : s.data.toList.getD a.length 0 = 32 := by rw [hs, at_mid]
  have hd := decode_low s a.length (by rw [hb]; decide)
  rw [hb] at hd
  have hz : a.length < s.size := by rw [← data_length s, hs]; simp
  conv => lhs; unfold Lib.spansFromP
  rw [if_pos hz, hd]
  simp only [show rb (32 : UInt8).toNat = true by decide, if_true]
/-- what the parts between blanks are -/
theorem fields3 {s m g v : ByteArray} (h : s.data.toList = m.data.toList ++ 32 :: (g.data.toList ++ 32 :: v.data.toList)) (hm : (m.data.toList.all firmB) = true) (hg : (g.data.toList.all firmB) = true) (hv : (v.data.toList.all firmB) = true) (m0 : m.size ≠ 0) (g0 : g.size ≠ 0) (v0 : v.size ≠ 0) : Lib.goFieldsP rb s = [m, g, v] := by
  have nn : ∀ {x : ByteArray}, x.size ≠ 0 → x.data.toList ≠ [] := fun {x} hx e => hx (by rw [← data_length x, e]; rfl)
  have hz : s.size = ((((0 + v.data.toList.length) + 1) + g.data.toList.length) + 1) + m.data.toList.length := by
    rw [← data_length s, h]; simp; omega
  have e : Lib.spansFromP rb s s.size 0 none [] = ([(0, m.size), (m.size + 1, m.size + 1 + g.size)], some (m.size + 1 + g.size + 1)) := by
    rw [hz]
    have s1 := span_part s ((((0 + v.data.toList.length) + 1) + g.data.toList.length) + 1) [] m.data.toList [] (32 :: (g.data.toList ++ 32 :: v.data.toList)) (by rw [h]; simp) (nn m0) hm
    rw [List.length_nil] at s1
    rw [s1, show 0 + m.data.toList.length = m.data.toList.length from Nat.zero_add _]
    rw [span_gap s _ 0 [] m.data.toList (g.data.toList ++ 32 :: v.data.toList) h]
    have s2 := span_part s ((0 + v.data.toList.length) + 1) ([] ++ [(0, m.data.toList.length)]) g.data.toList (m.data.toList ++ [32]) (32 :: v.data.toList) (by rw [h]; simp) (nn g0) hg
    rw [List.length_append, List.length_singleton] at s2
    rw [s2]
    have s3 := span_gap s (0 + v.data.toList.length) (m.data.toList.length + 1) ([] ++ [(0, m.data.toList.length)]) (m.data.toList ++ [32] ++ g.data.toList) v.data.toList (by rw [h]; simp)
    rw [List.length_append, List.length_append, List.length_singleton] at s3
    rw [s3]
    have s4 := span_part s 0 (([] ++ [(0, m.data.toList.length)]) ++ [(m.data.toList.length + 1, m.data.toList.length + 1 + g.data.toList.length)]) v.data.toList (m.data.toList ++ [32] ++ g.data.toList ++ [32]) [] (by rw [h]; simp) (nn v0) hv
    simp only [List.length_append, List.length_singleton] at s4
    rw [s4]
    simp only [data_length]
    rfl
  unfold Lib.goFieldsP Lib.spansOfP Lib.closeSpans
  rw [e]
  simp only [List.map_cons, List.map_nil, List.cons_append, List.nil_append]
  have hz2 : s.size = m.size + 1 + g.size + 1 + v.size := by rw [hz]; simp only [data_length]; omega
  have lm := data_length m
  have lg := data_length g
  have lv := data_length v
  have e1 : s.extract 0 m.size = m := ba_inj (by rw [ext_data, h, List.drop_zero, Nat.sub_zero, ← lm, List.take_left])
  have e2 : s.extract (m.size + 1) (m.size + 1 + g.size) = g := ba_inj (by
    rw [ext_data, h, show m.data.toList ++ 32 :: (g.data.toList ++ 32 :: v.data.toList) = (m.data.toList ++ [32]) ++ (g.data.toList ++ 32 :: v.data.toList) by simp, show m.size + 1 = (m.data.toList ++ [32]).length by simp [lm], List.drop_left, Nat.add_sub_cancel_left, ← lg, List.take_left])
  have e3 : s.extract (m.size + 1 + g.size + 1) s.size = v := ba_inj (by
    rw [ext_data, h, show m.data.toList ++ 32 :: (g.data.toList ++ 32 :: v.data.toList) = (m.data.toList ++ 32 :: g.data.toList ++ [32]) ++ v.data.toList by simp, show m.size + 1 + g.size + 1 = (m.data.toList ++ 32 :: g.data.toList ++ [32]).length by simp [lm, lg]; omega, List.drop_left, List.take_of_length_le (by rw [hz2]; simp [lm, lg, lv]; omega)])
  rw [e1, e2, e3]
theorem mem_extract {g : ByteArray} {i j : Nat} {b : UInt8} (h : b ∈ (g.extract i j).data.toList) : b ∈ g.data.toList := by
  rw [ext_data] at h
  exact List.mem_of_mem_drop (List.mem_of_mem_take h)
/-- may a byte be seen? -/
def visB (c : Int) : Bool := (octet_Visible.f c).getD false
theorem vis_some (c : Int) : octet_Visible.f c = some (visB c) := by
  unfold visB octet_Visible.f
  split <;> rfl
theorem vis_firm : ∀ n : Fin 256, visB (n.val : Int) = true → firmB (UInt8.ofNat n.val) = true := by decide +kernel
theorem tok_firm : ∀ n : Fin 256, ofB (n.val : Int) 1 = true → firmB (UInt8.ofNat n.val) = true := by decide +kernel
theorem firm_of {p : Int → Bool} (hp : ∀ n : Fin 256, p (n.val : Int) = true → firmB (UInt8.ofNat n.val) = true) {g : ByteArray} (h : (bytesOf g).all p = true) : (g.data.toList.all firmB) = true :=
  List.all_eq_true.mpr fun b hb => by
    have h1 := List.all_eq_true.mp h (b.toNat : Int) (List.mem_map.mpr ⟨b, hb, rfl⟩)
    have h2 := hp ⟨b.toNat, b.toNat_lt⟩ h1
    have e : UInt8.ofNat b.toNat = b := by simp
    rw [e] at h2
    exact h2
def visT (g : ByteArray) : Bool := (bytesOf g).all visB
theorem has0 (c : Int) : quirks_Has.f 0 c = some false := by
  have := qhas_some 0 (by decide) c
  rw [show hasB 0 c = false by unfold hasB; simp] at this
  exact this
theorem any_vis {g : ByteArray} (hs : g.size < 1000000) (hv : visT g = true) : strings_IndexAny.f ((g.extract 7 g.size) ++ (⟨#[47]⟩ : ByteArray)) (⟨#[47, 63]⟩ : ByteArray) = some (Lib.indexAny ((g.extract 7 g.size) ++ (⟨#[47]⟩ : ByteArray)).data.toList [47, 63]) := by
  have hf := firm_of vis_firm hv
  unfold strings_IndexAny.f
  rw [if_pos]
  refine ⟨?_, by decide, ?_, by decide⟩
  · rw [ByteArray.size_append, ByteArray.size_extract]; show _ + 1 < _; omega
  · rw [data_app, List.all_append, Bool.and_eq_true]
    refine ⟨List.all_eq_true.mpr fun b hb => ?_, by decide⟩
    have := List.all_eq_true.mp hf b (mem_extract hb)
    unfold firmB at this
    rw [Bool.and_eq_true] at this
    exact this.1
theorem goes_run (m g : ByteArray) (sp ct : Bool) (hs : g.size < 1000000) (r : Bool) (R : Ev (fun k => request_goes.l0 k m g sp ct (g.size : Int) (g.size : Int)) r) (d : Nat) : ∀ i : Nat, i + d = g.size → ((bytesOf g).drop i).all visB = true → Ev (fun k => request_goes.l0 k m g sp ct (g.size : Int) (i : Int)) r := by
  induction d with
  | zero => intro i hi _; rw [show i = g.size by omega]; exact R
  | succ d ih =>
    intro i hi h
    rw [drop_bytes g i (by omega), List.all_cons, Bool.and_eq_true] at h
    refine Ev.step (fun _ => request_goes.l0.eq_2 ..) (Ev.pos (by omega) (Ev.pos (by omega) (Ev.pos (by omega) (Ev.val (vis_some _) (Ev.pos h.1 ?_)))))
    rw [wrap_nat (by omega)]
    exact ih (i + 1) (by omega) h.2
theorem goes_bad (m g : ByteArray) (hs : g.size < 1000000) (d : Nat) : ∀ i : Nat, i + d = g.size → ((bytesOf g).drop i).all visB = false → Ev (fun k => request_goes.l0 k m g false false (g.size : Int) (i : Int)) false := by
  induction d with
  | zero =>
    intro i hi h
    rw [List.drop_of_length_le (by rw [bytesOf_length]; omega)] at h; cases h
  | succ d ih =>
    intro i hi h
    rw [drop_bytes g i (by omega), List.all_cons] at h
    refine Ev.step (fun _ => request_goes.l0.eq_2 ..) (Ev.pos (by omega) (Ev.pos (by omega) (Ev.pos (by omega) (Ev.val (vis_some _) ?_))))
    cases hv : visB (bt g (i : Int)) with
    | true =>
      rw [hv, Bool.true_and] at h
      refine Ev.pos rfl ?_
      rw [wrap_nat (by omega)]
      exact ih (i + 1) (by omega) h
    | false => exact Ev.neg (by simp) (Ev.neg (by simp) (Ev.neg (by simp) (Ev.now _)))
theorem nil_is (s : ByteArray) : s.toList = ([] : List UInt8) ↔ s.size = 0 := by
  rw [ByteArray.toList_eq, ← data_length s]
  cases s.data.toList <;> simp
theorem ne_nil {s : ByteArray} (h : s.size ≠ 0) : (s.toList != ([] : List UInt8)) = true := by
  rw [bne_iff_ne]
  exact fun e => h ((nil_is s).mp e)
/-- a target that may be -/
def goalOk (m g : ByteArray) : Prop := ∃ t : Int × ByteArray × ByteArray × ByteArray × Bool × Int, Ev (fun k => target_Parse.f k m g) t ∧ t.2.2.2.2.2 = 0
theorem goes_zero (m g : ByteArray) (hs : g.size < 1000000) : ∃ b, Ev (fun k => request_goes.f k m g 0) b ∧ (b = true → visT g = true ∧ g.size ≠ 0 ∧ goalOk m g) := by
  have go : ∀ b, Ev (fun k => request_goes.l0 k m g false false (g.size : Int) 0) b → Ev (fun k => request_goes.f k m g 0) b := fun b h => by
    unfold request_goes.f
    exact Ev.val (has0 7) (Ev.val (has0 8) h)
  cases hv : visT g with
  | false => exact ⟨false, go _ (goes_bad m g hs g.size 0 (by omega) hv), fun h => by cases h⟩
  | true =>
    by_cases h0 : g.size = 0
    · refine ⟨false, go _ ((goes_run m g false false hs false ?_ g.size 0 (by omega) hv)), fun h => by cases h⟩
      have hn := (nil_is g).mpr h0
      exact Ev.step (fun _ => request_goes.l0.eq_2 ..) (Ev.neg (by omega) (Ev.pos hn ((Ev.now _).to (by rw [hn]; rfl))))
    · have hp := parse_ev m g (by omega) (fun _ _ => any_vis hs hv)
      refine ⟨(parseB m g).2.2.2.2.2 == 0, go _ (goes_run m g false false hs _ ?_ g.size 0 (by omega) hv), fun h => ⟨rfl, h0, _, hp, by simpa using h⟩⟩
      exact Ev.step (fun _ => request_goes.l0.eq_2 ..) (Ev.neg (by omega) (Ev.neg (fun e => h0 ((nil_is g).mp e)) (Ev.neg (by simp) (Ev.neg (by simp) (Ev.bind hp (Ev.now _))))))
theorem goes_any (m g : ByteArray) (q : Nat) (hq : q < 4294967296) (hs : g.size < 1000000) (hv : visT g = true) (h0 : g.size ≠ 0) (ht : goalOk m g) : Ev (fun k => request_goes.f k m g (q : Int)) true := by
  unfold request_goes.f
  refine Ev.val (qhas_some q hq 7) (Ev.val (qhas_some q hq 8) (goes_run m g _ _ hs true ?_ g.size 0 (by omega) hv))
  refine Ev.step (fun _ => request_goes.l0.eq_2 ..) (Ev.neg (by omega) (Ev.neg (fun e => h0 ((nil_is g).mp e)) ?_))
  obtain ⟨t, ht, h4⟩ := ht
  cases hasB q 7 with
  | true => exact Ev.pos rfl ((Ev.now _).to (ne_nil h0))
  | false =>
    refine Ev.neg (by simp) ?_
    cases hasB q 8 with
    | true => exact Ev.pos rfl ((Ev.now _).to (ne_nil h0))
    | false => exact Ev.neg (by simp) (Ev.bind ht ((Ev.now _).to (by rw [h4]; rfl)))
theorem minor_new (q : Int) (old : Bool) : Ev (fun k => request_minor.f k httpT q old) (1, true) := by
  unfold request_minor.f
  refine Ev.neg (by decide +kernel) (Ev.pos (by decide) (Ev.pos (by decide) (Ev.val (by decide +kernel : octet_Digit.f (bt httpT 7) = some true) (Ev.pos rfl (Ev.pos (by decide) (Ev.pos (by decide) (Ev.pos (by decide +kernel) ?_)))))))
  exact Ev.step (fun _ => request_minor.j0.eq_2 ..) (Ev.neg (by simp) (Ev.pos (by decide) (Ev.pos (by decide) (Ev.neg (by decide +kernel) (Ev.pos (by decide +kernel) (Ev.now _))))))
theorem minor_old (q : Int) (old : Bool) : Ev (fun k => request_minor.f k oldT q old) (0, old) := by
  unfold request_minor.f
  refine Ev.neg (by decide +kernel) (Ev.pos (by decide) (Ev.pos (by decide) (Ev.val (by decide +kernel : octet_Digit.f (bt oldT 7) = some true) (Ev.pos rfl (Ev.pos (by decide) (Ev.pos (by decide) (Ev.pos (by decide +kernel) ?_)))))))
  exact Ev.step (fun _ => request_minor.j0.eq_2 ..) (Ev.neg (by simp) (Ev.pos (by decide) (Ev.pos (by decide) (Ev.pos (by decide +kernel) (Ev.now _)))))
theorem version_is (v : ByteArray) (h8 : v.size = 8) (hp : (v.extract 0 7).toList = ([72, 84, 84, 80, 47, 49, 46] : List UInt8)) (x : UInt8) (hx : bt v 7 = (x.toNat : Int)) : v = BA [72, 84, 84, 80, 47, 49, 46, x] := by
  have hd := drop_bytes v 7 (by omega)
  rw [show (bytesOf v).drop (7 + 1) = [] from List.drop_of_length_le (by rw [bytesOf_length]; omega)] at hd
  rw [ByteArray.toList_eq, ext_data, List.drop_zero, Nat.sub_zero] at hp
  have hl : (v.data.toList.drop 7).map (fun b => (b.toNat : Int)) = [x].map (fun b => (b.toNat : Int)) := by
    rw [List.map_drop]
    exact hd.trans (by rw [show bt v ((7 : Nat) : Int) = (x.toNat : Int) from hx]; rfl)
  have he : v.data.toList.drop 7 = [x] := by
    have inj : Function.Injective (fun b : UInt8 => (b.toNat : Int)) := fun a b h => UInt8.toNat_inj.mp (Int.ofNat.inj h)
    exact (List.map_inj_right (fun a b h => inj h)).mp hl
  apply ba_inj
  rw [data_BA, ← List.take_append_drop 7 v.data.toList, hp, he]
  rfl
theorem minor_zero (v : ByteArray) (v0 : v.size ≠ 0) (old : Bool) : ∃ (n : Int) (b : Bool), Ev (fun k => request_minor.f k v 0 old) (n, b) ∧ (b = true → (v = httpT ∧ n = 1) ∨ (v = oldT ∧ n = 0 ∧ old = true)) := by
  have no : Ev (fun k => request_minor.j0 k v 0 old 7 true) (0, false) := Ev.step (fun _ => request_minor.j0.eq_2 ..) (Ev.pos rfl (Ev.now _))
  have go : ∀ x, Ev (fun k => if (v.size : Int) = (7 + 1) then (if 7 < (v.size : Int) then ((octet_Digit.f (bt v 7)).bind fun t234 => (if t234 = true then (if (0 : Int) ≤ 7 then (if 7 ≤ (v.size : Int) then (if (v.extract 0 7).toList = ([72, 84, 84, 80, 47, 49, 46] : List UInt8) then (request_minor.j0 k v 0 old 7 false) else ((quirks_Has.f 0 5).bind fun t235 => (if t235 = true then ((text_Same.f (v.extract 0 7) (⟨#[72, 84, 84, 80, 47, 49, 46]⟩ : ByteArray)).bind fun t236 => (request_minor.j0 k v 0 old 7 (!t236))) else (request_minor.j0 k v 0 old 7 (!false))))) else (none)) else (none)) else (request_minor.j0 k v 0 old 7 true))) else (none)) else (request_minor.j0 k v 0 old 7 true)) x → Ev (fun k => request_minor.f k v 0 old) x := fun x h => by
    unfold request_minor.f
    exact Ev.neg (fun e => v0 ((nil_is v).mp e)) h
  by_cases h8 : v.size = 8
  · have hdig : ∃ d, octet_Digit.f (bt v 7) = some d := by unfold octet_Digit.f; split <;> exact ⟨_, rfl⟩
    obtain ⟨d, hd⟩ := hdig
    cases d with
    | false => exact ⟨0, false, go _ (Ev.pos (by omega) (Ev.pos (by omega) (Ev.val hd (Ev.neg (by simp) no)))), fun h => by cases h⟩
    | true =>
      by_cases hp : (v.extract 0 7).toList = ([72, 84, 84, 80, 47, 49, 46] : List UInt8)
      · have go2 : ∀ x, Ev (fun k => request_minor.j0 k v 0 old 7 false) x → Ev (fun k => request_minor.f k v 0 old) x := fun x h =>
          go _ (Ev.pos (by omega) (Ev.pos (by omega) (Ev.val hd (Ev.pos rfl (Ev.pos (by omega) (Ev.pos (by omega) (Ev.pos hp h)))))))
        by_cases h48 : bt v 7 = 48
        · exact ⟨0, old, go2 _ (Ev.step (fun _ => request_minor.j0.eq_2 ..) (Ev.neg (by simp) (Ev.pos (by omega) (Ev.pos (by omega) (Ev.pos h48 (Ev.now _)))))), fun h => .inr ⟨version_is v h8 hp 48 h48, rfl, h⟩⟩
        · by_cases h49 : bt v 7 = 49
          · exact ⟨1, true, go2 _ (Ev.step (fun _ => request_minor.j0.eq_2 ..) (Ev.neg (by simp) (Ev.pos (by omega) (Ev.pos (by omega) (Ev.neg h48 (Ev.pos h49 (Ev.now _))))))), fun _ => .inl ⟨version_is v h8 hp 49 h49, rfl⟩⟩
          · exact ⟨1, false, go2 _ (Ev.step (fun _ => request_minor.j0.eq_2 ..) (Ev.neg (by simp) (Ev.pos (by omega) (Ev.pos (by omega) (Ev.neg h48 (Ev.neg h49 (Ev.val (has0 4) (Ev.now _)))))))), fun h => by cases h⟩
      · exact ⟨0, false, go _ (Ev.pos (by omega) (Ev.pos (by omega) (Ev.val hd (Ev.pos rfl (Ev.pos (by omega) (Ev.pos (by omega) (Ev.neg hp (Ev.val (has0 5) (Ev.neg (by simp) no))))))))), fun h => by cases h⟩
  · exact ⟨0, false, go _ (Ev.neg (by omega) no), fun h => by cases h⟩
theorem idxL_no (l : List ByteArray) (s : ByteArray) (h : idxL l s < 0) : ∀ x ∈ l, s.toList ≠ x.toList := by
  induction l with
  | nil => intro x hx; cases hx
  | cons y l ih =>
    unfold idxL at h
    by_cases he : s.toList = y.toList
    · rw [if_pos he] at h; exact absurd h (by decide)
    · rw [if_neg he] at h
      by_cases h0 : idxL l s < 0
      · intro x hx
        rcases List.mem_cons.mp hx with e | e
        · rw [e]; exact he
        · exact ih h0 x e
      · rw [if_neg h0] at h; omega
theorem idxL_none (l : List ByteArray) (s : ByteArray) (h : ∀ x ∈ l, s.toList ≠ x.toList) : idxL l s = -1 := by
  induction l with
  | nil => rfl
  | cons y l ih =>
    unfold idxL
    rw [if_neg (h y (by simp)), ih (fun x hx => h x (by simp [hx])), if_pos (by decide)]
theorem has_nil (l : List ByteArray) (hl : l.length < 9223372036854775807) : Ev (fun k => slices_Contains_string_string.f k l (⟨#[]⟩ : ByteArray)) (decide (idxL l nilT ≥ 0)) := by
  unfold slices_Contains_string_string.f
  exact Ev.bind (idx_ev l nilT hl) (Ev.now _)
theorem nil_ne (x : ByteArray) : nilT.toList = x.toList ↔ x.size = 0 := by
  rw [← nil_is, show nilT.toList = ([] : List UInt8) by decide +kernel]
  exact eq_comm
theorem of_three {l : List ByteArray} (h : l.length = 3) : ∃ a b c, l = [a, b, c] := by
  match l, h with
  | [a, b, c], _ => exact ⟨a, b, c, rfl⟩
theorem parted_zero (s : ByteArray) (hs : s.size ≤ 100000) : ∃ m g v e, Ev (fun k => request_parted.f k s 0) (m, g, v, e) ∧ (e = 0 → parts 32 s = [m, g, v] ∧ m.size ≠ 0 ∧ g.size ≠ 0 ∧ v.size ≠ 0) := by
  have go : ∀ x, Ev (fun k => request_parted.j0 k s 0 (parts 32 s)) x → Ev (fun k => request_parted.f k s 0) x := fun x h => by
    unfold request_parted.f
    exact Ev.bind (split_ev 32 s (by omega)) (Ev.val (has0 3) (Ev.neg (by simp) h))
  have hl : (parts 32 s).length < 9223372036854775807 := by
    have := count_le_size 32 s
    rw [parts_len]; omega
  have hc := has_nil (parts 32 s) hl
  by_cases hi : idxL (parts 32 s) nilT ≥ 0
  · exact ⟨_, _, _, 400, go _ (Ev.step (fun _ => request_parted.j0.eq_2 ..) (Ev.bind hc (Ev.pos (decide_eq_true hi) (Ev.now _)))), fun h => absurd h (by decide)⟩
  · by_cases h3 : (parts 32 s).length = 3
    · obtain ⟨m, g, v, e⟩ := of_three h3
      have hn := idxL_no _ _ (Int.not_le.mp hi)
      rw [e] at hn
      refine ⟨m, g, v, 0, go _ (Ev.step (fun _ => request_parted.j0.eq_2 ..) (Ev.bind hc (Ev.neg (by simpa using hi) (Ev.pos (by omega) (Ev.pos (by omega) (Ev.pos (by omega) (Ev.pos (by omega) ((Ev.now _).to (by rw [e]; rfl))))))))), fun _ => ⟨e, ?_, ?_, ?_⟩⟩
      · exact fun z => hn m (by simp) ((nil_ne m).mpr z)
      · exact fun z => hn g (by simp) ((nil_ne g).mpr z)
      · exact fun z => hn v (by simp) ((nil_ne v).mpr z)
    · have j1 : Ev (fun k => request_parted.j1 k s 0 (parts 32 s) ((parts 32 s).length : Int) false) (nilT, nilT, nilT, 400) := by
        refine Ev.step (fun _ => request_parted.j1.eq_2 ..) (Ev.neg (by simp) ?_)
        by_cases h2 : (parts 32 s).length = 2
        · exact Ev.pos (by omega) (Ev.val (has0 6) (Ev.neg (by simp) (Ev.now _)))
        · exact Ev.neg (by omega) (Ev.now _)
      refine ⟨nilT, nilT, nilT, 400, go _ (Ev.step (fun _ => request_parted.j0.eq_2 ..) (Ev.bind hc (Ev.neg (by simpa using hi) (Ev.neg (by omega) ?_)))), fun h => absurd h (by decide)⟩
      by_cases h4 : (parts 32 s).length > 3
      · exact Ev.pos (by omega) (Ev.val (has0 7) j1)
      · exact Ev.neg (by omega) j1
theorem firm_trim {s m g v : ByteArray} (h : s.data.toList = m.data.toList ++ 32 :: (g.data.toList ++ 32 :: v.data.toList)) (hm : (m.data.toList.all firmB) = true) (hv : (v.data.toList.all firmB) = true) (m0 : m.size ≠ 0) (v0 : v.size ≠ 0) : Trim.trimB Trim.blankB s = s := by
  have nf : ∀ b : UInt8, firmB b = true → TrimP.asU Trim.blankB b = false := by
    have : ∀ n : Fin 256, firmB (UInt8.ofNat n.val) = true → TrimP.asU Trim.blankB (UInt8.ofNat n.val) = false := by decide +kernel
    intro b hb
    have e : b = UInt8.ofNat b.toNat := by simp
    rw [e] at hb ⊢
    exact this ⟨b.toNat, b.toNat_lt⟩ hb
  rw [TrimP.trimB_eq]
  apply ba_inj
  rw [data_BA]
  unfold TrimP.trimU
  have d1 : s.data.toList.dropWhile (TrimP.asU Trim.blankB) = s.data.toList := by
    rw [h]
    cases hml : m.data.toList with
    | nil => exact absurd (by rw [← data_length m, hml]; rfl) m0
    | cons b t =>
      rw [hml, List.all_cons, Bool.and_eq_true] at hm
      rw [List.cons_append, List.dropWhile_cons, if_neg (by rw [nf b hm.1]; simp)]
  have d2 : s.data.toList.reverse.dropWhile (TrimP.asU Trim.blankB) = s.data.toList.reverse := by
    rw [h]
    cases hvl : v.data.toList.reverse with
    | nil => exact absurd (by rw [← data_length v, ← List.length_reverse, hvl]; rfl) v0
    | cons b t =>
      have hb : firmB b = true := List.all_eq_true.mp hv b (by rw [← List.mem_reverse, hvl]; simp)
      simp only [List.reverse_append, List.reverse_cons, hvl, List.cons_append]
      rw [List.dropWhile_cons, if_neg (by rw [nf b hb]; simp)]
  rw [d1, d2, List.reverse_reverse]
theorem parted_any (s m g v : ByteArray) (q : Nat) (hq : q < 4294967296) (hs : s.size ≤ 100000) (h : parts 32 s = [m, g, v]) (hm : (m.data.toList.all firmB) = true) (hg : (g.data.toList.all firmB) = true) (hv : (v.data.toList.all firmB) = true) (m0 : m.size ≠ 0) (g0 : g.size ≠ 0) (v0 : v.size ≠ 0) : Ev (fun k => request_parted.f k s (q : Int)) (m, g, v, 0) := by
  have h3 := three h
  have j0 : Ev (fun k => request_parted.j0 k s (q : Int) [m, g, v]) (m, g, v, 0) := by
    have hi : idxL [m, g, v] nilT = -1 := idxL_none _ _ (fun x hx e => by
      have hz := (nil_ne x).mp e
      simp only [List.mem_cons, List.not_mem_nil, or_false] at hx
      rcases hx with rfl | rfl | rfl
      · exact m0 hz
      · exact g0 hz
      · exact v0 hz)
    refine Ev.step (fun _ => request_parted.j0.eq_2 ..) (Ev.bind (has_nil [m, g, v] (by simp)) (Ev.neg (by rw [hi]; simp) (Ev.pos rfl (Ev.pos (by simp) (Ev.pos (by simp) (Ev.pos (by simp) (Ev.now _)))))))
  unfold request_parted.f
  refine Ev.bind (split_ev 32 s (by omega)) (Ev.val (qhas_some q hq 3) ?_)
  rw [h]
  cases hasB q 3 with
  | false => exact Ev.neg (by simp) j0
  | true =>
    refine Ev.pos rfl (Ev.val (trim_some (by omega)) ?_)
    rw [firm_trim h3 hm hv m0 v0]
    have hf : request_blank_FieldsFunc.f s = some [m, g, v] := by
      unfold request_blank_FieldsFunc.f
      rw [if_pos (by omega)]
      exact congrArg some (fields3 h3 hm hg hv m0 g0 v0)
    exact Ev.val hf j0
/-- what the strict reader takes -/
structure Good (s m g : ByteArray) (n : Int) (old : Bool) : Prop where
  form : ∃ v, parts 32 s = [m, g, v] ∧ v.size ≠ 0 ∧ ((v = httpT ∧ n = 1) ∨ (v = oldT ∧ n = 0 ∧ old = true))
  m0 : m.size ≠ 0
  g0 : g.size ≠ 0
  short : m.size ≤ 32
  token : allB m [1] = true
  seen : visT g = true
  goal : goalOk m g
theorem part_size {s p : ByteArray} (hs : s.size ≤ 100000) (h : p ∈ parts 32 s) : p.size ≤ 100000 := Nat.le_trans (parts_size h) hs
theorem parse_zero (s : ByteArray) (hs : s.size ≤ 100000) (b0 b1 b2 b3 b4 b5 b6 b7 : Int) (c old : Bool) : ∃ m g n e, Ev (fun k => request_Parse.f k s 0 b0 b1 b2 b3 b4 b5 b6 b7 c old) (m, g, n, e) ∧ (e = 0 → Good s m g n old) := by
  obtain ⟨m, g, v, e, hp, he⟩ := parted_zero s hs
  have bad : ∀ m g v, Ev (fun k => request_Parse.j0 k 0 m g v true b0 b1 b2 b3 b4 b5 b6 b7 c old) (nilT, nilT, 0, 400) := fun m g v => Ev.step (fun _ => request_Parse.j0.eq_2 ..) (Ev.pos rfl (Ev.now _))
  have ab : (400 : Int) = 0 → Good s nilT nilT 0 old := fun h => absurd h (by decide)
  by_cases h0 : e = 0
  · obtain ⟨h3, m0, g0, v0⟩ := he h0
    subst h0
    have hm : m.size ≤ 100000 := part_size hs (by rw [h3]; simp)
    have hg : g.size ≤ 100000 := part_size hs (by rw [h3]; simp)
    by_cases h32 : m.size ≤ 32
    · cases ht : allB m [1] with
      | false =>
        refine ⟨nilT, nilT, 0, 400, ?_, ab⟩
        unfold request_Parse.f
        refine Ev.bind hp (Ev.pos rfl (Ev.neg (fun z => m0 ((nil_is m).mp z)) (Ev.neg (by show ¬ ((m.size : Int) > 32); omega) (Ev.bind (own_ev m [1] (by decide) (by omega)) ?_))))
        rw [ht]
        exact Ev.neg (by simp) (bad _ _ _)
      | true =>
        obtain ⟨b, hgo, hb⟩ := goes_zero m g (by omega)
        have go : ∀ x, Ev (fun k => request_Parse.j0 k 0 m g v (!b) b0 b1 b2 b3 b4 b5 b6 b7 c old) x → Ev (fun k => request_Parse.f k s 0 b0 b1 b2 b3 b4 b5 b6 b7 c old) x := fun x h => by
          unfold request_Parse.f
          refine Ev.bind hp (Ev.pos rfl (Ev.neg (fun z => m0 ((nil_is m).mp z)) (Ev.neg (by show ¬ ((m.size : Int) > 32); omega) (Ev.bind (own_ev m [1] (by decide) (by omega)) ?_))))
          rw [ht]
          exact Ev.pos rfl (Ev.bind hgo h)
        cases b with
        | false => exact ⟨nilT, nilT, 0, 400, go _ (bad _ _ _), ab⟩
        | true =>
          obtain ⟨hv, _, hgoal⟩ := hb rfl
          obtain ⟨n, y, hmin, hy⟩ := minor_zero v v0 old
          cases y with
          | true => exact ⟨m, g, n, 0, go _ (Ev.step (fun _ => request_Parse.j0.eq_2 ..) (Ev.neg (by simp) (Ev.bind hmin (Ev.pos rfl (Ev.now _))))), fun _ => ⟨⟨v, h3, v0, hy rfl⟩, m0, g0, h32, ht, hv, hgoal⟩⟩
          | false => exact ⟨nilT, nilT, 0, 505, go _ (Ev.step (fun _ => request_Parse.j0.eq_2 ..) (Ev.neg (by simp) (Ev.bind hmin (Ev.neg (by simp) (Ev.now _))))), fun h => absurd h (by decide)⟩
    · refine ⟨nilT, nilT, 0, 400, ?_, ab⟩
      unfold request_Parse.f
      exact Ev.bind hp (Ev.pos rfl (Ev.neg (fun z => m0 ((nil_is m).mp z)) (Ev.pos (by show (m.size : Int) > 32; omega) (bad _ _ _))))
  · refine ⟨nilT, nilT, 0, 400, ?_, ab⟩
    unfold request_Parse.f
    exact Ev.bind hp (Ev.neg h0 (bad _ _ _))
theorem parse_any {s m g : ByteArray} {n : Int} {old : Bool} (hs : s.size ≤ 100000) (h : Good s m g n old) (q : Nat) (hq : q < 4294967296) (b0 b1 b2 b3 b4 b5 b6 b7 : Int) (c : Bool) : Ev (fun k => request_Parse.f k s (q : Int) b0 b1 b2 b3 b4 b5 b6 b7 c old) (m, g, n, 0) := by
  obtain ⟨⟨v, h3, v0, hv⟩, m0, g0, h32, ht, hvis, hgoal⟩ := h
  have hm : m.size ≤ 100000 := part_size hs (by rw [h3]; simp)
  have hg : g.size ≤ 100000 := part_size hs (by rw [h3]; simp)
  have fm : (m.data.toList.all firmB) = true := firm_of tok_firm (by
    have := ht
    unfold allB at this
    simpa using this)
  have fv : (v.data.toList.all firmB) = true := by
    rcases hv with ⟨rfl, _⟩ | ⟨rfl, _⟩ <;> decide
  have hmin : Ev (fun k => request_minor.f k v (q : Int) old) (n, true) := by
    rcases hv with ⟨rfl, rfl⟩ | ⟨rfl, rfl, rfl⟩
    · exact minor_new _ _
    · exact minor_old _ _
  unfold request_Parse.f
  refine Ev.bind (parted_any s m g v q hq hs h3 fm (firm_of vis_firm hvis) fv m0 g0 v0) (Ev.pos rfl (Ev.neg (fun z => m0 ((nil_is m).mp z)) (Ev.neg (by show ¬ ((m.size : Int) > 32); omega) (Ev.bind (own_ev m [1] (by decide) (by omega)) ?_))))
  rw [ht]
  refine Ev.pos rfl (Ev.bind (goes_any m g q hq (by omega) hvis g0 hgoal) ?_)
  exact Ev.step (fun _ => request_Parse.j0.eq_2 ..) (Ev.neg (by simp) (Ev.bind hmin (Ev.pos rfl (Ev.now _))))
theorem put_back {s m g : ByteArray} {old : Bool} (hs : s.size ≤ 100000) (h : Good s m g 1 old) : request_Put.f m g = some s := by
  obtain ⟨⟨v, h3, v0, hv⟩, m0, g0, h32, ht, hvis, hgoal⟩ := h
  have hm : m.size ≤ 100000 := part_size hs (by rw [h3]; simp)
  have hg : g.size ≤ 100000 := part_size hs (by rw [h3]; simp)
  have e : v = httpT := by
    rcases hv with ⟨e, _⟩ | ⟨_, e, _⟩
    · exact e
    · exact absurd e (by decide)
  have q1 : (⟨#[32]⟩ : ByteArray).size = 1 := rfl
  have q2 : (⟨#[72, 84, 84, 80, 47, 49, 46]⟩ : ByteArray).size = 7 := rfl
  unfold request_Put.f
  rw [if_pos (by omega), if_pos (by rw [ByteArray.size_append, q1]; omega), if_pos (by rw [ByteArray.size_append, ByteArray.size_append, q1]; omega), if_pos (by rw [ByteArray.size_append, ByteArray.size_append, ByteArray.size_append, q1]; omega), if_pos (by rw [ByteArray.size_append, ByteArray.size_append, ByteArray.size_append, ByteArray.size_append, q1, q2]; omega)]
  congr 1
  apply ba_inj
  simp only [data_app]
  rw [three h3, e]
  simp [httpT]
theorem rd_size {l : List ByteArray} {m : Nat} (hm : ∀ x ∈ l, x.size ≤ m) (i : Int) : (rdOf ByteArray.empty l i).size ≤ m := by
  unfold rdOf
  rw [List.getD_eq_getElem?_getD]
  cases h : l[i.toNat]? with
  | none => exact Nat.zero_le _
  | some x => exact hm x (List.mem_of_getElem? h)
theorem tmod_in {x : Int} (h0 : 0 ≤ x) (n : Int) (hn : 0 < n) : 0 ≤ Int.tmod x n ∧ Int.tmod x n < n := by
  rw [Int.tmod_eq_emod_of_nonneg h0]
  exact ⟨Int.emod_nonneg _ (by omega), Int.emod_lt_of_pos _ hn⟩
def Short (f : Nat → Option ByteArray) : Prop := ∃ s : ByteArray, s.size ≤ 100 ∧ Ev f s
theorem short_cond {c : Prop} [Decidable c] {f g : Nat → Option ByteArray} (h : c → Short f) (h' : ¬ c → Short g) : Short (fun k => if c then f k else g k) := by
  by_cases hc : c
  · obtain ⟨s, h1, h2⟩ := h hc; exact ⟨s, h1, Ev.pos hc h2⟩
  · obtain ⟨s, h1, h2⟩ := h' hc; exact ⟨s, h1, Ev.neg hc h2⟩
theorem short_step {f g : Nat → Option ByteArray} (e : ∀ k, f (k + 1) = g k) (h : Short g) : Short f := by
  obtain ⟨s, h1, h2⟩ := h; exact ⟨s, h1, Ev.step e h2⟩
theorem line_j3 {x y : Int} (hx : 0 ≤ x) (hy : 0 ≤ y) (t m : ByteArray) (ht : t.size ≤ 30) (hm : m.size ≤ 10) : Short (fun k => parallaxseat_Line.j3 k x y t m) := by
  have e1 : (⟨#[32]⟩ : ByteArray).size = 1 := rfl
  have e8 : (⟨#[72, 84, 84, 80, 47, 49, 46, 49]⟩ : ByteArray).size = 8 := rfl
  have two : Ev (fun k => if m.size + 1 ≤ 9223372036854775807 then (if (m ++ (⟨#[32]⟩ : ByteArray)).size + t.size ≤ 9223372036854775807 then (some ((m ++ (⟨#[32]⟩ : ByteArray)) ++ t)) else (none)) else (none)) ((m ++ (⟨#[32]⟩ : ByteArray)) ++ t) :=
    Ev.pos (by omega) (Ev.pos (by rw [ByteArray.size_append, e1]; omega) (Ev.now _))
  have two_s : ((m ++ (⟨#[32]⟩ : ByteArray)) ++ t).size ≤ 100 := by rw [ByteArray.size_append, ByteArray.size_append, e1]; omega
  refine short_step (fun _ => parallaxseat_Line.j3.eq_2 ..) (short_cond (fun _ => ?_) (fun _ => ?_))
  · obtain ⟨g0, g1⟩ := tmod_in hy 4 (by decide)
    obtain ⟨v0, v1⟩ := tmod_in hx 6 (by decide)
    have hg := rd_size (l := [(⟨#[32]⟩ : ByteArray), (⟨#[32, 32]⟩ : ByteArray), (⟨#[9]⟩ : ByteArray), (⟨#[32, 9, 32]⟩ : ByteArray)]) (m := 3) (by decide) (Int.tmod y 4)
    have hv := rd_size (l := [(⟨#[72, 84, 84, 80, 47, 49, 46, 49]⟩ : ByteArray), (⟨#[72, 84, 84, 80, 47, 49, 46, 48]⟩ : ByteArray), (⟨#[72, 84, 84, 80, 47, 49, 46, 55]⟩ : ByteArray), (⟨#[104, 116, 116, 112, 47, 49, 46, 49]⟩ : ByteArray), (⟨#[72, 84, 84, 80, 47, 50, 46, 48]⟩ : ByteArray), (⟨#[72, 84, 84, 80, 47, 49, 46, 49]⟩ : ByteArray)]) (m := 8) (by decide) (Int.tmod x 6)
    generalize hG : rdOf ByteArray.empty [(⟨#[32]⟩ : ByteArray), (⟨#[32, 32]⟩ : ByteArray), (⟨#[9]⟩ : ByteArray), (⟨#[32, 9, 32]⟩ : ByteArray)] (Int.tmod y 4) = G at hg
    generalize hV : rdOf ByteArray.empty [(⟨#[72, 84, 84, 80, 47, 49, 46, 49]⟩ : ByteArray), (⟨#[72, 84, 84, 80, 47, 49, 46, 48]⟩ : ByteArray), (⟨#[72, 84, 84, 80, 47, 49, 46, 55]⟩ : ByteArray), (⟨#[104, 116, 116, 112, 47, 49, 46, 49]⟩ : ByteArray), (⟨#[72, 84, 84, 80, 47, 50, 46, 48]⟩ : ByteArray), (⟨#[72, 84, 84, 80, 47, 49, 46, 49]⟩ : ByteArray)] (Int.tmod x 6) = V at hv
    by_cases h199 : y = 199
    · exact ⟨_, two_s, Ev.val rfl (Ev.pos g0 (Ev.pos g1 (Ev.val rfl (Ev.pos v0 (Ev.pos v1 (Ev.pos h199 two))))))⟩
    · refine ⟨(((m ++ G) ++ t) ++ G) ++ V, ?_, Ev.val rfl (Ev.pos g0 (Ev.pos g1 (Ev.val rfl (Ev.pos v0 (Ev.pos v1 (Ev.neg h199 ?_))))))⟩
      · simp only [ByteArray.size_append]; omega
      · rw [hG, hV]
        exact Ev.pos (by omega) (Ev.pos (by simp only [ByteArray.size_append]; omega) (Ev.pos (by simp only [ByteArray.size_append]; omega) (Ev.pos (by simp only [ByteArray.size_append]; omega) (Ev.now _))))
  · by_cases h199 : y = 199
    · exact ⟨_, two_s, Ev.pos h199 two⟩
    · refine ⟨(((m ++ (⟨#[32]⟩ : ByteArray)) ++ t) ++ (⟨#[32]⟩ : ByteArray)) ++ (⟨#[72, 84, 84, 80, 47, 49, 46, 49]⟩ : ByteArray), ?_, Ev.neg h199 ?_⟩
      · simp only [ByteArray.size_append, e1, e8]; omega
      · exact Ev.pos (by omega) (Ev.pos (by simp only [ByteArray.size_append, e1]; omega) (Ev.pos (by simp only [ByteArray.size_append, e1]; omega) (Ev.pos (by simp only [ByteArray.size_append, e1]; omega) (Ev.now _))))
theorem line_ev {x y : Int} (hx : 0 ≤ x) (hy : 0 ≤ y) : Short (fun k => parallaxseat_Line.f k x y) := by
  have j2 : ∀ (b : Bool) (t m : ByteArray), t.size ≤ 30 → m.size ≤ 10 → Short (fun k => parallaxseat_Line.j2 k x y t m b) := fun b t m ht hm =>
    short_step (fun _ => parallaxseat_Line.j2.eq_2 ..) (short_cond (fun _ => line_j3 hx hy _ _ (by decide) (by decide)) (fun _ => line_j3 hx hy _ _ ht hm))
  have j1 : ∀ (t m : ByteArray), t.size ≤ 30 → m.size ≤ 10 → Short (fun k => parallaxseat_Line.j1 k x y t m) := fun t m ht hm =>
    short_step (fun _ => parallaxseat_Line.j1.eq_2 ..) (short_cond (fun _ => short_cond (fun _ => j2 _ _ _ ht hm) (fun _ => j2 _ _ _ ht hm)) (fun _ => j2 _ _ _ ht hm))
  have j0 : ∀ (b : Bool) (t m : ByteArray), t.size ≤ 30 → m.size ≤ 10 → Short (fun k => parallaxseat_Line.j0 k x y t m b) := fun b t m ht hm =>
    short_step (fun _ => parallaxseat_Line.j0.eq_2 ..) (short_cond (fun _ => j1 _ _ (by decide) hm) (fun _ => j1 _ _ ht hm))
  obtain ⟨t0, t1⟩ := tmod_in hy 12 (by decide)
  obtain ⟨m0, m1⟩ := tmod_in hx 8 (by decide)
  have ht := rd_size (l := [(⟨#[47]⟩ : ByteArray), (⟨#[47, 97]⟩ : ByteArray), (⟨#[47, 97, 47, 98, 63, 120, 61, 49]⟩ : ByteArray), (⟨#[47, 97, 47, 46, 46, 47, 98]⟩ : ByteArray), (⟨#[47, 37, 52, 49, 47, 99]⟩ : ByteArray), (⟨#[42]⟩ : ByteArray), (⟨#[104, 116, 116, 112, 58, 47, 47, 104, 46, 111, 114, 103, 47, 113, 63]⟩ : ByteArray), (⟨#[47, 118, 49, 47, 105, 116, 101, 109, 47, 55]⟩ : ByteArray), (⟨#[47, 120, 32, 121]⟩ : ByteArray), (⟨#[47, 113, 1]⟩ : ByteArray), (⟨#[47, 115, 116, 97, 116, 105, 99, 47, 99, 115, 115, 47, 109, 46, 99, 115, 115]⟩ : ByteArray), (⟨#[104, 116, 116, 112, 58, 47, 47, 97]⟩ : ByteArray)]) (m := 30) (by decide) (Int.tmod y 12)
  have hm := rd_size (l := [(⟨#[71, 69, 84]⟩ : ByteArray), (⟨#[80, 79, 83, 84]⟩ : ByteArray), (⟨#[79, 80, 84, 73, 79, 78, 83]⟩ : ByteArray), (⟨#[72, 69, 65, 68]⟩ : ByteArray), (⟨#[80, 85, 84]⟩ : ByteArray), (⟨#[68, 69, 76, 69, 84, 69]⟩ : ByteArray), (⟨#[71, 40, 84]⟩ : ByteArray), (⟨#[67, 79, 78, 78, 69, 67, 84]⟩ : ByteArray)]) (m := 10) (by decide) (Int.tmod x 8)
  have main := short_cond (c := x < 200) (fun _ => short_cond (c := Int.tmod y 12 > 7) (fun _ => j0 ((Int.tmod y 12) != 10) _ _ ht hm) (fun _ => j0 false _ _ ht hm)) (fun _ => j0 false _ _ ht hm)
  obtain ⟨s, h1, h2⟩ := main
  exact ⟨s, h1, Ev.val rfl (Ev.pos t0 (Ev.pos t1 (Ev.val rfl (Ev.pos m0 (Ev.pos m1 h2)))))⟩
theorem clauses_in {a : Int} (h0 : 0 ≤ a) (h1 : a < 4294967296) : ∃ q : Nat, q < 4294967296 ∧ Go.bits .and .u32 a 1073741823 = (q : Int) := by
  obtain ⟨n, rfl⟩ : ∃ n : Nat, a = (n : Int) := ⟨a.toNat, by omega⟩
  have := Nat.mod_lt n (show 0 < 1073741824 by decide)
  exact ⟨n % 1073741824, by omega, bits_mask32 n (by omega)⟩
theorem loop_ev (a : Int) (q : Nat) (hq : q < 4294967296) (ha : Go.bits .and .u32 a 1073741823 = (q : Int)) (l : List ByteArray) (hl : ∀ x ∈ l, x.size ≤ 100000) (hn : l.length ≤ 10) (b0 b1 b2 b3 b4 b5 b6 b7 : Int) (c old : Bool) (d : Nat) : ∀ i : Nat, i + d = l.length →
    Ev (fun k => parallaxlaw8_RequestExtends.l0 k a l (l.length : Int) (i : Int) b0 b1 b2 b3 b4 b5 b6 b7 c old) true := by
  induction d with
  | zero => intro i hi; exact Ev.step (fun _ => parallaxlaw8_RequestExtends.l0.eq_2 ..) (Ev.neg (by omega) (Ev.now _))
  | succ d ih =>
    intro i hi
    have hj2 : Ev (fun k => parallaxlaw8_RequestExtends.j2 k a l (l.length : Int) (i : Int) b0 b1 b2 b3 b4 b5 b6 b7 c old) true := by
      refine Ev.step (fun _ => parallaxlaw8_RequestExtends.j2.eq_2 ..) ?_
      rw [wrap_nat (by omega)]
      exact ih (i + 1) (by omega)
    have hs := hl _ (rdOf_mem l i (by omega))
    generalize hS : rdOf ByteArray.empty l (i : Int) = s at hs
    obtain ⟨m, g, n, e, hp, he⟩ := parse_zero s hs b0 b1 b2 b3 b4 b5 b6 b7 c old
    refine Ev.step (fun _ => parallaxlaw8_RequestExtends.l0.eq_2 ..) (Ev.pos (by omega) (Ev.pos (by omega) (Ev.pos (by omega) ?_)))
    rw [hS, ha]
    refine Ev.bind hp ?_
    by_cases h0 : e = 0
    · have hG := he h0
      refine Ev.pos h0 (Ev.bind (parse_any hs hG q hq b0 b1 b2 b3 b4 b5 b6 b7 c) (Ev.pos rfl (Ev.pos rfl (Ev.pos rfl ?_))))
      refine Ev.step (fun _ => parallaxlaw8_RequestExtends.j1.eq_2 ..) (Ev.neg (by simp) ?_)
      by_cases h1 : n = 1
      · subst h1
        exact Ev.pos rfl (Ev.val (put_back hs hG) (Ev.pos rfl hj2))
      · exact Ev.neg h1 hj2
    · exact Ev.neg h0 hj2
theorem known60 : parallaxlaw8_known.f 60 = some true := by decide +kernel
theorem RequestExtends : parallaxlaw8_RequestExtends.Pure := by
  intro l a1 a2 a3 a4 hl _ hw h1 h2 h3 h4
  have r1 := u32_wf h1
  have r2 := u8_wf h2
  have r3 := u8_wf h3
  have r4 := u8_wf h4
  have hk := Ev.of (fun k => parallaxlaw8_known.mono k) known60
  obtain ⟨q, hq, ha⟩ := clauses_in r1.1 r1.2
  suffices h : Ev (fun k => parallaxlaw8_RequestExtends.f k l a1 a2 a3 a4) true by
    obtain ⟨k, hk⟩ := h
    exact ⟨k, hk k (Nat.le_refl _)⟩
  unfold parallaxlaw8_RequestExtends.f
  refine Ev.bind hk (Ev.pos rfl ?_)
  by_cases h12 : (l.length : Int) > 12
  · exact Ev.pos h12 (Ev.now _)
  · refine Ev.neg h12 ?_
    obtain ⟨b, _, hb⟩ := bounds_ev r2.1 r2.2
    obtain ⟨t, ht, hte⟩ := line_ev (x := Int.tmod a3 200) (y := a4) (tmod_in r3.1 200 (by decide)).1 r4.1
    have hsz := some_size l
    refine Ev.bind hb (Ev.bind (some_ev l (by omega) (fun x hx => u8_wf (hw x hx))) (Ev.bind hte (Ev.val rfl ?_)))
    refine loop_ev a1 q hq ha _ (fun x hx => ?_) (by simp) b.1 b.2.1 b.2.2.1 b.2.2.2.1 b.2.2.2.2.1 b.2.2.2.2.2.1 b.2.2.2.2.2.2.1 b.2.2.2.2.2.2.2.1 b.2.2.2.2.2.2.2.2.1 b.2.2.2.2.2.2.2.2.2 2 0 rfl
    simp only [List.mem_cons, List.not_mem_nil, or_false] at hx
    rcases hx with rfl | rfl
    · omega
    · omega
end Go.Proofs.YtclaaacdmaeblaaDoor.Pure
