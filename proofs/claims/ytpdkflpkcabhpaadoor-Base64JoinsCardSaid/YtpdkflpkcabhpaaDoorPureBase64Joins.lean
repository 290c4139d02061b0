/- It is proved that Base64Joins answers true of all bytes: three bytes are four letters, whatever stands ahead of them, and what isn't its own is none. -/
import Derived.Test.YtpdkflpkcabhpaaDoorPBase64Joinsx2
import Derived.Test.YtpdkflpkcabhpaaDoorTxtBase64Joins
namespace Go.Proofs.YtpdkflpkcabhpaaDoor.Pure
open Go.RowKit Go.Proofs.YtpdkflpkcabhpaaDoor.PBase64Joins Go.Proofs.YtpdkflpkcabhpaaDoorW.PrintWords Go.Proofs.YtpdkflpkcabhpaaDoorW.PrintLast Go.Proofs.YtpdkflpkcabhpaaDoorW.PrintMore Go.Proofs.YtpdkflpkcabhpaaDoor.Aid Go.Proofs.YtpdkflpkcabhpaaDoor.Parts

/-- the letters of bytes -/
def putT (l : List Int) : ByteArray := strOfNums (b64put l ((l.length + 2) / 3))
theorem put_at (l : List Int) (h0 : l.length ≤ 1000000) (h1 : ∀ x ∈ l, 0 ≤ x ∧ x < 256) : base64_Put.f l = some (putT l) := by
  unfold base64_Put.f; rw [if_pos ⟨h0, h1⟩]; rfl
theorem nums_size (l : List Int) : (strOfNums l).size = l.length := by
  rw [← data_length, strOfNums_data, List.length_map]
theorem nums_app (a b : List Int) : strOfNums (a ++ b) = strOfNums a ++ strOfNums b := by
  apply ba_inj; rw [data_app, strOfNums_data, strOfNums_data, strOfNums_data, List.map_append]
theorem putT_size (l : List Int) : (putT l).size = 4 * ((l.length + 2) / 3) := by unfold putT; rw [nums_size, b64put_length]

/-! ### groups -/
theorem rd_left (x b : List Int) (i : Nat) (h : i < x.length) : rd (x ++ b) (i : Int) = rd x (i : Int) := by
  rw [rd_nat, rd_nat, List.getD_eq_getElem?_getD, List.getD_eq_getElem?_getD, List.getElem?_append_left h]
theorem rd_right (x b : List Int) (i : Nat) : rd (x ++ b) ((x.length + i : Nat) : Int) = rd b (i : Int) := by
  rw [rd_nat, rd_nat, List.getD_eq_getElem?_getD, List.getD_eq_getElem?_getD, List.getElem?_append_right (by omega), show x.length + i - x.length = i by omega]
theorem n_left (x b : List Int) (i k : Nat) (h : i + k ≤ x.length) : b64n (x ++ b) i k = b64n x i k := by
  induction k with
  | zero => rfl
  | succ k ih => simp only [b64n]; rw [ih (by omega), rd_left _ _ _ (by omega)]
theorem n_right (x b : List Int) (i k : Nat) : b64n (x ++ b) (x.length + i) k = b64n b i k := by
  induction k with
  | zero => rfl
  | succ k ih => simp only [b64n]; rw [ih, show x.length + i + k = x.length + (i + k) by omega, rd_right]
theorem c_left (x b : List Int) (i k : Nat) (h : i + 3 ≤ x.length) (hk : k ≤ 3) : b64c (x ++ b) i k = b64c x i k := by
  unfold b64c
  rw [if_pos (by rw [List.length_append]; omega), if_pos (by omega), n_left _ _ _ _ h]
theorem c_right (x b : List Int) (i k : Nat) : b64c (x ++ b) (x.length + i) k = b64c b i k := by
  unfold b64c
  rw [n_right, List.length_append]
  by_cases h : i + k ≤ b.length
  · rw [if_pos h, if_pos (by omega)]
  · rw [if_neg h, if_neg (by omega)]
theorem g_left (x b : List Int) (i : Nat) (h : i + 3 ≤ x.length) (k : Nat) (hk : k ≤ 4) : b64g (x ++ b) i k = b64g x i k := by
  induction k with
  | zero => rfl
  | succ k ih => simp only [b64g]; rw [ih (by omega), c_left _ _ _ _ h (by omega)]
theorem g_right (x b : List Int) (i k : Nat) : b64g (x ++ b) (x.length + i) k = b64g b i k := by
  induction k with
  | zero => rfl
  | succ k ih => simp only [b64g]; rw [ih, c_right]
theorem put_left (x b : List Int) (g : Nat) (h : 3 * g ≤ x.length) : b64put (x ++ b) g = b64put x g := by
  induction g with
  | zero => rfl
  | succ g ih => simp only [b64put]; rw [ih (by omega), g_left _ _ _ (by omega) _ (by omega)]
theorem put_right (x b : List Int) (m : Nat) (h : x.length = 3 * m) (g : Nat) : b64put (x ++ b) (m + g) = b64put x m ++ b64put b g := by
  induction g with
  | zero => simp only [b64put, List.append_nil]; exact put_left x b m (by omega)
  | succ g ih =>
    rw [← Nat.add_assoc]
    simp only [b64put]
    rw [ih, show 3 * (m + g) = x.length + 3 * g by omega, g_right, List.append_assoc]
theorem putT_app (x b : List Int) (h : x.length % 3 = 0) : putT (x ++ b) = putT x ++ putT b := by
  unfold putT
  rw [← nums_app, List.length_append, show (x.length + b.length + 2) / 3 = x.length / 3 + (b.length + 2) / 3 by omega, put_right _ _ (x.length / 3) (by omega), show (x.length + 2) / 3 = x.length / 3 by omega]

/-! ### what is no text of whole groups is none -/
theorem trim_size (s cs : List UInt8) : (Lib.trimRightS s cs).length ≤ s.length := by
  unfold Lib.trimRightS
  rw [List.length_reverse]
  have := (List.dropWhile_sublist (cs.contains ·) (l := s.reverse)).length_le
  rwa [List.length_reverse] at this
theorem read_loop (x : ByteArray) (h4 : x.size % 4 ≠ 0) (y : List Int) (hy : y.length ≤ 1000) (d : Nat) : ∀ (i : Nat) (out : List Int) (n : Int) (bits : Int), i + d = y.length → 0 ≤ bits → bits < 8 → out.length ≤ i → (∀ c ∈ out, 0 ≤ c ∧ c < 256) →
    Ev (fun k => base64_Read.l0 k x out n bits y (y.length : Int) (i : Int)) (([] : List Int), false) := by
  induction d with
  | zero =>
    intro i out n bits hi h0 h1 hl hr
    refine Ev.step (fun _ => base64_Read.l0.eq_2 ..) (Ev.neg (by omega) (Ev.val (put_at out (by omega) hr) (Ev.neg ?_ (Ev.now _))))
    intro e
    have e2 := congrArg List.length e
    rw [ByteArray.toList_eq, ByteArray.toList_eq, data_length, data_length, putT_size] at e2
    omega
  | succ d ih =>
    intro i out n bits hi h0 h1 hl hr
    refine Ev.step (fun _ => base64_Read.l0.eq_2 ..) (Ev.pos (by omega) (Ev.pos (by omega) (Ev.pos (by omega) (Ev.val rfl ?_))))
    have e6 : wrap64 (bits + 6) = bits + 6 := wrap_in (by omega) (by omega)
    rw [wrap_nat (by omega), e6]
    refine (Ev.cond (r := (([] : List Int), false)) (s := (([] : List Int), false)) (fun _ => Ev.now _) (fun _ => ?_)).to (by split <;> rfl)
    by_cases h8 : bits + 6 ≥ 8
    · have e8 : wrap64 (bits + 6 - 8) = bits + 6 - 8 := wrap_in (by omega) (by omega)
      rw [e8]
      refine Ev.pos h8 (Ev.pos (by omega) (Ev.pos (by omega) (ih (i + 1) _ _ _ (by omega) (by omega) (by omega) (by rw [List.length_append]; simp; omega) ?_)))
      intro c hc
      rcases List.mem_append.mp hc with e | e
      · exact hr c e
      · rw [List.mem_singleton.mp e]; omega
    · exact Ev.neg h8 (ih (i + 1) _ _ _ (by omega) (by omega) (by omega) (by omega) hr)
theorem read_no (x : ByteArray) (h : x.size ≤ 1000) (h4 : x.size % 4 ≠ 0) : Ev (fun k => base64_Read.f k x) (([] : List Int), false) := by
  have ht : ((⟨(Lib.trimRightS x.data.toList [61]).toArray⟩ : ByteArray)).size ≤ 1000 := by
    have := trim_size x.data.toList [61]
    rw [data_length] at this
    show (Lib.trimRightS x.data.toList [61]).toArray.size ≤ 1000
    rw [List.size_toArray]; omega
  have e : strings_TrimRight.f x (⟨#[61]⟩ : ByteArray) = some (⟨(Lib.trimRightS x.data.toList [61]).toArray⟩ : ByteArray) := by
    unfold strings_TrimRight.f
    rw [if_pos ⟨by omega, by decide, by decide⟩]
  refine Ev.val e (Ev.pos (by omega) (Ev.val rfl (read_loop x h4 _ (by rw [bytesOf_length]; exact ht) _ 0 [] 0 0 (by simp; rfl) (by omega) (by omega) (by simp) (by simp))))

theorem read_a : Ev (fun k => base64_Read.f k (⟨#[89, 82, 61, 61]⟩ : ByteArray)) (([] : List Int), false) := Ev.of (fun k => base64_Read.mono _ k) (k := 40) (by decide +kernel)
theorem read_b : Ev (fun k => base64_Read.f k (⟨#[89, 81, 61, 61, 89, 81, 61, 61]⟩ : ByteArray)) (([] : List Int), false) := Ev.of (fun k => base64_Read.mono _ k) (k := 40) (by decide +kernel)
theorem read_c : Ev (fun k => base64_Read.f k (⟨#[]⟩ : ByteArray)) (([] : List Int), true) := Ev.of (fun k => base64_Read.mono _ k) (k := 40) (by decide +kernel)

theorem Base64Joins : parallaxlaw22_Base64Joins.Pure := by
  intro l0 l1 _ _ h0 _ _ h1
  refine Ev.rounds (g := fun k => parallaxlaw22_Base64Joins.f k l0 l1) ?_
  unfold parallaxlaw22_Base64Joins.f
  have far : ∀ b : Bool, b = true → Ev (fun k => parallaxlaw22_Base64Joins.j0 k l0 l1 b) true := fun b hb => Ev.step (fun _ => parallaxlaw22_Base64Joins.j0.eq_2 ..) (Ev.pos hb (Ev.now _))
  refine Ev.bind known_ev (Ev.pos rfl ?_)
  by_cases c0 : (l0.length : Int) > 60
  · exact Ev.pos c0 (far _ rfl)
  refine Ev.neg c0 ?_
  by_cases c1 : (l1.length : Int) > 60
  · exact far _ (decide_eq_true c1)
  have b0 : ∀ x ∈ l0, 0 ≤ x ∧ x < 256 := fun x hx => u8_wf (h0 x hx)
  have b1 : ∀ x ∈ l1, 0 ≤ x ∧ x < 256 := fun x hx => u8_wf (h1 x hx)
  have ew : wrap64 (wrap64 ((l0.length : Int) / 3) * 3) = ((l0.length / 3 * 3 : Nat) : Int) := by
    rw [wrap_in (i := (l0.length : Int) / 3) (by omega) (by omega), wrap_in (by omega) (by omega)]; omega
  refine Ev.step (fun _ => parallaxlaw22_Base64Joins.j0.eq_2 ..) (Ev.neg (by rw [decide_eq_true_eq]; exact c1) ?_)
  rw [ew]
  simp only [Int.toNat_natCast, List.nil_append]
  have hx : (l0.take (l0.length / 3 * 3)).length = l0.length / 3 * 3 := by rw [List.length_take]; omega
  have bx : ∀ x ∈ l0.take (l0.length / 3 * 3), 0 ≤ x ∧ x < 256 := fun x hx => b0 x (List.mem_of_mem_take hx)
  generalize l0.take (l0.length / 3 * 3) = x at hx bx
  have ba : ∀ y ∈ x ++ l1, 0 ≤ y ∧ y < 256 := fun y hy => (List.mem_append.mp hy).elim (bx y) (b1 y)
  have sz : (putT (x ++ l1)).size ≤ 400 := by rw [putT_size, List.length_append]; omega
  have s4 : (putT (x ++ l1) ++ (⟨#[89]⟩ : ByteArray)).size = (putT (x ++ l1)).size + 1 := by rw [ByteArray.size_append]; rfl
  refine Ev.pos (by omega) (Ev.pos (by omega) (Ev.pos (by simp; omega) (Ev.val rfl (Ev.pos (by simp; omega) (Ev.val rfl (Ev.pos (by omega) (Ev.val (put_at _ (by rw [List.length_append]; omega) ba) ?_)))))))
  refine Ev.bind read_a (Ev.bind read_b (Ev.pos (by omega) (Ev.bind (read_no _ (by omega) (by rw [s4, putT_size]; omega)) (Ev.bind read_c (Ev.val (put_at _ (by omega) bx) (Ev.val (put_at _ (by omega) b1) ?_))))))
  have z0 := putT_size x
  have z1 := putT_size l1
  refine Ev.pos (by omega) (Ev.pos (by rw [putT_app _ _ (by omega)]) (Ev.neg (by decide) (Ev.neg (by decide) (Ev.neg (by decide) (Ev.pos rfl ?_)))))
  exact Ev.step (fun _ => parallaxlaw22_Base64Joins.j1.eq_2 ..) (Ev.now _)

end Go.Proofs.YtpdkflpkcabhpaaDoor.Pure
