/- It is proved that Base64Tells answers true of all bytes and texts: the letters of any bytes are the document's, and just the letters of some bytes are read, as these bytes. -/
import Derived.Test.YtpdkflpkcabhpaaDoorPBase64Tellsx3
import Derived.Test.YtpdkflpkcabhpaaDoorTxtBase64Tells
namespace Go.Proofs.YtpdkflpkcabhpaaDoor.Pure
open Go.RowKit Go.Proofs.YtpdkflpkcabhpaaDoor.PBase64Tells Go.Proofs.YtpdkflpkcabhpaaDoorW.PrintWords Go.Proofs.YtpdkflpkcabhpaaDoorW.PrintLast Go.Proofs.YtpdkflpkcabhpaaDoorW.PrintMore Go.Proofs.YtpdkflpkcabhpaaDoor.Aid

/-- the letters of bytes -/
def putT (l : List Int) : ByteArray := strOfNums (b64put l ((l.length + 2) / 3))
theorem put_at (l : List Int) (h0 : l.length ≤ 1000000) (h1 : ∀ x ∈ l, 0 ≤ x ∧ x < 256) : base64_Put.f l = some (putT l) := by
  unfold base64_Put.f; rw [if_pos ⟨h0, h1⟩]; rfl
theorem nums_size (l : List Int) : (strOfNums l).size = l.length := by
  rw [← data_length, strOfNums_data, List.length_map]
theorem nums_app (a b : List Int) : strOfNums (a ++ b) = strOfNums a ++ strOfNums b := by
  apply Parts.ba_inj; rw [Parts.data_app, strOfNums_data, strOfNums_data, strOfNums_data, List.map_append]
theorem putT_size (l : List Int) : (putT l).size = 4 * ((l.length + 2) / 3) := by unfold putT; rw [nums_size, b64put_length]


/-- bytes -/
def Bs (l : List Int) : Prop := ∀ x ∈ l, 0 ≤ x ∧ x < 256
/-- the number of three bytes -/
def nn (l : List Int) (i : Nat) : Int := b64n l i 3
theorem nn_eq (l : List Int) (i : Nat) : nn l i = (rd l (i : Int) * 256 + rd l ((i + 1 : Nat) : Int)) * 256 + rd l ((i + 2 : Nat) : Int) := by
  unfold nn; simp only [b64n]; rw [show i + 0 = i from rfl]; omega
theorem rd_out (l : List Int) (i : Nat) (h : l.length ≤ i) : rd l (i : Int) = 0 := by
  rw [rd_nat, List.getD_eq_getElem?_getD, List.getElem?_eq_none h]; rfl
theorem nn_rng {l : List Int} (h : Bs l) (i : Nat) : 0 ≤ nn l i ∧ nn l i < 16777216 := by
  rw [nn_eq]
  have := b64rd h (i : Int); have := b64rd h ((i + 1 : Nat) : Int); have := b64rd h ((i + 2 : Nat) : Int)
  omega
theorem w32 (n : Int) (h₀ : 0 ≤ n) (h₁ : n < 2 ^ 32) : IntKind.u32.wrap n = n := by
  have hw : IntKind.u32.wrap n = n % 4294967296 := by simp [IntKind.wrap, IntKind.bits, IntKind.signed]
  rw [hw]; omega
theorem w64 (n : Int) (h₀ : 0 ≤ n) (h₁ : n < 2 ^ 62) : IntKind.i64.wrap n = n := by rw [IntKind.wrap_i64]; omega
theorem or32 (i : Nat) (x y : Int) (hx₀ : 0 ≤ x) (hx : x % 2 ^ i = 0) (hx₁ : x < 2 ^ 32) (hy₀ : 0 ≤ y) (hy : y < 2 ^ i) (hy₁ : y < 2 ^ 32) : Go.bits .or .u32 x y = x + y :=
  bits_join .u32 32 (by decide) w32 i x y hx₀ hx hx₁ hy₀ hy hy₁
theorem or64 (i : Nat) (x y : Int) (hx₀ : 0 ≤ x) (hx : x % 2 ^ i = 0) (hx₁ : x < 2 ^ 62) (hy₀ : 0 ≤ y) (hy : y < 2 ^ i) (hy₁ : y < 2 ^ 62) : Go.bits .or .i64 x y = x + y :=
  bits_join .i64 62 (by decide) w64 i x y hx₀ hx hx₁ hy₀ hy hy₁
theorem and32 (x : Int) (h₀ : 0 ≤ x) (h₁ : x < 2 ^ 32) : Go.bits .and .u32 x 63 = x % 64 := bits_mask .u32 32 (by decide) w32 6 (by decide) x h₀ h₁
theorem and64 (i : Nat) (hi : i ≤ 62) (x : Int) (h₀ : 0 ≤ x) (h₁ : x < 2 ^ 62) : Go.bits .and .i64 x (2 ^ i - 1) = x % 2 ^ i := bits_mask .i64 62 (by decide) w64 i hi x h₀ h₁

/-! ### the document's letters -/
theorem rp_step (l X : List Int) (M : Int) (i k : Nat) (hl : l.length ≤ 1000) (hi : i + 1 ≤ l.length) (hM : 0 ≤ M ∧ M < 16777216) (hX : X.length ≤ 1000000) (hk : k < 4) {R : ByteArray}
    (h : Ev (fun n => parallaxref22_Put.l1 n l (X ++ [if i + k ≤ l.length then bt b64signs (M / 2 ^ (6 * (3 - k)) % 64) else 61]) (i : Int) M ((k + 1 : Nat) : Int)) R) :
    Ev (fun n => parallaxref22_Put.l1 n l X (i : Int) M (k : Int)) R := by
  refine Ev.step (fun _ => parallaxref22_Put.l1.eq_2 ..) (Ev.pos (by omega) ?_)
  rw [show wrap64 ((l.length : Int) - (i : Int)) = (l.length : Int) - (i : Int) from wrap_in (by omega) (by omega), wrap_nat (by omega)]
  by_cases hc : i + k ≤ l.length
  · rw [if_pos hc] at h
    refine Ev.neg (by omega) ?_
    have e1 : wrap64 (18 - wrap64 (6 * (k : Int))) = 18 - 6 * (k : Int) := by
      rw [wrap_in (i := 6 * (k : Int)) (by omega) (by omega), wrap_in (by omega) (by omega)]
    rw [e1]
    have e2 : Go.bits .and .u32 (shr .u32 M (18 - 6 * (k : Int))) 63 = M / 2 ^ (6 * (3 - k)) % 64 := by
      have e3 : shr .u32 M (18 - 6 * (k : Int)) = M / 2 ^ (6 * (3 - k)) := by
        unfold shr
        rw [show (18 - 6 * (k : Int)).toNat = 6 * (3 - k) by omega, Nat.min_eq_left (by show _ ≤ 32; omega)]
      rw [e3]
      refine and32 _ (Int.ediv_nonneg hM.1 (Int.le_of_lt (Int.pow_pos (by decide)))) ?_
      have := Int.ediv_le_self (2 ^ (6 * (3 - k))) hM.1
      omega
    rw [e2]
    exact Ev.pos (by omega) (Ev.pos (Int.emod_nonneg _ (by decide)) (Ev.pos (Int.emod_lt_of_pos _ (by decide)) (Ev.pos (by omega) h)))
  · rw [if_neg hc] at h
    exact Ev.pos (by omega) (Ev.pos (by omega) h)
theorem rp_group (l : List Int) (g : Nat) (hb : Bs l) (hl : l.length ≤ 1000) (hg : 3 * g < l.length) {R : ByteArray}
    (h : Ev (fun n => parallaxref22_Put.l0 n l (b64put l (g + 1)) ((3 * (g + 1) : Nat) : Int)) R) :
    Ev (fun n => parallaxref22_Put.l0 n l (b64put l g) ((3 * g : Nat) : Int)) R := by
  have r0 := b64rd hb ((3 * g : Nat) : Int); have r1 := b64rd hb ((3 * g + 1 : Nat) : Int); have r2 := b64rd hb ((3 * g + 2 : Nat) : Int)
  have hM := nn_rng hb (3 * g)
  have hn := nn_eq l (3 * g)
  have last : Ev (fun n => parallaxref22_Put.l1 n l (b64put l g) ((3 * g : Nat) : Int) (nn l (3 * g)) ((0 : Nat) : Int)) R := by
    have hp := b64put_length l g
    refine rp_step l _ _ _ 0 hl (by omega) hM (by omega) (by omega) (rp_step l _ _ _ 1 hl (by omega) hM (by rw [List.length_append]; simp; omega) (by omega) (rp_step l _ _ _ 2 hl (by omega) hM (by simp; omega) (by omega) (rp_step l _ _ _ 3 hl (by omega) hM (by simp; omega) (by omega) ?_)))
    refine Ev.step (fun _ => parallaxref22_Put.l1.eq_2 ..) (Ev.neg (by omega) ?_)
    rw [show wrap64 (((3 * g : Nat) : Int) + 3) = ((3 * (g + 1) : Nat) : Int) by rw [wrap_in (by omega) (by omega)]; omega]
    rw [List.append_assoc, List.append_assoc, List.append_assoc]
    exact h
  have j2 : Ev (fun n => parallaxref22_Put.j2 n l (b64put l g) ((3 * g : Nat) : Int) (nn l (3 * g))) R := Ev.step (fun _ => parallaxref22_Put.j2.eq_2 ..) last
  have j1 : Ev (fun n => parallaxref22_Put.j1 n l (b64put l g) ((3 * g : Nat) : Int) (rd l ((3 * g : Nat) : Int) * 65536 + rd l ((3 * g + 1 : Nat) : Int) * 256)) R := by
    refine Ev.step (fun _ => parallaxref22_Put.j1.eq_2 ..) ?_
    rw [show wrap64 (((3 * g : Nat) : Int) + 2) = ((3 * g + 2 : Nat) : Int) by rw [wrap_in (by omega) (by omega)]; omega]
    by_cases hc : 3 * g + 2 < l.length
    · refine Ev.pos (by omega) (Ev.pos (by omega) ?_)
      have e : Go.bits .or .u32 (rd l ((3 * g : Nat) : Int) * 65536 + rd l ((3 * g + 1 : Nat) : Int) * 256) (rd l ((3 * g + 2 : Nat) : Int) % 4294967296) = nn l (3 * g) := by
        rw [Int.emod_eq_of_lt (by omega) (by omega), or32 8 _ _ (by omega) (by omega) (by omega) (by omega) (by omega) (by omega), hn]; omega
      rw [e]; exact j2
    · refine Ev.neg (by omega) ?_
      have e := rd_out l (3 * g + 2) (by omega)
      rw [show rd l ((3 * g : Nat) : Int) * 65536 + rd l ((3 * g + 1 : Nat) : Int) * 256 = nn l (3 * g) by rw [hn, e]; omega]; exact j2
  refine Ev.step (fun _ => parallaxref22_Put.l0.eq_2 ..) (Ev.pos (by omega) (Ev.pos (by omega) ?_))
  rw [show wrap64 (((3 * g : Nat) : Int) + 1) = ((3 * g + 1 : Nat) : Int) by rw [wrap_in (by omega) (by omega)]; omega]
  have ea : ((rd l ((3 * g : Nat) : Int) % 4294967296) * 65536) % 4294967296 = rd l ((3 * g : Nat) : Int) * 65536 := by omega
  rw [ea]
  by_cases hc : 3 * g + 1 < l.length
  · refine Ev.pos (by omega) (Ev.pos (by omega) ?_)
    have e : Go.bits .or .u32 (rd l ((3 * g : Nat) : Int) * 65536) (((rd l ((3 * g + 1 : Nat) : Int) % 4294967296) * 256) % 4294967296) = rd l ((3 * g : Nat) : Int) * 65536 + rd l ((3 * g + 1 : Nat) : Int) * 256 := by
      rw [show ((rd l ((3 * g + 1 : Nat) : Int) % 4294967296) * 256) % 4294967296 = rd l ((3 * g + 1 : Nat) : Int) * 256 by omega]
      exact or32 16 _ _ (by omega) (by omega) (by omega) (by omega) (by omega) (by omega)
    rw [e]; exact j1
  · refine Ev.neg (by omega) ?_
    have e := rd_out l (3 * g + 1) (by omega)
    rw [show rd l ((3 * g : Nat) : Int) * 65536 = rd l ((3 * g : Nat) : Int) * 65536 + rd l ((3 * g + 1 : Nat) : Int) * 256 by rw [e]; omega]; exact j1
theorem rput_ev (l : List Int) (hb : Bs l) (hl : l.length ≤ 1000) : Ev (fun k => parallaxref22_Put.f k l) (putT l) := by
  have go : ∀ d g : Nat, g + d = (l.length + 2) / 3 → Ev (fun n => parallaxref22_Put.l0 n l (b64put l g) ((3 * g : Nat) : Int)) (putT l) := by
    intro d
    induction d with
    | zero =>
      intro g hg
      refine Ev.step (fun _ => parallaxref22_Put.l0.eq_2 ..) (Ev.neg (by omega) ?_)
      rw [show g = (l.length + 2) / 3 by omega]; exact Ev.now _
    | succ d ih => intro g hg; exact rp_group l g hb hl (by omega) (ih (g + 1) (by omega))
  exact go ((l.length + 2) / 3) 0 (by omega)

/-! ### values of signs -/
def valT (c : Int) : Int := (parallaxref22_value.f 70 c).getD 0
theorem val_some : ∀ c : Fin 256, (parallaxref22_value.f 70 (c.val : Int)).isSome = true := by decide +kernel
theorem val_rng0 : ∀ c : Fin 256, 0 ≤ valT (c.val : Int) ∧ valT (c.val : Int) < 64 := by decide +kernel
theorem val_sign0 : ∀ v : Fin 64, valT (bt b64signs (v.val : Int)) = (v.val : Int) := by decide +kernel
theorem sign_ne0 : ∀ v : Fin 64, bt b64signs (v.val : Int) ≠ 61 := by decide +kernel
theorem index_sign0 : ∀ v : Fin 64, Lib.indexByte b64signs.data.toList (bt b64signs (v.val : Int)).toNat.toUInt8 = (v.val : Int) := by decide +kernel
theorem val_eq : valT 61 = 0 := by decide +kernel
theorem to_fin {p : Int → Prop} (h : ∀ n : Fin 64, p (n.val : Int)) {a : Int} (h0 : 0 ≤ a) (h1 : a < 64) : p a := by
  have := h ⟨a.toNat, by omega⟩
  rwa [show ((⟨a.toNat, by omega⟩ : Fin 64).val : Int) = a by simp; omega] at this
theorem val_sign {v : Int} (h0 : 0 ≤ v) (h1 : v < 64) : valT (bt b64signs v) = v := to_fin (p := fun v => valT (bt b64signs v) = v) val_sign0 h0 h1
theorem sign_ne {v : Int} (h0 : 0 ≤ v) (h1 : v < 64) : bt b64signs v ≠ 61 := to_fin (p := fun v => bt b64signs v ≠ 61) sign_ne0 h0 h1
theorem index_sign {v : Int} (h0 : 0 ≤ v) (h1 : v < 64) : Lib.indexByte b64signs.data.toList (bt b64signs v).toNat.toUInt8 = v := to_fin (p := fun v => Lib.indexByte b64signs.data.toList (bt b64signs v).toNat.toUInt8 = v) index_sign0 h0 h1
theorem val_rng {c : Int} (h0 : 0 ≤ c) (h1 : c < 256) : 0 ≤ valT c ∧ valT c < 64 := byte_all (p := fun c => 0 ≤ valT c ∧ valT c < 64) val_rng0 h0 h1
theorem val_ev {c : Int} (h0 : 0 ≤ c) (h1 : c < 256) : Ev (fun k => parallaxref22_value.f k c) (valT c) := by
  have h := byte_all (p := fun c => (parallaxref22_value.f 70 c).isSome = true) val_some h0 h1
  refine Ev.of (fun k => parallaxref22_value.mono _ k) (k := 70) ?_
  unfold valT
  cases e : parallaxref22_value.f 70 c with
  | none => rw [e] at h; cases h
  | some x => rfl

/-! ### what the signs of bytes are -/
theorem c_val {l : List Int} (hb : Bs l) (i k : Nat) (hi : i < l.length) (hk : k < 4) : valT (b64c l i k) = nn l i / 2 ^ (6 * (3 - k)) % 64 := by
  unfold b64c
  by_cases h : i + k ≤ l.length
  · rw [if_pos h]; exact val_sign (by omega) (by omega)
  · rw [if_neg h, val_eq, nn_eq]
    have r0 := b64rd hb (i : Int); have r1 := b64rd hb ((i + 1 : Nat) : Int)
    have e2 := rd_out l (i + 2) (by omega)
    rcases (show k = 2 ∨ k = 3 by omega) with rfl | rfl
    · have e1 := rd_out l (i + 1) (by omega)
      rw [e1, e2]; simp only [Nat.reduceSub, Nat.reduceMul, Int.reducePow]; omega
    · rw [e2]; simp only [Nat.reduceSub, Nat.reduceMul, Int.reducePow]; omega
theorem putT_len (l : List Int) : (b64put l ((l.length + 2) / 3)).length = 4 * ((l.length + 2) / 3) := b64put_length ..
theorem rd_app_l (x b : List Int) (i : Nat) (h : i < x.length) : rd (x ++ b) (i : Int) = rd x (i : Int) := by
  rw [rd_nat, rd_nat, List.getD_eq_getElem?_getD, List.getD_eq_getElem?_getD, List.getElem?_append_left h]
theorem rd_app_r (x b : List Int) (i : Nat) : rd (x ++ b) ((x.length + i : Nat) : Int) = rd b (i : Int) := by
  rw [rd_nat, rd_nat, List.getD_eq_getElem?_getD, List.getD_eq_getElem?_getD, List.getElem?_append_right (by omega), show x.length + i - x.length = i by omega]
theorem g_rd (l : List Int) (i n k : Nat) (hk : k < n) : rd (b64g l i n) (k : Int) = b64c l i k := by
  induction n with
  | zero => omega
  | succ n ih =>
    simp only [b64g]
    by_cases h : k < n
    · rw [rd_app_l _ _ _ (by rw [b64g_length]; exact h)]; exact ih h
    · have hl := b64g_length l i n
      have := rd_app_r (b64g l i n) [b64c l i n] 0
      rw [hl] at this
      rw [show k = n + 0 by omega]; exact this
theorem put_rd (l : List Int) (G g k : Nat) (hg : g < G) (hk : k < 4) : rd (b64put l G) ((4 * g + k : Nat) : Int) = b64c l (3 * g) k := by
  induction G with
  | zero => omega
  | succ G ih =>
    simp only [b64put]
    have hl := b64put_length l G
    by_cases h : g < G
    · rw [rd_app_l _ _ _ (by omega)]; exact ih h
    · have := rd_app_r (b64put l G) (b64g l (3 * G) 4) k
      rw [hl, g_rd _ _ _ _ hk] at this
      rw [show g = G by omega]; exact this
theorem num8 {c : Int} (h0 : 0 ≤ c) (h1 : c < 256) : ((UInt8.ofNat c.toNat).toNat : Int) = c := by
  rw [UInt8.toNat_ofNat_of_lt' (by show c.toNat < 256; omega)]; omega
theorem bytes_nums (L : List Int) (h : Bs L) : bytesOf (strOfNums L) = L := by
  unfold bytesOf
  rw [strOfNums_data, List.map_map]
  conv => rhs; rw [← List.map_id L]
  apply List.map_congr_left
  intro c hc
  exact num8 (h c hc).1 (h c hc).2
theorem bt_nums (L : List Int) (h : Bs L) (i : Int) : bt (strOfNums L) i = rd L i := by rw [← rd_bytesOf, bytes_nums L h]
theorem putT_bt (l : List Int) (g k : Nat) (hg : g < (l.length + 2) / 3) (hk : k < 4) : bt (putT l) ((4 * g + k : Nat) : Int) = b64c l (3 * g) k := by
  unfold putT
  rw [bt_nums _ (b64put_range l _)]; exact put_rd l _ g k hg hk

/-! ### the program reads the letters of bytes -/
theorem rd_step (s : ByteArray) (y out : List Int) (n bits v : Int) (i : Nat) (hy : y.length ≤ 2000) (hi : i < y.length) (hr : rd y (i : Int) = bt b64signs v) (hv : 0 ≤ v ∧ v < 64) (hn : 0 ≤ n ∧ n < 64) (hb : 0 ≤ bits ∧ bits < 8) (ho : out.length ≤ 1000000) {R : List Int × Bool}
    (h : bits < 2 → Ev (fun k => base64_Read.l0 k s out (n * 64 + v) (bits + 6) y (y.length : Int) ((i + 1 : Nat) : Int)) R)
    (h' : 2 ≤ bits → Ev (fun k => base64_Read.l0 k s (out ++ [(n * 64 + v) / 2 ^ (bits - 2).toNat % 256]) ((n * 64 + v) % 2 ^ (bits - 2).toNat) (bits - 2) y (y.length : Int) ((i + 1 : Nat) : Int)) R) :
    Ev (fun k => base64_Read.l0 k s out n bits y (y.length : Int) (i : Int)) R := by
  refine Ev.step (fun _ => base64_Read.l0.eq_2 ..) (Ev.pos (by omega) (Ev.pos (by omega) (Ev.pos (by omega) ?_)))
  rw [hr]
  refine Ev.val (x := v) (by show some (Lib.indexByte b64signs.data.toList (bt b64signs v).toNat.toUInt8) = some v; rw [index_sign hv.1 hv.2]) (Ev.neg (by omega) ?_)
  have e6 : wrap64 (bits + 6) = bits + 6 := wrap_in (by omega) (by omega)
  have eo : Go.bits .or .i64 (wrap64 (n * 64)) v = n * 64 + v := by
    rw [wrap_in (by omega) (by omega)]; exact or64 6 _ _ (by omega) (by omega) (by omega) (by omega) (by omega) (by omega)
  rw [wrap_nat (by omega), e6, eo]
  by_cases h8 : 2 ≤ bits
  · have e8 : wrap64 (bits + 6 - 8) = bits - 2 := by rw [wrap_in (by omega) (by omega)]; omega
    rw [e8]
    have es : shr .i64 (n * 64 + v) (bits - 2) = (n * 64 + v) / 2 ^ (bits - 2).toNat := by
      unfold shr; rw [Nat.min_eq_left (by show _ ≤ 64; omega)]
    have el : wrap64 (shl .i64 1 (bits - 2) - 1) = 2 ^ (bits - 2).toNat - 1 := by
      unfold shl
      rw [Nat.min_eq_left (by show _ ≤ 64; omega), Int.one_mul]
      rcases (show bits = 2 ∨ bits = 3 ∨ bits = 4 ∨ bits = 5 ∨ bits = 6 ∨ bits = 7 by omega) with rfl | rfl | rfl | rfl | rfl | rfl <;> decide +kernel
    rw [es, el, and64 _ (by omega) _ (by omega) (by omega)]
    exact Ev.pos (by omega) (Ev.pos (by omega) (Ev.pos (by omega) (h' h8)))
  · exact Ev.neg (by omega) (h (by omega))
theorem take_rd (l : List Int) (n : Nat) (h : n < l.length) : l.take (n + 1) = l.take n ++ [rd l (n : Int)] := by
  rw [List.take_add_one, rd_nat, List.getD_eq_getElem?_getD, List.getElem?_eq_getElem h]; rfl
/-- the signs ahead of what fills up -/
def mm (l : List Int) : Nat := (8 * l.length + 5) / 6
theorem b64c_sign (l : List Int) (i k : Nat) (h : i + k ≤ l.length) : b64c l i k = bt b64signs (nn l i / 2 ^ (6 * (3 - k)) % 64) := by unfold b64c nn; rw [if_pos h]
theorem read_valid_loop (s : ByteArray) (l y : List Int) (hb : Bs l) (hl : l.length ≤ 1000) (hs : s = putT l) (hm : y.length = mm l)
    (hy : ∀ g k : Nat, k < 4 → 4 * g + k < mm l → rd y ((4 * g + k : Nat) : Int) = b64c l (3 * g) k) (d : Nat) :
    ∀ g, g + d = l.length / 3 → Ev (fun k => base64_Read.l0 k s (l.take (3 * g)) 0 0 y (y.length : Int) ((4 * g : Nat) : Int)) (l, true) := by
  have fin : ∀ i : Nat, i = y.length → Ev (fun k => base64_Read.l0 k s l 0 0 y (y.length : Int) (i : Int)) (l, true) := by
    intro i hi
    exact Ev.step (fun _ => base64_Read.l0.eq_2 ..) (Ev.neg (by omega) (Ev.val (put_at l (by omega) hb) (Ev.pos (by rw [hs]) (Ev.now _))))
  have fin2 : ∀ (n b : Int) (i : Nat), i = y.length → Ev (fun k => base64_Read.l0 k s l n b y (y.length : Int) (i : Int)) (l, true) := by
    intro n b i hi
    exact Ev.step (fun _ => base64_Read.l0.eq_2 ..) (Ev.neg (by omega) (Ev.val (put_at l (by omega) hb) (Ev.pos (by rw [hs]) (Ev.now _))))
  have hmm : mm l = (8 * l.length + 5) / 6 := rfl
  have hrd : ∀ g k : Nat, k < 4 → 3 * g + k ≤ l.length → 4 * g + k < mm l → rd y ((4 * g + k : Nat) : Int) = bt b64signs (nn l (3 * g) / 2 ^ (6 * (3 - k)) % 64) := by
    intro g k hk h1 h2
    rw [hy g k hk h2, b64c_sign _ _ _ h1]
  have first2 : ∀ g : Nat, 3 * g < l.length → ∀ {R : List Int × Bool}, Ev (fun k => base64_Read.l0 k s (l.take (3 * g + 1)) (nn l (3 * g) / 4096 % 16) 4 y (y.length : Int) ((4 * g + 2 : Nat) : Int)) R → Ev (fun k => base64_Read.l0 k s (l.take (3 * g)) 0 0 y (y.length : Int) ((4 * g : Nat) : Int)) R := by
    intro g hg R h
    have hn := nn_rng hb (3 * g)
    have he := nn_eq l (3 * g)
    have r0 := b64rd hb ((3 * g : Nat) : Int); have r1 := b64rd hb ((3 * g + 1 : Nat) : Int); have r2 := b64rd hb ((3 * g + 2 : Nat) : Int)
    have h0 := hrd g 0 (by omega) (by omega) (by omega)
    have h1 := hrd g 1 (by omega) (by omega) (by omega)
    simp only [Nat.reduceSub, Nat.reduceMul, Int.reducePow] at h0 h1
    have ht : (l.take (3 * g)).length ≤ 1000 := by rw [List.length_take]; omega
    refine rd_step s y _ 0 0 _ (4 * g) (by omega) (by omega) h0 (by omega) (by omega) (by omega) (by omega) (fun _ => ?_) (fun h => by omega)
    refine rd_step s y _ _ _ _ (4 * g + 1) (by omega) (by omega) h1 (by omega) (by omega) (by omega) (by omega) (fun h => by omega) (fun _ => ?_)
    rw [show ((0 : Int) + 6 - 2).toNat = 4 from rfl, show ((0 : Int) + 6 - 2) = 4 from rfl, show (2 : Int) ^ 4 = 16 from rfl]
    rw [show (0 * 64 + nn l (3 * g) / 262144 % 64) * 64 + nn l (3 * g) / 4096 % 64 = nn l (3 * g) / 4096 by omega]
    rw [show nn l (3 * g) / 4096 / 16 % 256 = rd l ((3 * g : Nat) : Int) by omega, ← take_rd _ _ hg]
    exact h
  have third : ∀ g : Nat, 3 * g + 1 < l.length → ∀ {R : List Int × Bool}, Ev (fun k => base64_Read.l0 k s (l.take (3 * g + 2)) (nn l (3 * g) / 64 % 4) 2 y (y.length : Int) ((4 * g + 3 : Nat) : Int)) R → Ev (fun k => base64_Read.l0 k s (l.take (3 * g + 1)) (nn l (3 * g) / 4096 % 16) 4 y (y.length : Int) ((4 * g + 2 : Nat) : Int)) R := by
    intro g hg R h
    have hn := nn_rng hb (3 * g)
    have he := nn_eq l (3 * g)
    have r0 := b64rd hb ((3 * g : Nat) : Int); have r1 := b64rd hb ((3 * g + 1 : Nat) : Int); have r2 := b64rd hb ((3 * g + 2 : Nat) : Int)
    have h2 := hrd g 2 (by omega) (by omega) (by omega)
    simp only [Nat.reduceSub, Nat.reduceMul, Int.reducePow] at h2
    have ht : (l.take (3 * g + 1)).length ≤ 1000 := by rw [List.length_take]; omega
    refine rd_step s y _ _ 4 _ (4 * g + 2) (by omega) (by omega) h2 (by omega) (by omega) (by omega) (by omega) (fun h => by omega) (fun _ => ?_)
    rw [show ((4 : Int) - 2).toNat = 2 from rfl, show ((4 : Int) - 2) = 2 from rfl, show (2 : Int) ^ 2 = 4 from rfl]
    rw [show (nn l (3 * g) / 4096 % 16 * 64 + nn l (3 * g) / 64 % 64) / 4 % 256 = rd l ((3 * g + 1 : Nat) : Int) by omega, show (nn l (3 * g) / 4096 % 16 * 64 + nn l (3 * g) / 64 % 64) % 4 = nn l (3 * g) / 64 % 4 by omega, ← take_rd _ _ hg]
    exact h
  induction d with
  | zero =>
    intro g hg
    rcases (show l.length = 3 * g ∨ l.length = 3 * g + 1 ∨ l.length = 3 * g + 2 by omega) with e | e | e
    · rw [List.take_of_length_le (by omega)]; exact fin _ (by omega)
    · refine first2 g (by omega) ?_
      rw [List.take_of_length_le (by omega)]; exact fin2 _ _ _ (by omega)
    · refine first2 g (by omega) (third g (by omega) ?_)
      rw [List.take_of_length_le (by omega)]; exact fin2 _ _ _ (by omega)
  | succ d ih =>
    intro g hg
    refine first2 g (by omega) (third g (by omega) ?_)
    have hn := nn_rng hb (3 * g)
    have he := nn_eq l (3 * g)
    have r0 := b64rd hb ((3 * g : Nat) : Int); have r1 := b64rd hb ((3 * g + 1 : Nat) : Int); have r2 := b64rd hb ((3 * g + 2 : Nat) : Int)
    have h3 := hrd g 3 (by omega) (by omega) (by omega)
    simp only [Nat.reduceSub, Nat.reduceMul, Int.reducePow] at h3
    have ht : (l.take (3 * g + 2)).length ≤ 1000 := by rw [List.length_take]; omega
    refine rd_step s y _ _ 2 _ (4 * g + 3) (by omega) (by omega) h3 (by omega) (by omega) (by omega) (by omega) (fun h => by omega) (fun _ => ?_)
    rw [show ((2 : Int) - 2).toNat = 0 from rfl, show ((2 : Int) - 2) = 0 from rfl, show (2 : Int) ^ 0 = 1 from rfl]
    rw [show (nn l (3 * g) / 64 % 4 * 64 + nn l (3 * g) / 1 % 64) / 1 % 256 = rd l ((3 * g + 2 : Nat) : Int) by omega, show (nn l (3 * g) / 64 % 4 * 64 + nn l (3 * g) / 1 % 64) % 1 = 0 by omega, ← take_rd _ _ (by omega)]
    exact ih (g + 1) (by omega)
theorem rd_get (L : List Int) (j : Nat) (h : j < L.length) : L[j]? = some (rd L (j : Int)) := by
  rw [rd_nat, List.getD_eq_getElem?_getD, List.getElem?_eq_getElem h]; rfl
theorem trim_put (l : List Int) : Lib.trimRightS (putT l).data.toList [61] = (putT l).data.toList.take (mm l) := by
  unfold putT
  have hp := putT_len l
  have hmm : mm l = (8 * l.length + 5) / 6 := rfl
  rw [strOfNums_data]
  have key : ∀ (j : Nat) (b : UInt8), ((b64put l ((l.length + 2) / 3)).map (fun c => UInt8.ofNat c.toNat))[j]? = some b → b = UInt8.ofNat (b64c l (3 * (j / 4)) (j % 4)).toNat ∧ j < 4 * ((l.length + 2) / 3) := by
    intro j b hj
    have hj2 : j < 4 * ((l.length + 2) / 3) := by
      have := (List.getElem?_eq_some_iff.mp hj).1
      rw [List.length_map, hp] at this; exact this
    rw [List.getElem?_map, rd_get _ _ (by omega)] at hj
    have e := put_rd l ((l.length + 2) / 3) (j / 4) (j % 4) (by omega) (by omega)
    rw [show 4 * (j / 4) + j % 4 = j by omega] at e
    rw [e] at hj
    exact ⟨(Option.some.inj hj).symm, hj2⟩
  refine Lib.trimRightS_take _ _ (mm l) (by rw [List.length_map]; omega) (fun j b hj hb => ?_) (fun b h0 hb => ?_)
  · obtain ⟨rfl, h2⟩ := key j b hb
    have : b64c l (3 * (j / 4)) (j % 4) = 61 := by unfold b64c; rw [if_neg (by omega)]
    rw [this]; decide
  · obtain ⟨rfl, h2⟩ := key _ b hb
    rw [b64c_sign _ _ _ (by omega)]
    generalize hv : nn l (3 * ((mm l - 1) / 4)) / 2 ^ (6 * (3 - (mm l - 1) % 4)) % 64 = v
    have h := to_fin (p := fun v => [(61 : UInt8)].contains (UInt8.ofNat (bt b64signs v).toNat) = false) (by decide +kernel) (a := v) (by omega) (by omega)
    exact h
theorem read_valid (l : List Int) (hb : Bs l) (hl : l.length ≤ 1000) : Ev (fun k => base64_Read.f k (putT l)) (l, true) := by
  have hp := putT_len l
  have hz := putT_size l
  have hmm : mm l = (8 * l.length + 5) / 6 := rfl
  have e : strings_TrimRight.f (putT l) (⟨#[61]⟩ : ByteArray) = some (⟨((putT l).data.toList.take (mm l)).toArray⟩ : ByteArray) := by
    unfold strings_TrimRight.f
    rw [if_pos ⟨by omega, by decide, by decide⟩]
    show some (⟨(Lib.trimRightS (putT l).data.toList [61]).toArray⟩ : ByteArray) = _
    rw [trim_put]
  have hlen : ((putT l).data.toList.take (mm l)).length = mm l := by rw [List.length_take, data_length]; omega
  have hsz : (⟨((putT l).data.toList.take (mm l)).toArray⟩ : ByteArray).size = mm l := by
    show ((putT l).data.toList.take (mm l)).toArray.size = _
    rw [List.size_toArray]; exact hlen
  have hby : bytesOf (⟨((putT l).data.toList.take (mm l)).toArray⟩ : ByteArray) = (b64put l ((l.length + 2) / 3)).take (mm l) := by
    have : bytesOf (⟨((putT l).data.toList.take (mm l)).toArray⟩ : ByteArray) = (bytesOf (putT l)).take (mm l) := by
      unfold bytesOf
      rw [← List.map_take]
    rw [this]; unfold putT; rw [bytes_nums _ (b64put_range l _)]
  have hyl : ((b64put l ((l.length + 2) / 3)).take (mm l)).length = mm l := by rw [List.length_take]; omega
  refine Ev.val e (Ev.pos (by omega) ?_)
  rw [hby]
  refine Ev.val rfl ?_
  have := read_valid_loop (putT l) l _ hb hl rfl hyl (fun g k hk hg => ?_) (l.length / 3) 0 (by omega)
  · exact this
  · rw [← put_rd l ((l.length + 2) / 3) g k (by omega) hk, rd_nat, rd_nat, List.getD_eq_getElem?_getD, List.getD_eq_getElem?_getD, List.getElem?_take, if_pos hg]
theorem putT_inj {a b : List Int} (ha : Bs a) (hb : Bs b) (hla : a.length ≤ 1000) (hlb : b.length ≤ 1000) (h : putT a = putT b) : a = b := by
  have h1 := read_valid a ha hla
  rw [h] at h1
  exact (Prod.mk.inj (Ev.det h1 (read_valid b hb hlb))).1

/-! ### what is no text of bytes is none, to the program -/
theorem trim_size (s cs : List UInt8) : (Lib.trimRightS s cs).length ≤ s.length := by
  unfold Lib.trimRightS
  rw [List.length_reverse]
  have := (List.dropWhile_sublist (cs.contains ·) (l := s.reverse)).length_le
  rwa [List.length_reverse] at this
theorem toList_inj {a b : ByteArray} (h : a.toList = b.toList) : a = b := by
  rw [ByteArray.toList_eq, ByteArray.toList_eq] at h; exact Parts.ba_inj h
theorem read_loop (x : ByteArray) (hno : ∀ o, Bs o → putT o ≠ x) (y : List Int) (hy : y.length ≤ 1000) (d : Nat) : ∀ (i : Nat) (out : List Int) (n : Int) (bits : Int), i + d = y.length → 0 ≤ bits → bits < 8 → out.length ≤ i → Bs out →
    Ev (fun k => base64_Read.l0 k x out n bits y (y.length : Int) (i : Int)) (([] : List Int), false) := by
  induction d with
  | zero =>
    intro i out n bits hi h0 h1 hl hr
    refine Ev.step (fun _ => base64_Read.l0.eq_2 ..) (Ev.neg (by omega) (Ev.val (put_at out (by omega) hr) (Ev.neg ?_ (Ev.now _))))
    exact fun e => hno out hr (toList_inj e)
  | succ d ih =>
    intro i out n bits hi h0 h1 hl hr
    refine Ev.step (fun _ => base64_Read.l0.eq_2 ..) (Ev.pos (by omega) (Ev.pos (by omega) (Ev.pos (by omega) (Ev.val rfl ?_))))
    have e6 : wrap64 (bits + 6) = bits + 6 := wrap_in (by omega) (by omega)
    rw [wrap_nat (by omega), e6]
    refine (Ev.cond (r := (([] : List Int), false)) (s := (([] : List Int), false)) (fun _ => Ev.now _) (fun _ => ?_)).to (by split <;> rfl)
    by_cases h8 : bits + 6 ≥ 8
    · have e8 : wrap64 (bits + 6 - 8) = bits + 6 - 8 := wrap_in (by omega) (by omega)
      rw [e8]
      refine Ev.pos h8 (Ev.pos (by omega) (Ev.pos (by omega) (ih (i + 1) _ _ _ (by omega) (by omega) (by omega) (by rw [List.length_append]; simp; omega) ?_)))
      intro c hc
      rcases List.mem_append.mp hc with e | e
      · exact hr c e
      · rw [List.mem_singleton.mp e]; omega
    · exact Ev.neg h8 (ih (i + 1) _ _ _ (by omega) (by omega) (by omega) (by omega) hr)
theorem read_no (x : ByteArray) (h : x.size ≤ 1000) (hno : ∀ o, Bs o → putT o ≠ x) : Ev (fun k => base64_Read.f k x) (([] : List Int), false) := by
  have ht : ((⟨(Lib.trimRightS x.data.toList [61]).toArray⟩ : ByteArray)).size ≤ 1000 := by
    have := trim_size x.data.toList [61]
    rw [data_length] at this
    show (Lib.trimRightS x.data.toList [61]).toArray.size ≤ 1000
    rw [List.size_toArray]; omega
  have e : strings_TrimRight.f x (⟨#[61]⟩ : ByteArray) = some (⟨(Lib.trimRightS x.data.toList [61]).toArray⟩ : ByteArray) := by
    unfold strings_TrimRight.f
    rw [if_pos ⟨by omega, by decide, by decide⟩]
  refine Ev.val e (Ev.pos (by omega) (Ev.val rfl (read_loop x hno _ (by rw [bytesOf_length]; exact ht) _ 0 [] 0 0 (by simp; rfl) (by omega) (by omega) (by simp) (by intro c hc; cases hc))))

/-! ### the document's reading -/
/-- what four signs come to -/
def vn (s : ByteArray) (i : Nat) : Nat → Int
  | 0 => 0
  | k + 1 => vn s i k * 64 + valT (bt s ((i + k : Nat) : Int))
theorem bt_val (s : ByteArray) (i : Int) : 0 ≤ valT (bt s i) ∧ valT (bt s i) < 64 := val_rng (bt_lt s i).1 (bt_lt s i).2
theorem vn_rng (s : ByteArray) (i k : Nat) : 0 ≤ vn s i k ∧ vn s i k < 64 ^ k := by
  induction k with
  | zero => simp [vn]
  | succ k ih =>
    have := bt_val s ((i + k : Nat) : Int)
    simp only [vn]; rw [Int.pow_succ]; omega
def rdec (s : ByteArray) : Nat → List Int
  | 0 => []
  | g + 1 => rdec s g ++ [vn s (4 * g) 4 / 65536 % 256, vn s (4 * g) 4 / 256 % 256, vn s (4 * g) 4 % 256]
theorem rdec_len (s : ByteArray) (g : Nat) : (rdec s g).length = 3 * g := by
  induction g with
  | zero => rfl
  | succ g ih => simp [rdec, ih]; omega
theorem rdec_bs (s : ByteArray) (g : Nat) : Bs (rdec s g) := by
  induction g with
  | zero => intro c hc; cases hc
  | succ g ih =>
    intro c hc
    simp only [rdec, List.mem_append, List.mem_cons, List.not_mem_nil, or_false] at hc
    rcases hc with hc | rfl | rfl | rfl
    · exact ih c hc
    · omega
    · omega
    · omega
theorem rr_step (s : ByteArray) (out : List Int) (i k : Nat) (hs : s.size ≤ 1000) (hi : i + 4 ≤ s.size) (hk : k < 4) {R : List Int × Bool}
    (h : Ev (fun n => parallaxref22_Read.l1 n s out (i : Int) (vn s i (k + 1)) ((k + 1 : Nat) : Int)) R) : Ev (fun n => parallaxref22_Read.l1 n s out (i : Int) (vn s i k) (k : Int)) R := by
  refine Ev.step (fun _ => parallaxref22_Read.l1.eq_2 ..) (Ev.pos (by omega) ?_)
  rw [show wrap64 ((i : Int) + (k : Int)) = ((i + k : Nat) : Int) by rw [wrap_in (by omega) (by omega)]; omega, wrap_nat (by omega)]
  refine Ev.pos (by omega) (Ev.pos (by omega) (Ev.bind (val_ev (bt_lt _ _).1 (bt_lt _ _).2) ?_))
  have hv := bt_val s ((i + k : Nat) : Int)
  have hn := vn_rng s i k
  have h3 : (64 : Int) ^ k ≤ 262144 := by
    rcases (show k = 0 ∨ k = 1 ∨ k = 2 ∨ k = 3 by omega) with rfl | rfl | rfl | rfl <;> decide +kernel
  have e : Go.bits .or .u32 ((vn s i k * 64) % 4294967296) (valT (bt s ((i + k : Nat) : Int)) % 4294967296) = vn s i (k + 1) := by
    rw [Int.emod_eq_of_lt (a := vn s i k * 64) (by omega) (by omega), Int.emod_eq_of_lt (by omega) (by omega)]
    exact or32 6 _ _ (by omega) (by omega) (by omega) (by omega) (by omega) (by omega)
  rw [e]; exact h
theorem rr_loop (s : ByteArray) (hs : s.size ≤ 1000) {R : List Int × Bool} (h : Ev (fun n => parallaxref22_Read.l2 n s (rdec s (s.size / 4)) 0) R) (d : Nat) : ∀ g, g + d = s.size / 4 → Ev (fun n => parallaxref22_Read.l0 n s (rdec s g) ((4 * g : Nat) : Int)) R := by
  induction d with
  | zero =>
    intro g hg
    refine Ev.step (fun _ => parallaxref22_Read.l0.eq_2 ..) (Ev.neg (by rw [wrap_in (by omega) (by omega)]; omega) ?_)
    rw [show g = s.size / 4 by omega]; exact h
  | succ d ih =>
    intro g hg
    refine Ev.step (fun _ => parallaxref22_Read.l0.eq_2 ..) (Ev.pos (by rw [wrap_in (by omega) (by omega)]; omega) ?_)
    refine rr_step s _ _ 0 hs (by omega) (by omega) (rr_step s _ _ 1 hs (by omega) (by omega) (rr_step s _ _ 2 hs (by omega) (by omega) (rr_step s _ _ 3 hs (by omega) (by omega) ?_)))
    refine Ev.step (fun _ => parallaxref22_Read.l1.eq_2 ..) (Ev.neg (by omega) (Ev.val rfl (Ev.pos (by rw [rdec_len]; simp; omega) ?_)))
    rw [show wrap64 (((4 * g : Nat) : Int) + 4) = ((4 * (g + 1) : Nat) : Int) by rw [wrap_in (by omega) (by omega)]; omega]
    exact ih (g + 1) (by omega)
theorem rref_of (s : ByteArray) (hs : s.size ≤ 1000) {R : List Int × Bool} (h : Ev (fun n => parallaxref22_Read.l2 n s (rdec s (s.size / 4)) 0) R) : Ev (fun n => parallaxref22_Read.f n s) R :=
  rr_loop s hs h (s.size / 4) 0 (by omega)
theorem l2_cut (out : List Int) (j : Nat) (ho : out.length ≤ 1000) (hj : j ≤ 3) : (mx (wrap64 ((out.length : Int) - (j : Int))) 0) = ((out.length - j : Nat) : Int) := by
  rw [wrap_in (by omega) (by omega)]
  unfold mx
  split <;> omega
theorem l2_step (s : ByteArray) (out : List Int) (j : Nat) (ho : out.length ≤ 1000) (hb : Bs out) (hj : j < 3) {R : List Int × Bool}
    (h : putT (out.take (out.length - j)) = s → R = (out.take (out.length - j), true)) (h' : putT (out.take (out.length - j)) ≠ s → Ev (fun n => parallaxref22_Read.l2 n s out ((j + 1 : Nat) : Int)) R) :
    Ev (fun n => parallaxref22_Read.l2 n s out (j : Int)) R := by
  refine Ev.step (fun _ => parallaxref22_Read.l2.eq_2 ..) (Ev.pos (by omega) ?_)
  rw [l2_cut out j ho (by omega), wrap_nat (by omega)]
  refine Ev.pos (by omega) (Ev.pos (by omega) (Ev.val rfl ?_))
  rw [show (((out.length - j : Nat) : Int)).toNat = out.length - j by omega]
  refine Ev.bind (rput_ev _ (fun c hc => hb c (List.mem_of_mem_take hc)) (by rw [List.length_take]; omega)) ?_
  by_cases e : putT (out.take (out.length - j)) = s
  · refine Ev.pos (by rw [e]) ?_
    rw [h e]; exact Ev.now _
  · exact Ev.neg (fun q => e (toList_inj q)) (h' e)
theorem rref_no (s : ByteArray) (hs : s.size ≤ 1000) (hno : ∀ o, Bs o → putT o ≠ s) : Ev (fun n => parallaxref22_Read.f n s) (([] : List Int), false) := by
  have hl := rdec_len s (s.size / 4)
  have hb := rdec_bs s (s.size / 4)
  have no : ∀ j, ¬ putT ((rdec s (s.size / 4)).take ((rdec s (s.size / 4)).length - j)) = s := fun j e => hno _ (fun c hc => hb c (List.mem_of_mem_take hc)) e
  refine rref_of s hs ?_
  refine l2_step s _ 0 (by omega) hb (by omega) (fun e => absurd e (no 0)) (fun _ => l2_step s _ 1 (by omega) hb (by omega) (fun e => absurd e (no 1)) (fun _ => l2_step s _ 2 (by omega) hb (by omega) (fun e => absurd e (no 2)) (fun _ => ?_)))
  exact Ev.step (fun _ => parallaxref22_Read.l2.eq_2 ..) (Ev.neg (by omega) (Ev.now _))
theorem vn_put {l : List Int} (hb : Bs l) (g : Nat) (hg : 3 * g < l.length) : vn (putT l) (4 * g) 4 = nn l (3 * g) := by
  have hn := nn_rng hb (3 * g)
  have q : ∀ k, k < 4 → valT (bt (putT l) ((4 * g + k : Nat) : Int)) = nn l (3 * g) / 2 ^ (6 * (3 - k)) % 64 := fun k hk => by
    rw [putT_bt l g k (by omega) hk, c_val hb _ _ hg hk]
  simp only [vn]
  rw [q 0 (by omega), q 1 (by omega), q 2 (by omega), q 3 (by omega)]
  simp only [Nat.reduceSub, Nat.reduceMul, Int.reducePow]
  omega
theorem rdec_put {l : List Int} (hb : Bs l) (g : Nat) (hg : g ≤ (l.length + 2) / 3) : ∀ j : Nat, j < 3 * g → rd (rdec (putT l) g) (j : Int) = rd l (j : Int) := by
  induction g with
  | zero => intro j hj; omega
  | succ g ih =>
    intro j hj
    simp only [rdec]
    have hl := rdec_len (putT l) g
    by_cases h : j < 3 * g
    · rw [rd_app_l _ _ _ (by omega)]; exact ih (by omega) j h
    · have he := nn_eq l (3 * g)
      have r0 := b64rd hb ((3 * g : Nat) : Int); have r1 := b64rd hb ((3 * g + 1 : Nat) : Int); have r2 := b64rd hb ((3 * g + 2 : Nat) : Int)
      rw [vn_put hb g (by omega)]
      generalize hz : [nn l (3 * g) / 65536 % 256, nn l (3 * g) / 256 % 256, nn l (3 * g) % 256] = z
      have hr := rd_app_r (rdec (putT l) g) z (j - 3 * g)
      rw [hl, show 3 * g + (j - 3 * g) = j by omega] at hr
      rw [hr]; subst hz
      rcases (show j = 3 * g ∨ j = 3 * g + 1 ∨ j = 3 * g + 2 by omega) with rfl | rfl | rfl
      · rw [Nat.sub_self]; show nn l (3 * g) / 65536 % 256 = _; omega
      · rw [show 3 * g + 1 - 3 * g = 1 by omega]; show nn l (3 * g) / 256 % 256 = _; omega
      · rw [show 3 * g + 2 - 3 * g = 2 by omega]; show nn l (3 * g) % 256 = _; omega
theorem rref_valid (l : List Int) (hb : Bs l) (hl : l.length ≤ 700) : Ev (fun n => parallaxref22_Read.f n (putT l)) (l, true) := by
  have hz := putT_size l
  have hg : (putT l).size / 4 = (l.length + 2) / 3 := by omega
  have ho := rdec_len (putT l) ((putT l).size / 4)
  have hbo := rdec_bs (putT l) ((putT l).size / 4)
  have ht : (rdec (putT l) ((putT l).size / 4)).take l.length = l := by
    apply List.ext_getElem?
    intro j
    rw [List.getElem?_take]
    split
    · rename_i hj
      rw [rd_get _ _ (by omega), rd_get _ _ hj, hg, rdec_put hb _ (Nat.le_refl _) j (by omega)]
    · rename_i hj
      rw [List.getElem?_eq_none (by omega)]
  refine rref_of _ (by omega) ?_
  generalize rdec (putT l) ((putT l).size / 4) = out at ho hbo ht
  have yes : ∀ j : Nat, putT (out.take (out.length - j)) = putT l → (l, true) = (out.take (out.length - j), true) := fun j e => by
    rw [putT_inj (fun c hc => hbo c (List.mem_of_mem_take hc)) hb (by rw [List.length_take]; omega) (by omega) e]
  have last : ∀ j : Nat, out.length - j = l.length → putT (out.take (out.length - j)) = putT l := fun j e => by rw [e, ht]
  refine l2_step _ _ 0 (by omega) hbo (by omega) (yes 0) (fun n0 => l2_step _ _ 1 (by omega) hbo (by omega) (yes 1) (fun n1 => l2_step _ _ 2 (by omega) hbo (by omega) (yes 2) (fun n2 => ?_)))
  rcases (show out.length - 0 = l.length ∨ out.length - 1 = l.length ∨ out.length - 2 = l.length by omega) with e | e | e
  · exact absurd (last 0 e) n0
  · exact absurd (last 1 e) n1
  · exact absurd (last 2 e) n2
theorem read_alike (s : ByteArray) (hs : s.size ≤ 800) : ∃ R, Ev (fun k => base64_Read.f k s) R ∧ Ev (fun k => parallaxref22_Read.f k s) R := by
  by_cases h : ∃ l, Bs l ∧ putT l = s
  · obtain ⟨l, hb, rfl⟩ := h
    have hz := putT_size l
    exact ⟨_, read_valid l hb (by omega), rref_valid l hb (by omega)⟩
  · have hno : ∀ o, Bs o → putT o ≠ s := fun o ho e => h ⟨o, ho, e⟩
    exact ⟨_, read_no s (by omega) hno, rref_no s (by omega) hno⟩

theorem law_end (l : List Int) (hb : Bs l) (hl : l.length ≤ 100) (ys : List ByteArray) (hy : ∀ s ∈ ys, s.size ≤ 800) (hyl : ys.length ≤ 100) (d : Nat) : ∀ i : Nat, i + d = ys.length →
    Ev (fun k => parallaxlaw22_Base64Tells.l0 k l (putT l) ys (ys.length : Int) (i : Int)) true := by
  induction d with
  | zero =>
    intro i hi
    have hz := putT_size l
    refine Ev.step (fun _ => parallaxlaw22_Base64Tells.l0.eq_2 ..) (Ev.neg (by omega) (Ev.bind (read_valid l hb (by omega)) (Ev.bind (rput_ev l hb (by omega)) (Ev.pos rfl (Ev.pos rfl (Ev.pos rfl ?_))))))
    refine Ev.step (fun _ => parallaxlaw22_Base64Tells.j3.eq_2 ..) ?_
    rw [wrap_in (i := (l.length : Int) + 2) (by omega) (by omega), show Int.tdiv ((l.length : Int) + 2) 3 = (((l.length + 2) / 3 : Nat) : Int) by rw [show (l.length : Int) + 2 = ((l.length + 2 : Nat) : Int) by omega]; rfl]
    rw [wrap_in (i := (((l.length + 2) / 3 : Nat) : Int)) (by omega) (by omega), wrap_in (by omega) (by omega)]
    rw [show (((putT l).size : Int) == (((l.length + 2) / 3 : Nat) : Int) * 4) = true by rw [beq_iff_eq]; omega]
    exact Ev.now _
  | succ d ih =>
    intro i hi
    obtain ⟨R, h1, h2⟩ := read_alike (rdOf ByteArray.empty ys (i : Int)) (hy _ (rdOf_mem ys i (by omega)))
    refine Ev.step (fun _ => parallaxlaw22_Base64Tells.l0.eq_2 ..) (Ev.pos (by omega) (Ev.pos (by omega) (Ev.pos (by omega) (Ev.bind h1 (Ev.bind h2 (Ev.neg (by simp) (Ev.pos rfl ?_)))))))
    rw [wrap_nat (by omega)]
    exact ih (i + 1) (by omega)

theorem Base64Tells : parallaxlaw22_Base64Tells.Pure := by
  intro l0 a1 a2 a3 _ _ h0 _ h2 _
  refine Ev.rounds (g := fun k => parallaxlaw22_Base64Tells.f k l0 a1 a2 a3) ?_
  unfold parallaxlaw22_Base64Tells.f
  have far : ∀ b : Bool, b = true → Ev (fun k => parallaxlaw22_Base64Tells.j0 k l0 a1 a2 a3 b) true := fun b hb => Ev.step (fun _ => parallaxlaw22_Base64Tells.j0.eq_2 ..) (Ev.pos hb (Ev.now _))
  refine Ev.bind known_ev (Ev.pos rfl ?_)
  by_cases c0 : (l0.length : Int) > 100
  · exact Ev.pos c0 (far _ rfl)
  refine Ev.neg c0 ?_
  by_cases c1 : (a1.size : Int) > 100
  · exact far _ (decide_eq_true c1)
  have hb : Bs l0 := fun x hx => u8_wf (h0 x hx)
  have hz := putT_size l0
  have ha2 := u8_wf h2
  have j1 : ∀ x : List Int, x.length ≤ 200 → Ev (fun k => parallaxlaw22_Base64Tells.j1 k l0 a1 (putT l0) x) true := by
    intro x hx
    refine Ev.step (fun _ => parallaxlaw22_Base64Tells.j1.eq_2 ..) (Ev.pos (by omega) (Ev.pos (by omega) (Ev.val rfl ?_)))
    refine law_end l0 hb (by omega) _ (fun s hs => ?_) (by simp) _ 0 (Nat.zero_add _)
    have s4 : (putT l0 ++ (⟨#[61]⟩ : ByteArray)).size = (putT l0).size + 1 := by rw [ByteArray.size_append]; rfl
    have s5 : (putT l0 ++ (⟨#[65, 65, 65, 65]⟩ : ByteArray)).size = (putT l0).size + 4 := by rw [ByteArray.size_append]; rfl
    simp only [List.mem_cons, List.not_mem_nil, or_false] at hs
    rcases hs with rfl | rfl | rfl | rfl
    · omega
    · rw [nums_size]; omega
    · omega
    · omega
  refine Ev.step (fun _ => parallaxlaw22_Base64Tells.j0.eq_2 ..) (Ev.neg (by rw [decide_eq_true_eq]; exact c1) ?_)
  refine Ev.val (put_at l0 (by omega) hb) (Ev.pos (by omega) (Ev.val rfl ?_))
  have hl2 : (bytesOf (putT l0)).length = (putT l0).size := bytesOf_length _
  by_cases hp : ((bytesOf (putT l0)).length : Int) > 0
  · have em : Int.tmod (wrap64 a2) ((bytesOf (putT l0)).length : Int) = a2 % ((bytesOf (putT l0)).length : Int) := by
      rw [wrap_in (by omega) (by omega)]
      exact Int.tmod_eq_emod_of_nonneg ha2.1
    rw [em]
    exact Ev.pos hp (Ev.neg (by omega) (Ev.pos (Int.emod_nonneg _ (by omega)) (Ev.pos (Int.emod_lt_of_pos _ (by omega)) (j1 _ (by rw [List.length_set]; omega)))))
  · exact Ev.neg hp (j1 _ (by omega))

end Go.Proofs.YtpdkflpkcabhpaaDoor.Pure
