-- Written by a program of this session (wip/tools/myprint.sh)
import Derived.Test.YtpdkflpkcabhpaaDoorPBase64Tellsx0
namespace Go.Proofs.YtpdkflpkcabhpaaDoor.PBase64Tells
open Go.RowKit Go.Proofs.YtpdkflpkcabhpaaDoorW.PrintWords Go.Proofs.YtpdkflpkcabhpaaDoorW.PrintLast Go.Proofs.YtpdkflpkcabhpaaDoorW.PrintMore
attribute [local go_sem] max2_int min2_int max_two min_two max_three min_three max_four min_four   -- for this text's walks alone
set_option linter.unusedVariables false
set_option linter.unusedSimpArgs false

/-! ### base64_Put: function 6 -/
theorem base64_Put_below {T e B b : Nat} {bs : List Value} {w w' : World} (h : Lib.IsBuilder T e B b bs w) (hb : Below w.heap.size w w') : Lib.IsBuilder T e B b bs w' := by
  have key : ∀ p, Lib.BuilderAt T e B b p bs w → Lib.BuilderAt T e B b p bs w' := by
    intro p hp
    have hlt := hp.lt
    obtain ⟨hB, v, hbk, hown, hne⟩ := hp
    exact ⟨hB, v, (hb.block b hlt).trans hbk, hown.kept (row := none) ⟨hb.os, hb.tape, hb.output, hb.size, fun k hk _ => hb.block k hk⟩ (Classical.em _), hne⟩
  rcases h with h | h
  · exact .inl (key _ h)
  · exact .inr (key _ h)
/-- the letters; what three bytes come to behind k of them; the k-th sign of a group; a group; so many groups -/
def b64signs : ByteArray := ⟨#[65, 66, 67, 68, 69, 70, 71, 72, 73, 74, 75, 76, 77, 78, 79, 80, 81, 82, 83, 84, 85, 86, 87, 88, 89, 90, 97, 98, 99, 100, 101, 102, 103, 104, 105, 106, 107, 108, 109, 110, 111, 112, 113, 114, 115, 116, 117, 118, 119, 120, 121, 122, 48, 49, 50, 51, 52, 53, 54, 55, 56, 57, 43, 47]⟩
def b64n (l : List Int) (i : Nat) : Nat → Int
  | 0 => 0
  | k + 1 => b64n l i k * 256 + rd l ((i + k : Nat) : Int)
def b64c (l : List Int) (i k : Nat) : Int := if i + k ≤ l.length then bt b64signs (b64n l i 3 / 2 ^ (6 * (3 - k)) % 64) else 61
def b64g (l : List Int) (i : Nat) : Nat → List Int
  | 0 => []
  | k + 1 => b64g l i k ++ [b64c l i k]
def b64put (l : List Int) : Nat → List Int
  | 0 => []
  | g + 1 => b64put l g ++ b64g l (3 * g) 4
def base64_Put.f (l0 : List Int) : Option (ByteArray) := if l0.length ≤ 1000000 ∧ (∀ x ∈ l0, 0 ≤ x ∧ x < 256) then some (strOfNums (b64put l0 ((l0.length + 2) / 3))) else none
theorem b64rd {l : List Int} (h : ∀ x ∈ l, 0 ≤ x ∧ x < 256) (i : Int) : 0 ≤ rd l i ∧ rd l i < 256 := by
  unfold rd
  by_cases hi : i.toNat < l.length
  · rw [List.getD_eq_getElem?_getD, List.getElem?_eq_getElem hi]; exact h _ (List.getElem_mem hi)
  · rw [List.getD_eq_getElem?_getD, List.getElem?_eq_none (by omega)]; decide
theorem b64n_range {l : List Int} (h : ∀ x ∈ l, 0 ≤ x ∧ x < 256) (i k : Nat) : 0 ≤ b64n l i k ∧ b64n l i k < 256 ^ k := by
  induction k with
  | zero => simp [b64n]
  | succ k ih =>
    have := b64rd h ((i + k : Nat) : Int)
    simp only [b64n]; rw [Int.pow_succ]; omega
theorem b64c_range (l : List Int) (i k : Nat) : 0 ≤ b64c l i k ∧ b64c l i k < 256 := by
  unfold b64c; split
  · have := bt_range b64signs (b64n l i 3 / 2 ^ (6 * (3 - k)) % 64); omega
  · decide
theorem b64g_range (l : List Int) (i k : Nat) : ∀ x ∈ b64g l i k, 0 ≤ x ∧ x < 256 := by
  induction k with
  | zero => intro x hx; simp [b64g] at hx
  | succ k ih =>
    intro x hx; simp only [b64g, List.mem_append, List.mem_singleton] at hx
    rcases hx with hx | rfl
    · exact ih x hx
    · exact b64c_range _ _ _
theorem b64put_range (l : List Int) (g : Nat) : ∀ x ∈ b64put l g, 0 ≤ x ∧ x < 256 := by
  induction g with
  | zero => intro x hx; simp [b64put] at hx
  | succ g ih =>
    intro x hx; simp only [b64put, List.mem_append] at hx
    rcases hx with hx | hx
    · exact ih x hx
    · exact b64g_range _ _ _ _ hx
theorem b64g_length (l : List Int) (i k : Nat) : (b64g l i k).length = k := by
  induction k with
  | zero => rfl
  | succ k ih => simp [b64g, ih]
theorem b64put_length (l : List Int) (g : Nat) : (b64put l g).length = 4 * g := by
  induction g with
  | zero => rfl
  | succ g ih => simp only [b64put, List.length_append, ih, b64g_length]; omega
theorem b64cells (L : List Int) (h : ∀ x ∈ L, 0 ≤ x ∧ x < 256) : Lib.byteCells (strOfNums L).data.toList = L.map (Value.int .u8) := by
  rw [strOfNums_data]
  simp only [Lib.byteCells, List.map_map]
  apply List.map_congr_left
  intro c hc
  have := h c hc
  have e : (((UInt8.ofNat c.toNat).toNat : Nat) : Int) = c := by
    rw [UInt8.toNat_ofNat_of_lt' (by show c.toNat < 256; omega)]; omega
  simp only [Function.comp_apply, e]
theorem b64wraps (n : Int) (h₀ : 0 ≤ n) (h₁ : n < 2 ^ 62) : IntKind.i64.wrap n = n := by rw [IntKind.wrap_i64]; omega
theorem b64or (n b : Int) (h0 : 0 ≤ n) (h1 : n < 16777216) (h2 : 0 ≤ b) (h3 : b < 256) : Go.bits .or .i64 (n * 256) b = n * 256 + b :=
  bits_join .i64 62 (by decide) b64wraps 8 _ b (by omega) (by omega) (by omega) h2 (by omega) (by omega)
theorem b64and (n : Int) (h0 : 0 ≤ n) (h1 : n < 16777216) : Go.bits .and .i64 n 63 = n % 64 :=
  bits_mask .i64 62 (by decide) b64wraps 6 (by decide) n h0 (by omega)
set_option maxHeartbeats 8000000 in
set_option maxRecDepth 100000 in
theorem base64_Put.calls (A0 : Option Addr) (c0 : Nat) (l0 : List Int) (r : ByteArray) (w : World) (hr0 : Kd.C (Kd.int .u8) w A0 l0.length l0) (hc0 : l0.length ≤ c0) (h : base64_Put.f l0 = some r) :
    Calls Tryd.prog 6 #[.slice A0 l0.length c0] w fun e w' => e = .returned (.string r) ∧ Below w.heap.size w w' := by
  unfold base64_Put.f at h
  split at h
  · rename_i hc
    obtain rfl := Option.some.inj h
    clear h
    obtain ⟨hn, hx⟩ := hc
    have HR0 := Lib.hid hr0
    have HX := Lib.hid hx
    clear hr0 hx
    go_enter Tryd.func6, Tryd.ntmps6
    go_wp2
    go_loopw [4] (fun v W => ∃ g : Nat, 3 * g ≤ l0.length + 2 ∧ v = .int .i64 ((3 * g : Nat) : Int) ∧ Hid (Lib.IsBuilder 32 5 w.heap.size w.heap.size ((b64put l0 g).map (Value.int .u8)) W) ∧ Hid (Below w.heap.size w W)) (fun v _ => l0.length + 3 - (intOf v).toNat)
    case atStart => exact ⟨0, Nat.zero_le _, rfl, Lib.hid (Lib.fresh_isBuilder 32 5 w), Lib.hid ((Below.refl _ _).alloc (Nat.le_refl _) _)⟩
    case round =>
      obtain ⟨g, hg, rfl, HI, HB⟩ := hrel
      by_cases hlt : 3 * g < l0.length
      · go_wp2
        all_goals (
          go_loop [5, 20] (fun v5 v20 => ∃ k : Nat, k ≤ 3 ∧ v5 = .int .i64 (b64n l0 (3 * g) k) ∧ v20 = .int .i64 k) (fun _ v20 => 3 - (intOf v20).toNat)
          case atStart => exact ⟨0, by decide, rfl, rfl⟩
          case round =>
            obtain ⟨k, hk, rfl, rfl⟩ := hrel
            obtain ⟨hb0, hb1⟩ := b64n_range HX.out (3 * g) k
            have hb2 : b64n l0 (3 * g) k < 16777216 := by
              have : k = 0 ∨ k = 1 ∨ k = 2 ∨ k = 3 := by omega
              rcases this with rfl | rfl | rfl | rfl <;> omega
            by_cases hk3 : k < 3
            · have hrd := b64rd HX.out (3 * (g : Int) + (k : Int))
              have hor := b64or (b64n l0 (3 * g) k) (rd l0 (3 * (g : Int) + (k : Int))) hb0 hb2 hrd.1 hrd.2
              have hwr : wrap64 (rd l0 (3 * (g : Int) + (k : Int))) = rd l0 (3 * (g : Int) + (k : Int)) := by unfold wrap64; omega
              by_cases hin : 3 * g + k < l0.length
              · obtain ⟨ad, ead, hcell⟩ := Kd.at_int (Kd.C_below HR0.out HB.out) ((3 * g + k : Nat) : Int) (by omega) (by omega)
                cases ead
                simp only [Int.toNat_natCast] at hcell
                go_wp2
                refine ⟨⟨k + 1, by omega, ?_, by go_num⟩, by simp [intOf]; omega⟩
                first | (rw [hwr, hor]; simp [b64n]; done) | (rw [hor]; simp [b64n]; done) | (simp [b64n]; done)
              · first
                | (exfalso; omega)
                | (go_wp2
                   refine ⟨⟨k + 1, by omega, ?_, by go_num⟩, by simp [intOf]; omega⟩
                   have : rd l0 ((3 * g + k : Nat) : Int) = 0 := by
                     unfold rd; rw [List.getD_eq_getElem?_getD, List.getElem?_eq_none (by simp; omega)]; rfl
                   simp only [b64n, this, Int.add_zero])
            · obtain rfl : k = 3 := by omega
              go_wp2
              go_loopw [38] (fun v W => ∃ k : Nat, k ≤ 4 ∧ v = .int .i64 k ∧ Hid (Lib.IsBuilder 32 5 w.heap.size w.heap.size ((b64put l0 g ++ b64g l0 (3 * g) k).map (Value.int .u8)) W) ∧ Hid (Below w.heap.size w W)) (fun v _ => 4 - (intOf v).toNat)
              case atStart => exact ⟨0, by decide, rfl, by simpa [b64g] using HI, HB⟩
              case round =>
                clear HI HB
                obtain ⟨q, hq, rfl, HI, HB⟩ := hrel
                have HP := Lib.hid (show ((b64put l0 g ++ b64g l0 (3 * g) q).map (Value.int .u8)).length = 4 * g + q from by rw [List.length_map, List.length_append, b64put_length, b64g_length])
                by_cases hq4 : q < 4
                · by_cases hin : 3 * g + q ≤ l0.length
                  · have hq5 : q = 0 ∨ q = 1 ∨ q = 2 ∨ q = 3 := by omega
                    rcases hq5 with rfl | rfl | rfl | rfl
                    · have hA := b64and (b64n l0 (3 * g) 3 / 262144) (by omega) (by omega)
                      have hx : ∀ h : (b64n l0 (3 * g) 3 / 262144 % 64).toNat < (⟨#[65, 66, 67, 68, 69, 70, 71, 72, 73, 74, 75, 76, 77, 78, 79, 80, 81, 82, 83, 84, 85, 86, 87, 88, 89, 90, 97, 98, 99, 100, 101, 102, 103, 104, 105, 106, 107, 108, 109, 110, 111, 112, 113, 114, 115, 116, 117, 118, 119, 120, 121, 122, 48, 49, 50, 51, 52, 53, 54, 55, 56, 57, 43, 47]⟩ : ByteArray).size, ((((⟨#[65, 66, 67, 68, 69, 70, 71, 72, 73, 74, 75, 76, 77, 78, 79, 80, 81, 82, 83, 84, 85, 86, 87, 88, 89, 90, 97, 98, 99, 100, 101, 102, 103, 104, 105, 106, 107, 108, 109, 110, 111, 112, 113, 114, 115, 116, 117, 118, 119, 120, 121, 122, 48, 49, 50, 51, 52, 53, 54, 55, 56, 57, 43, 47]⟩ : ByteArray)[(b64n l0 (3 * g) 3 / 262144 % 64).toNat]'h).toNat : Nat) : Int) = bt b64signs (b64n l0 (3 * g) 3 / 262144 % 64) := bt_at b64signs _
                      have ec : b64c l0 (3 * g) 0 = bt b64signs (b64n l0 (3 * g) 3 / 262144 % 64) := by unfold b64c; rw [if_pos hin]; simp
                      go_wp2_with (go_at_call 10; go_loud (refine (Tryd.Builder_WriteByte_b w.heap.size w.heap.size _ _ _ HI.out (by rw [HP.out]; omega) (by have := HB.out.size; omega)).mono ?_; rintro e w1 ⟨rfl, hb, hbel⟩))
                      refine ⟨⟨0 + 1, by omega, by go_num, Lib.hid ?_, Lib.hid ?_⟩, by simp [intOf]⟩
                      · have eg : b64g l0 (3 * g) (0 + 1) = b64g l0 (3 * g) 0 ++ [bt b64signs (b64n l0 (3 * g) 3 / 262144 % 64)] := by rw [← ec]; rfl
                        rw [eg, ← List.append_assoc, List.map_append]
                        first | exact .inl hb | exact .inr hb
                      · exact HB.out.trans hbel
                    · have hA := b64and (b64n l0 (3 * g) 3 / 4096) (by omega) (by omega)
                      have hx : ∀ h : (b64n l0 (3 * g) 3 / 4096 % 64).toNat < (⟨#[65, 66, 67, 68, 69, 70, 71, 72, 73, 74, 75, 76, 77, 78, 79, 80, 81, 82, 83, 84, 85, 86, 87, 88, 89, 90, 97, 98, 99, 100, 101, 102, 103, 104, 105, 106, 107, 108, 109, 110, 111, 112, 113, 114, 115, 116, 117, 118, 119, 120, 121, 122, 48, 49, 50, 51, 52, 53, 54, 55, 56, 57, 43, 47]⟩ : ByteArray).size, ((((⟨#[65, 66, 67, 68, 69, 70, 71, 72, 73, 74, 75, 76, 77, 78, 79, 80, 81, 82, 83, 84, 85, 86, 87, 88, 89, 90, 97, 98, 99, 100, 101, 102, 103, 104, 105, 106, 107, 108, 109, 110, 111, 112, 113, 114, 115, 116, 117, 118, 119, 120, 121, 122, 48, 49, 50, 51, 52, 53, 54, 55, 56, 57, 43, 47]⟩ : ByteArray)[(b64n l0 (3 * g) 3 / 4096 % 64).toNat]'h).toNat : Nat) : Int) = bt b64signs (b64n l0 (3 * g) 3 / 4096 % 64) := bt_at b64signs _
                      have ec : b64c l0 (3 * g) 1 = bt b64signs (b64n l0 (3 * g) 3 / 4096 % 64) := by unfold b64c; rw [if_pos hin]; simp
                      go_wp2_with (go_at_call 10; go_loud (refine (Tryd.Builder_WriteByte_b w.heap.size w.heap.size _ _ _ HI.out (by rw [HP.out]; omega) (by have := HB.out.size; omega)).mono ?_; rintro e w1 ⟨rfl, hb, hbel⟩))
                      refine ⟨⟨1 + 1, by omega, by go_num, Lib.hid ?_, Lib.hid ?_⟩, by simp [intOf]⟩
                      · have eg : b64g l0 (3 * g) (1 + 1) = b64g l0 (3 * g) 1 ++ [bt b64signs (b64n l0 (3 * g) 3 / 4096 % 64)] := by rw [← ec]; rfl
                        rw [eg, ← List.append_assoc, List.map_append]
                        first | exact .inl hb | exact .inr hb
                      · exact HB.out.trans hbel
                    · have hA := b64and (b64n l0 (3 * g) 3 / 64) (by omega) (by omega)
                      have hx : ∀ h : (b64n l0 (3 * g) 3 / 64 % 64).toNat < (⟨#[65, 66, 67, 68, 69, 70, 71, 72, 73, 74, 75, 76, 77, 78, 79, 80, 81, 82, 83, 84, 85, 86, 87, 88, 89, 90, 97, 98, 99, 100, 101, 102, 103, 104, 105, 106, 107, 108, 109, 110, 111, 112, 113, 114, 115, 116, 117, 118, 119, 120, 121, 122, 48, 49, 50, 51, 52, 53, 54, 55, 56, 57, 43, 47]⟩ : ByteArray).size, ((((⟨#[65, 66, 67, 68, 69, 70, 71, 72, 73, 74, 75, 76, 77, 78, 79, 80, 81, 82, 83, 84, 85, 86, 87, 88, 89, 90, 97, 98, 99, 100, 101, 102, 103, 104, 105, 106, 107, 108, 109, 110, 111, 112, 113, 114, 115, 116, 117, 118, 119, 120, 121, 122, 48, 49, 50, 51, 52, 53, 54, 55, 56, 57, 43, 47]⟩ : ByteArray)[(b64n l0 (3 * g) 3 / 64 % 64).toNat]'h).toNat : Nat) : Int) = bt b64signs (b64n l0 (3 * g) 3 / 64 % 64) := bt_at b64signs _
                      have ec : b64c l0 (3 * g) 2 = bt b64signs (b64n l0 (3 * g) 3 / 64 % 64) := by unfold b64c; rw [if_pos hin]; simp
                      go_wp2_with (go_at_call 10; go_loud (refine (Tryd.Builder_WriteByte_b w.heap.size w.heap.size _ _ _ HI.out (by rw [HP.out]; omega) (by have := HB.out.size; omega)).mono ?_; rintro e w1 ⟨rfl, hb, hbel⟩))
                      refine ⟨⟨2 + 1, by omega, by go_num, Lib.hid ?_, Lib.hid ?_⟩, by simp [intOf]⟩
                      · have eg : b64g l0 (3 * g) (2 + 1) = b64g l0 (3 * g) 2 ++ [bt b64signs (b64n l0 (3 * g) 3 / 64 % 64)] := by rw [← ec]; rfl
                        rw [eg, ← List.append_assoc, List.map_append]
                        first | exact .inl hb | exact .inr hb
                      · exact HB.out.trans hbel
                    · have hA := b64and (b64n l0 (3 * g) 3) (by omega) (by omega)
                      have hx : ∀ h : (b64n l0 (3 * g) 3 % 64).toNat < (⟨#[65, 66, 67, 68, 69, 70, 71, 72, 73, 74, 75, 76, 77, 78, 79, 80, 81, 82, 83, 84, 85, 86, 87, 88, 89, 90, 97, 98, 99, 100, 101, 102, 103, 104, 105, 106, 107, 108, 109, 110, 111, 112, 113, 114, 115, 116, 117, 118, 119, 120, 121, 122, 48, 49, 50, 51, 52, 53, 54, 55, 56, 57, 43, 47]⟩ : ByteArray).size, ((((⟨#[65, 66, 67, 68, 69, 70, 71, 72, 73, 74, 75, 76, 77, 78, 79, 80, 81, 82, 83, 84, 85, 86, 87, 88, 89, 90, 97, 98, 99, 100, 101, 102, 103, 104, 105, 106, 107, 108, 109, 110, 111, 112, 113, 114, 115, 116, 117, 118, 119, 120, 121, 122, 48, 49, 50, 51, 52, 53, 54, 55, 56, 57, 43, 47]⟩ : ByteArray)[(b64n l0 (3 * g) 3 % 64).toNat]'h).toNat : Nat) : Int) = bt b64signs (b64n l0 (3 * g) 3 % 64) := bt_at b64signs _
                      have ec : b64c l0 (3 * g) 3 = bt b64signs (b64n l0 (3 * g) 3 % 64) := by unfold b64c; rw [if_pos hin]; simp
                      go_wp2_with (go_at_call 10; go_loud (refine (Tryd.Builder_WriteByte_b w.heap.size w.heap.size _ _ _ HI.out (by rw [HP.out]; omega) (by have := HB.out.size; omega)).mono ?_; rintro e w1 ⟨rfl, hb, hbel⟩))
                      refine ⟨⟨3 + 1, by omega, by go_num, Lib.hid ?_, Lib.hid ?_⟩, by simp [intOf]⟩
                      · have eg : b64g l0 (3 * g) (3 + 1) = b64g l0 (3 * g) 3 ++ [bt b64signs (b64n l0 (3 * g) 3 % 64)] := by rw [← ec]; rfl
                        rw [eg, ← List.append_assoc, List.map_append]
                        first | exact .inl hb | exact .inr hb
                      · exact HB.out.trans hbel
                  · first
                    | (exfalso; omega)
                    | (have e61 : b64c l0 (3 * g) q = 61 := by unfold b64c; rw [if_neg hin]
                       go_wp2_with (go_at_call 10; go_loud (refine (Tryd.Builder_WriteByte_b w.heap.size w.heap.size _ _ _ HI.out (by rw [HP.out]; omega) (by have := HB.out.size; omega)).mono ?_; rintro e w1 ⟨rfl, hb, hbel⟩))
                       refine ⟨⟨q + 1, by omega, by go_num, Lib.hid ?_, Lib.hid ?_⟩, by simp [intOf]; omega⟩
                       · simp only [b64g, e61, ← List.append_assoc, List.map_append, List.map_cons, List.map_nil] at hb ⊢
                         first | exact .inl hb | exact .inr hb
                       · exact HB.out.trans hbel)
                · obtain rfl : q = 4 := by omega
                  go_wp2
                  refine ⟨⟨g + 1, by omega, by go_num, HI, HB⟩, by simp [intOf]; omega⟩)
      · obtain rfl : g = (l0.length + 2) / 3 := by omega
        have HI3 := HI.out
        rw [← b64cells _ (b64put_range l0 _)] at HI3
        have HI4 := Lib.hid HI3
        clear HI3
        go_wp2_with (go_at_call 11; go_loud (refine (Tryd.Builder_String_any w.heap.size w.heap.size _ _ HI4.out (by have := HB.out.size; omega)).mono ?_; rintro e w1 ⟨rfl, hbel⟩))
        go_ret
        exact ⟨rfl, HB.out.trans hbel⟩
  · cases h


/-! ### strings_TrimRight: function 12 -/
def strings_TrimRight.f (a0 a1 : ByteArray) : Option (ByteArray) := if a0.size ≤ 9223372036854775807 ∧ a1.size < 4294967281 ∧ (a1.data.toList.all fun b => decide (b.toNat < 128)) = true then some (⟨(Lib.trimRightS a0.data.toList a1.data.toList).toArray⟩ : ByteArray) else none
theorem strings_TrimRight.calls (a0 a1 : ByteArray) (r : ByteArray) (w : World) (h : strings_TrimRight.f a0 a1 = some r) :
    Calls Tryd.prog 12 #[.string a0, .string a1] w fun e w' => e = .returned (.string r) ∧ Below w.heap.size w w' := by
  unfold strings_TrimRight.f at h
  split at h
  · rename_i hc
    obtain rfl := Option.some.inj h
    exact Tryd.strings_TrimRight_laid a0 a1 w hc.1 hc.2.1 (fun j b hb => by have := List.all_eq_true.mp hc.2.2 b (List.mem_of_getElem? hb); simpa using this)
  · cases h

/-! ### strings_IndexByte: function 13 -/
theorem dead_byte {p : Int → Prop} (h : ∀ n : Fin 256, ¬ p (n.val : Int)) {a : Int} (hw : (Lit.int .u8 a).wf = true) : ¬ p a := by
  have e1 : IntKind.u8.min = 0 := by decide
  have e2 : IntKind.u8.max = 255 := by decide
  simp only [Lit.wf, e1, e2, Bool.and_eq_true, decide_eq_true_eq] at hw
  have := h ⟨a.toNat, by omega⟩
  rwa [show ((⟨a.toNat, by omega⟩ : Fin 256).val : Int) = a by simp; omega] at this
def strings_IndexByte.f (a0 : ByteArray) (a1 : Int) : Option (Int) := some (Lib.indexByte a0.data.toList a1.toNat.toUInt8)
theorem strings_IndexByte.calls (a0 : ByteArray) (a1 : Int) (r : Int) (w : World) (h : strings_IndexByte.f a0 a1 = some r) :
    Calls Tryd.prog 13 #[.string a0, .int .u8 a1] w fun e w' => e = .returned (.int .i64 r) ∧ Drawn0 w w' := by
  obtain rfl := Option.some.inj h
  refine (Tryd.strings_IndexByte a0 a1 w).mono ?_
  rintro e w' ⟨rfl, rfl⟩
  exact ⟨rfl, Drawn0.refl _⟩

/-! ### base64_Read: function 7 -/
def base64_Read.l0 : Nat → ByteArray → List Int → Int → Int → List Int → Int → Int → Option (List Int × Bool)
  | 0, _, _, _, _, _, _, _ => none
  | k + 1, x0, x4, x5, x6, x12, x13, x14 => if x14 < x13 then (if 0 ≤ x14 then (if x14 < (x12.length : Int) then ((strings_IndexByte.f (⟨#[65, 66, 67, 68, 69, 70, 71, 72, 73, 74, 75, 76, 77, 78, 79, 80, 81, 82, 83, 84, 85, 86, 87, 88, 89, 90, 97, 98, 99, 100, 101, 102, 103, 104, 105, 106, 107, 108, 109, 110, 111, 112, 113, 114, 115, 116, 117, 118, 119, 120, 121, 122, 48, 49, 50, 51, 52, 53, 54, 55, 56, 57, 43, 47]⟩ : ByteArray) (rd x12 x14)).bind fun t107 => (if t107 < 0 then (some (([] : List Int), false)) else (if (wrap64 (x6 + 6)) ≥ 8 then (if 0 ≤ (wrap64 ((wrap64 (x6 + 6)) - 8)) then (if x4.length < 140737488355328 then (base64_Read.l0 k x0 (x4 ++ [(shr .i64 (Go.bits .or .i64 (wrap64 (x5 * 64)) t107) (wrap64 ((wrap64 (x6 + 6)) - 8))) % 256]) (Go.bits .and .i64 (Go.bits .or .i64 (wrap64 (x5 * 64)) t107) (wrap64 ((shl .i64 1 (wrap64 ((wrap64 (x6 + 6)) - 8))) - 1))) (wrap64 ((wrap64 (x6 + 6)) - 8)) x12 x13 (wrap64 (x14 + 1))) else (none)) else (none)) else (base64_Read.l0 k x0 x4 (Go.bits .or .i64 (wrap64 (x5 * 64)) t107) (wrap64 (x6 + 6)) x12 x13 (wrap64 (x14 + 1)))))) else (none)) else (none)) else ((base64_Put.f x4).bind fun t105 => (if t105.toList = x0.toList then (some (x4, true)) else (some (([] : List Int), false))))
def base64_Read.f (k : Nat) (a0 : ByteArray) : Option (List Int × Bool) := (strings_TrimRight.f a0 (⟨#[61]⟩ : ByteArray)).bind fun t101 => (if t101.size ≤ 9223372036854775807 then ((some (bytesOf t101 : List Int)).bind fun y102 => (base64_Read.l0 k a0 ([] : List Int) 0 0 y102 (y102.length : Int) 0)) else (none))
theorem base64_Read.mono_l : ∀ k, (∀ y0 y1 y2 y3 y4 y5 y6, LeO (base64_Read.l0 k y0 y1 y2 y3 y4 y5 y6) (base64_Read.l0 (k + 1) y0 y1 y2 y3 y4 y5 y6))
  | 0 => fun _ _ _ _ _ _ _ r h => by simp [base64_Read.l0] at h
  | k + 1 => by
    have ih0 := base64_Read.mono_l k
    · intro y0 y1 y2 y3 y4 y5 y6
      unfold base64_Read.l0
      repeat' first
      | (with_reducible exact ih0 _ _ _ _ _ _ _)
      | (with_reducible exact LeO.refl _)
      | (with_reducible exact LeO.none _)
      | (with_reducible refine LeO.ite ?_ ?_)
      | (with_reducible refine LeO.bind ?_ (fun _ => ?_))
      | exact ih0 _ _ _ _ _ _ _
      | exact LeO.none _
      | refine LeO.ite ?_ ?_
      | refine LeO.bind ?_ (fun _ => ?_)
theorem base64_Read.mono : ∀ a0 k, LeO (base64_Read.f k a0) (base64_Read.f (k + 1) a0) := by
  intro a0 k
  have ih0 := base64_Read.mono_l k
  unfold base64_Read.f
  repeat' first
      | (with_reducible exact ih0 _ _ _ _ _ _ _)
      | (with_reducible exact LeO.refl _)
      | (with_reducible exact LeO.none _)
      | (with_reducible refine LeO.ite ?_ ?_)
      | (with_reducible refine LeO.bind ?_ (fun _ => ?_))
      | exact ih0 _ _ _ _ _ _ _
      | exact LeO.none _
      | refine LeO.ite ?_ ?_
      | refine LeO.bind ?_ (fun _ => ?_)
set_option maxHeartbeats 8000000 in
set_option maxRecDepth 100000 in
theorem base64_Read.calls (k : Nat) (a0 : ByteArray) (r1 : List Int) (r2 : Bool) (w : World) (h : base64_Read.f k a0 = some (r1, r2)) :
    Calls Tryd.prog 7 #[.string a0] w fun e w' => ∃ v0_ : Value, e = .returned (.tuple #[v0_, .bool r2]) ∧ Kd.R (Kd.int .u8) 5 w' w.heap.size (fun _ => True) v0_ r1 ∧ Below w.heap.size w w' := by
  have HB := Aside0.mk (Below.refl w.heap.size w)
  have H : ((strings_TrimRight.f a0 (⟨#[61]⟩ : ByteArray)).bind fun t101 => (if t101.size ≤ 9223372036854775807 then ((some (bytesOf t101 : List Int)).bind fun y102 => (base64_Read.l0 k a0 ([] : List Int) 0 0 y102 (y102.length : Int) 0)) else (none))) = some (r1, r2) := h
  clear h
  replace H := Option.bind_eq_some_iff.mp H
  obtain ⟨t101, A20, H⟩ := H
  replace H : (if t101.size ≤ 9223372036854775807 then ((some (bytesOf t101 : List Int)).bind fun y102 => (base64_Read.l0 k a0 ([] : List Int) 0 0 y102 (y102.length : Int) 0)) else (none)) = some (r1, r2) := H
  have A2 := Aside0.mk A20
  clear A20
  by_cases c3 : t101.size ≤ 9223372036854775807
  · rw [if_pos c3] at H
    have c3b0 := eq_true c3
    have c3b1 : decide (t101.size ≤ 9223372036854775807) = true := decide_eq_true c3
    try have c3b2 : (9223372036854775807 < t101.size) = False := eq_false (Nat.not_lt.2 c3)
    clear c3
    obtain ⟨y102, hy102⟩ : ∃ y_ : List Int, y_ = (bytesOf t101) := ⟨_, rfl⟩
    replace H : (base64_Read.l0 k a0 ([] : List Int) 0 0 y102 (y102.length : Int) 0) = some (r1, r2) := by first | (rw [hy102]; with_reducible exact H) | (have H2_ := (Option.bind_some _ _).symm.trans H; rw [hy102]; with_reducible exact H2_) | (have H2_ := (Option.bind_some _ _).symm.trans H; with_reducible exact H2_) | with_reducible exact H | (rw [hy102]; exact H) | exact H
    have Ny102 := Aside0.mk hy102
    clear hy102
    have H' := Aside0.mk H
    clear H
    go_enter Tryd.func7, Tryd.ntmps7
    go_wp2_with (first | ((with_reducible refine gate_callee (f := 12) rfl ?_); refine goesL_ (some 11) rfl rfl Tryd.func12 (by kernel_rfl) rfl #[.string a0, .string (⟨#[61]⟩ : ByteArray)] rfl (by (try simp only [List.map_toArray, List.map_cons, List.map_nil]); first | done | rfl | (simp only [List.length_drop, List.length_take]; rfl)) ?_; (with_reducible refine (strings_TrimRight.calls a0 (⟨#[61]⟩ : ByteArray) t101 _ A2.out).mono ?_); rintro e w4 ⟨rfl, hb⟩; refine ⟨_, rfl, ?_⟩; have n0_ := Aside0.mk (below_step (by repeat (first | (with_reducible first | exact HB.out | apply below_alloc | apply pw_below_drewN | apply below_drew1) | exact HB.out)) hb); clear HB; have HB := n0_; clear n0_; (try clear hb); (try clear hb2); (try clear hk); (try clear hi)) | ((with_reducible refine gate_dst (N := 12) rfl ?_); refine Mark.V_bytes _ 5 rfl (N := 12) rfl 9 22 _ rfl t101 rfl Tryd.underlying9 Tryd.underlying22 Tryd.underlying5 (of_decide_eq_true (by first | (with_reducible assumption) | assumption)) (Below.refl _ _) (Nat.le_refl _) ?_; intro v103 w5 ho6 hb hg_ hnew_; clear hg_ hnew_; (first | rw [← Ny102.out] at ho6 | (simp only [Int.reduceToNat] at ho6; rw [← Ny102.out] at ho6)); have n0_ := Aside0.mk (Kd.V_lower (Kd.V_mono (ok' := fun k_ => True) ho6 (fun k_ hk_ => trivial)) (below_size (by repeat (first | (with_reducible first | exact HB.out | apply below_alloc | apply pw_below_drewN | apply below_drew1) | exact HB.out)))); have n1_ := Aside0.mk (below_step (by repeat (first | (with_reducible first | exact HB.out | apply below_alloc | apply pw_below_drewN | apply below_drew1) | exact HB.out)) hb); clear HB; have HO104 := n0_; have HB := n1_; clear n0_ n1_; clear hb ho6; obtain ⟨Ao7, co7, eo7⟩ := Kd.V_slice HO104.out; subst eo7))
    go_loopg [4, 5, 6, 14] k (fun kq v4 v5 v6 v14 w' => ∃ (x4_1 : List Int) (x5_1 : Int) (x6_1 : Int) (x14_1 : Int), v5 = .int .i64 x5_1 ∧ v6 = .int .i64 x6_1 ∧ v14 = .int .i64 x14_1 ∧ Aside0 (base64_Read.l0 kq a0 x4_1 x5_1 x6_1 y102 (y102.length : Int) x14_1 = some (r1, r2)) ∧ Aside0 (kq ≤ k) ∧ Aside0 (Kd.R (Kd.int .u8) 5 w' w.heap.size (fun _ => True) v4 x4_1) ∧ Aside0 (Kd.V (Kd.int .u8) 5 w' w.heap.size (fun k_ => some k_ ≠ (v4 : Value).ownBlock) (.slice Ao7 y102.length co7) y102) ∧ Aside0 (Below w.heap.size w w'))
    case atStart => exact ⟨(([] : List Int)), (0), (0), (0), (by first | rfl | (simp; done) | (simp [*]; done)), (by first | rfl | (simp; done) | (simp [*]; done)), (by first | rfl | (simp; done) | (simp [*]; done)), H', ⟨Nat.le_refl _⟩, ⟨by first | exact Kd.R_nil _ _ _ _ _ | exact Kd.N_nil _ _ _ _ _ | exact Kd.V_nil _ _ _ _ _ | exact Kd.Q_nil _ _ _ _ _ | exact Kd.S_nil _ _ _ _ _⟩, ⟨by (with_reducible repeat (first | apply Kd.V_alloc | apply Kd.V_drewN | apply Kd.V_drew)); exact Kd.V_mono HO104.out (fun _ hk => (by simp [Value.ownBlock]))⟩, ⟨by repeat (first | (with_reducible first | exact HB.out | apply below_alloc | apply pw_below_drewN | apply below_drew1) | exact HB.out)⟩⟩
    case round =>
      clear H'
      try clear c1
      try clear p2
      try clear c3
      try clear c3b0
      try clear c3b1
      try clear c3b2
      try clear c7
      obtain ⟨x4_1, x5_1, x6_1, x14_1, rfl, rfl, rfl, HA, HK1, HO_4, HO_12, HB⟩ := hrel
      cases gk with
      | zero => exact absurd HA.out (by simp [base64_Read.l0])
      | succ k1 =>
        have H := HA.out
        clear HA
        simp only [base64_Read.l0] at H
        by_cases c8 : x14_1 < (y102.length : Int)
        · rw [if_pos c8] at H
          have c8b0 : decide (x14_1 < (y102.length : Int)) = true := decide_eq_true c8
          clear c8
          by_cases c9 : 0 ≤ x14_1
          · rw [if_pos c9] at H
            have c9b0 : decide (0 ≤ x14_1) = true := decide_eq_true c9
            clear c9
            by_cases c10 : x14_1 < (y102.length : Int)
            · rw [if_pos c10] at H
              have c10b0 : decide (x14_1 < (y102.length : Int)) = true := decide_eq_true c10
              clear c10
              replace H := Option.bind_eq_some_iff.mp H
              obtain ⟨t107, A110, H⟩ := H
              replace H : (if t107 < 0 then (some (([] : List Int), false)) else (if (wrap64 (x6_1 + 6)) ≥ 8 then (if 0 ≤ (wrap64 ((wrap64 (x6_1 + 6)) - 8)) then (if x4_1.length < 140737488355328 then (base64_Read.l0 k1 a0 (x4_1 ++ [(shr .i64 (Go.bits .or .i64 (wrap64 (x5_1 * 64)) t107) (wrap64 ((wrap64 (x6_1 + 6)) - 8))) % 256]) (Go.bits .and .i64 (Go.bits .or .i64 (wrap64 (x5_1 * 64)) t107) (wrap64 ((shl .i64 1 (wrap64 ((wrap64 (x6_1 + 6)) - 8))) - 1))) (wrap64 ((wrap64 (x6_1 + 6)) - 8)) y102 (y102.length : Int) (wrap64 (x14_1 + 1))) else (none)) else (none)) else (base64_Read.l0 k1 a0 x4_1 (Go.bits .or .i64 (wrap64 (x5_1 * 64)) t107) (wrap64 (x6_1 + 6)) y102 (y102.length : Int) (wrap64 (x14_1 + 1))))) = some (r1, r2) := H
              have A11 := Aside0.mk A110
              clear A110
              by_cases c12 : t107 < 0
              · rw [if_pos c12] at H
                have c12b0 : decide (t107 < 0) = true := decide_eq_true c12
                clear c12
                simp only [Option.some.injEq, Prod.mk.injEq] at H
                obtain ⟨rfl, rfl⟩ := H
                have p106 : 0 ≤ (x14_1 : Int) := of_decide_eq_true (by first | (with_reducible assumption) | assumption)
                have q106 : x14_1 < (y102.length : Int) := of_decide_eq_true (by first | (with_reducible assumption) | assumption)
                obtain ⟨ad106, e106, hx106_0⟩ := Kd.at_int (Kd.V_reads' HO_12.out).2.2 x14_1 p106 q106
                cases e106
                replace p106 := eq_true p106
                replace q106 := eq_true q106
                go_wp2_with (first | ((with_reducible refine gate_callee (f := 13) rfl ?_); refine goesL_ (some 19) rfl rfl Tryd.func13 (by kernel_rfl) rfl #[.string (⟨#[65, 66, 67, 68, 69, 70, 71, 72, 73, 74, 75, 76, 77, 78, 79, 80, 81, 82, 83, 84, 85, 86, 87, 88, 89, 90, 97, 98, 99, 100, 101, 102, 103, 104, 105, 106, 107, 108, 109, 110, 111, 112, 113, 114, 115, 116, 117, 118, 119, 120, 121, 122, 48, 49, 50, 51, 52, 53, 54, 55, 56, 57, 43, 47]⟩ : ByteArray), .int .u8 (rd y102 x14_1)] rfl (by (try simp only [List.map_toArray, List.map_cons, List.map_nil]); first | done | rfl | (simp only [List.length_drop, List.length_take]; rfl)) ?_; (with_reducible refine (strings_IndexByte.calls (⟨#[65, 66, 67, 68, 69, 70, 71, 72, 73, 74, 75, 76, 77, 78, 79, 80, 81, 82, 83, 84, 85, 86, 87, 88, 89, 90, 97, 98, 99, 100, 101, 102, 103, 104, 105, 106, 107, 108, 109, 110, 111, 112, 113, 114, 115, 116, 117, 118, 119, 120, 121, 122, 48, 49, 50, 51, 52, 53, 54, 55, 56, 57, 43, 47]⟩ : ByteArray) (rd y102 x14_1) t107 _ A11.out).mono ?_); rintro e w' ⟨rfl, ⟨nd, rfl⟩⟩; refine ⟨_, rfl, ?_⟩))
                go_ret2
                exact ⟨_, by first | rfl | (simp [errW_none, errW_some] <;> rfl) | (simp [*, errW_none, errW_some] <;> rfl), by first | exact Kd.R_nil _ _ _ _ _ | exact Kd.N_nil _ _ _ _ _ | exact Kd.V_nil _ _ _ _ _ | exact Kd.Q_nil _ _ _ _ _ | exact Kd.S_nil _ _ _ _ _, by repeat (first | (with_reducible first | exact HB.out | apply below_alloc | apply pw_below_drewN | apply below_drew1) | exact HB.out)⟩
              · rw [if_neg c12] at H
                have c12b0 : decide (t107 < 0) = false := decide_eq_false c12
                clear c12
                by_cases c13 : (wrap64 (x6_1 + 6)) ≥ 8
                · rw [if_pos c13] at H
                  have c13b0 : decide (8 ≤ (wrap64 (x6_1 + 6))) = true := decide_eq_true c13
                  clear c13
                  obtain ⟨ji14, hji14⟩ : ∃ j_ : Int, (wrap64 ((wrap64 (x6_1 + 6)) - 8)) = j_ := ⟨_, rfl⟩
                  replace H : (if 0 ≤ (ji14) then (if x4_1.length < 140737488355328 then (base64_Read.l0 k1 a0 (x4_1 ++ [(shr .i64 (Go.bits .or .i64 (wrap64 (x5_1 * 64)) t107) (ji14)) % 256]) (Go.bits .and .i64 (Go.bits .or .i64 (wrap64 (x5_1 * 64)) t107) (wrap64 ((shl .i64 1 (ji14)) - 1))) ji14 y102 (y102.length : Int) (wrap64 (x14_1 + 1))) else (none)) else (none)) = some (r1, r2) := by first | (rw [hji14] at H; exact H) | (simp only [hji14] at H ⊢; exact H)
                  (try rw [hji14] at A11)
                  have hji14w : (IntKind.i64.wrap ((wrap64 (x6_1 + 6)) - 8)) = ji14 := (i64_w _).trans hji14
                  by_cases c15 : 0 ≤ (ji14)
                  · rw [if_pos c15] at H
                    have c15b0 := eq_true c15
                    have c15b1 : decide (0 ≤ (ji14)) = true := decide_eq_true c15
                    clear c15
                    obtain ⟨ji16, hji16⟩ : ∃ j_ : Int, (shr .i64 (Go.bits .or .i64 (wrap64 (x5_1 * 64)) t107) (ji14)) = j_ := ⟨_, rfl⟩
                    replace H : (if x4_1.length < 140737488355328 then (base64_Read.l0 k1 a0 (x4_1 ++ [(ji16) % 256]) (Go.bits .and .i64 (Go.bits .or .i64 (wrap64 (x5_1 * 64)) t107) (wrap64 ((shl .i64 1 (ji14)) - 1))) ji14 y102 (y102.length : Int) (wrap64 (x14_1 + 1))) else (none)) = some (r1, r2) := by first | (rw [hji16] at H; exact H) | (simp only [hji16] at H ⊢; exact H)
                    (try rw [hji16] at A11)
                    have hji16_ : ((Go.bits .or .i64 (wrap64 (x5_1 * 64)) t107) / 2 ^ min (ji14).toNat 64) = ji16 := hji16
                    have hji16z : (ji14) ≤ 64 → ((Go.bits .or .i64 (wrap64 (x5_1 * 64)) t107) / 2 ^ (ji14).toNat) = ji16 := shr_small hji16
                    by_cases c17 : x4_1.length < 140737488355328
                    · rw [if_pos c17] at H
                      have LMc17 := Aside0.mk c17
                      clear c17
                      obtain ⟨y108, hy108⟩ : ∃ y_ : List Int, y_ = (x4_1 ++ [(ji16) % 256]) := ⟨_, rfl⟩
                      replace H : (base64_Read.l0 k1 a0 y108 (Go.bits .and .i64 (Go.bits .or .i64 (wrap64 (x5_1 * 64)) t107) (wrap64 ((shl .i64 1 (ji14)) - 1))) ji14 y102 (y102.length : Int) (wrap64 (x14_1 + 1))) = some (r1, r2) := by first | (rw [hy108]; with_reducible exact H) | (have H2_ := (Option.bind_some _ _).symm.trans H; rw [hy108]; with_reducible exact H2_) | (have H2_ := (Option.bind_some _ _).symm.trans H; with_reducible exact H2_) | with_reducible exact H | (rw [hy108]; exact H) | exact H
                      have Ny108 := Aside0.mk hy108
                      clear hy108
                      have c18b0 := eq_true (of_decide_eq_true (by first | (with_reducible assumption) | assumption) : 0 ≤ (ji14))
                      obtain ⟨ji19, hji19⟩ : ∃ j_ : Int, (shl .i64 1 (ji14)) = j_ := ⟨_, rfl⟩
                      replace H : (base64_Read.l0 k1 a0 y108 (Go.bits .and .i64 (Go.bits .or .i64 (wrap64 (x5_1 * 64)) t107) (wrap64 ((ji19) - 1))) ji14 y102 (y102.length : Int) (wrap64 (x14_1 + 1))) = some (r1, r2) := by first | (rw [hji19] at H; exact H) | (simp only [hji19] at H ⊢; exact H)
                      (try rw [hji19] at A11)
                      have hji19_ : (IntKind.i64.wrap (1 * 2 ^ min (ji14).toNat 64)) = ji19 := hji19
                      have hji19z : (ji14) ≤ 64 → (IntKind.i64.wrap (1 * 2 ^ (ji14).toNat)) = ji19 := shl_small hji19
                      have hji19u : (IntKind.i64.wrap (2 ^ min (ji14).toNat 64)) = ji19 := by have h_ := hji19_; rw [Int.one_mul] at h_; exact h_
                      have hji19v : (ji14) ≤ 64 → (IntKind.i64.wrap (2 ^ (ji14).toNat)) = ji19 := fun hle_ => by have h_ := hji19z hle_; rw [Int.one_mul] at h_; exact h_
                      have hji19y : (wrap64 (1 * 2 ^ min (ji14).toNat 64)) = ji19 := (i64_w _).symm.trans hji19_
                      have hji19x : (ji14) ≤ 64 → (wrap64 (1 * 2 ^ (ji14).toNat)) = ji19 := fun h_ => (i64_w _).symm.trans (hji19z h_)
                      have H' := Aside0.mk H
                      clear H
                      have p106 : 0 ≤ (x14_1 : Int) := of_decide_eq_true (by first | (with_reducible assumption) | assumption)
                      have q106 : x14_1 < (y102.length : Int) := of_decide_eq_true (by first | (with_reducible assumption) | assumption)
                      obtain ⟨ad106, e106, hx106_0⟩ := Kd.at_int (Kd.V_reads' HO_12.out).2.2 x14_1 p106 q106
                      cases e106
                      replace p106 := eq_true p106
                      replace q106 := eq_true q106
                      go_wp2_with (first | ((with_reducible refine gate_callee (f := 13) rfl ?_); refine goesL_ (some 19) rfl rfl Tryd.func13 (by kernel_rfl) rfl #[.string (⟨#[65, 66, 67, 68, 69, 70, 71, 72, 73, 74, 75, 76, 77, 78, 79, 80, 81, 82, 83, 84, 85, 86, 87, 88, 89, 90, 97, 98, 99, 100, 101, 102, 103, 104, 105, 106, 107, 108, 109, 110, 111, 112, 113, 114, 115, 116, 117, 118, 119, 120, 121, 122, 48, 49, 50, 51, 52, 53, 54, 55, 56, 57, 43, 47]⟩ : ByteArray), .int .u8 (rd y102 x14_1)] rfl (by (try simp only [List.map_toArray, List.map_cons, List.map_nil]); first | done | rfl | (simp only [List.length_drop, List.length_take]; rfl)) ?_; (with_reducible refine (strings_IndexByte.calls (⟨#[65, 66, 67, 68, 69, 70, 71, 72, 73, 74, 75, 76, 77, 78, 79, 80, 81, 82, 83, 84, 85, 86, 87, 88, 89, 90, 97, 98, 99, 100, 101, 102, 103, 104, 105, 106, 107, 108, 109, 110, 111, 112, 113, 114, 115, 116, 117, 118, 119, 120, 121, 122, 48, 49, 50, 51, 52, 53, 54, 55, 56, 57, 43, 47]⟩ : ByteArray) (rd y102 x14_1) t107 _ A11.out).mono ?_); rintro e w' ⟨rfl, ⟨nd, rfl⟩⟩; refine ⟨_, rfl, ?_⟩) | ((with_reducible refine gate_builtin (b := .append) (xs := #[.tmp 32, .tmp 37]) rfl ?_); at_builtin; refine Kd.R_append (Kd.int .u8) (w0 := w) w.heap.size rfl (.tmp 32) (.tmp 37) 22 5 (.int .u8 0) 1 rfl Tryd.underlying22 info5 rfl (by decide) (by omega) u4 x4_1 ((ji16) % 256) [.int .u8 ((ji16) % 256)] (fun _ => True) (fun _ => False) rfl rfl ?aP (fun _ hk => hk.elim) ?aF ?aO ?aB ?aS ?aL ?_; (case aP => exact rfl); (case aB => exact (by repeat (first | (with_reducible first | exact HB.out | apply below_alloc | apply pw_below_drewN | apply below_drew1) | exact HB.out))); (case aF => exact (fun _ _ => trivial)); (case aO => exact (by (with_reducible repeat (first | apply Kd.R_alloc | apply Kd.R_drewN | apply Kd.R_drew)); exact HO_4.out)); (case aS => exact (below_size (by repeat (first | (with_reducible first | exact HB.out | apply below_alloc | apply pw_below_drewN | apply below_drew1) | exact HB.out)))); (case aL => have := LMc17.out; omega); intro v109 w20 ho hb hg hat; rw [← Ny108.out] at ho; have n0_ := Aside0.mk (Kd.V_afterv (ok := (fun _ => True)) (by (with_reducible repeat (first | apply Kd.V_alloc | apply Kd.V_drewN | apply Kd.V_drew)); exact Kd.V_mono HO_12.out (fun _ hk => ⟨trivial, hk⟩)) hg hat); have n1_ := Aside0.mk (hb); have n2_ := Aside0.mk (ho); clear HO_12; clear HB; clear HO_4; have HO_12 := n0_; have HB := n1_; have HO110 := n2_; clear n0_ n1_ n2_; clear ho hb hg hat))
                      go_roundg k1
                      case measure => have := HK1.out; omega
                      case rel => exact ⟨(y108), (Go.bits .and .i64 (Go.bits .or .i64 (wrap64 (x5_1 * 64)) t107) (wrap64 ((ji19) - 1))), (ji14), (wrap64 (x14_1 + 1)), (by first | rfl | (simp; done) | (simp only [← hji19] <;> (first | rfl | simp)) | (simp [*]; done)), (by first | rfl | (simp; done) | (simp only [← hji14] <;> (first | rfl | simp)) | (simp [*]; done)), (by first | rfl | (simp; done) | (simp [*]; done)), H', ⟨by have := HK1.out; omega⟩, ⟨by (with_reducible repeat (first | apply Kd.R_alloc | apply Kd.R_drewN | apply Kd.R_drew)); exact HO110.out⟩, ⟨by (with_reducible repeat (first | apply Kd.V_alloc | apply Kd.V_drewN | apply Kd.V_drew)); exact Kd.V_mono HO_12.out (fun _ hk => (by first | exact hk.2 | exact True.intro))⟩, ⟨by repeat (first | (with_reducible first | exact HB.out | apply below_alloc | apply pw_below_drewN | apply below_drew1) | exact HB.out)⟩⟩
                    · rw [if_neg c17] at H
                      exact absurd H (by simp)
                  · rw [if_neg c15] at H
                    exact absurd H (by simp)
                · rw [if_neg c13] at H
                  have c13b0 : decide (8 ≤ (wrap64 (x6_1 + 6))) = false := decide_eq_false c13
                  clear c13
                  have H' := Aside0.mk H
                  clear H
                  have p106 : 0 ≤ (x14_1 : Int) := of_decide_eq_true (by first | (with_reducible assumption) | assumption)
                  have q106 : x14_1 < (y102.length : Int) := of_decide_eq_true (by first | (with_reducible assumption) | assumption)
                  obtain ⟨ad106, e106, hx106_0⟩ := Kd.at_int (Kd.V_reads' HO_12.out).2.2 x14_1 p106 q106
                  cases e106
                  replace p106 := eq_true p106
                  replace q106 := eq_true q106
                  go_wp2_with (first | ((with_reducible refine gate_callee (f := 13) rfl ?_); refine goesL_ (some 19) rfl rfl Tryd.func13 (by kernel_rfl) rfl #[.string (⟨#[65, 66, 67, 68, 69, 70, 71, 72, 73, 74, 75, 76, 77, 78, 79, 80, 81, 82, 83, 84, 85, 86, 87, 88, 89, 90, 97, 98, 99, 100, 101, 102, 103, 104, 105, 106, 107, 108, 109, 110, 111, 112, 113, 114, 115, 116, 117, 118, 119, 120, 121, 122, 48, 49, 50, 51, 52, 53, 54, 55, 56, 57, 43, 47]⟩ : ByteArray), .int .u8 (rd y102 x14_1)] rfl (by (try simp only [List.map_toArray, List.map_cons, List.map_nil]); first | done | rfl | (simp only [List.length_drop, List.length_take]; rfl)) ?_; (with_reducible refine (strings_IndexByte.calls (⟨#[65, 66, 67, 68, 69, 70, 71, 72, 73, 74, 75, 76, 77, 78, 79, 80, 81, 82, 83, 84, 85, 86, 87, 88, 89, 90, 97, 98, 99, 100, 101, 102, 103, 104, 105, 106, 107, 108, 109, 110, 111, 112, 113, 114, 115, 116, 117, 118, 119, 120, 121, 122, 48, 49, 50, 51, 52, 53, 54, 55, 56, 57, 43, 47]⟩ : ByteArray) (rd y102 x14_1) t107 _ A11.out).mono ?_); rintro e w' ⟨rfl, ⟨nd, rfl⟩⟩; refine ⟨_, rfl, ?_⟩))
                  go_roundg k1
                  case measure => have := HK1.out; omega
                  case rel => exact ⟨(x4_1), (Go.bits .or .i64 (wrap64 (x5_1 * 64)) t107), (wrap64 (x6_1 + 6)), (wrap64 (x14_1 + 1)), (by first | rfl | (simp; done) | (simp [*]; done)), (by first | rfl | (simp; done) | (simp [*]; done)), (by first | rfl | (simp; done) | (simp [*]; done)), H', ⟨by have := HK1.out; omega⟩, ⟨by (with_reducible repeat (first | apply Kd.R_alloc | apply Kd.R_drewN | apply Kd.R_drew)); exact HO_4.out⟩, ⟨by (with_reducible repeat (first | apply Kd.V_alloc | apply Kd.V_drewN | apply Kd.V_drew)); exact HO_12.out⟩, ⟨by repeat (first | (with_reducible first | exact HB.out | apply below_alloc | apply pw_below_drewN | apply below_drew1) | exact HB.out)⟩⟩
            · rw [if_neg c10] at H
              exact absurd H (by simp)
          · rw [if_neg c9] at H
            exact absurd H (by simp)
        · rw [if_neg c8] at H
          have c8b0 : decide (x14_1 < (y102.length : Int)) = false := decide_eq_false c8
          clear c8
          replace H := Option.bind_eq_some_iff.mp H
          obtain ⟨t105, A210, H⟩ := H
          replace H : (if t105.toList = a0.toList then (some (x4_1, true)) else (some (([] : List Int), false))) = some (r1, r2) := H
          have A21 := Aside0.mk A210
          clear A210
          by_cases c22 : t105.toList = a0.toList
          · rw [if_pos c22] at H
            have c22b0 : (t105.toList == a0.toList) = true := beq_iff_eq.mpr c22
            have c22b1 : (t105.toList != a0.toList) = false := bne_eq_false_iff_eq.mpr c22
            clear c22
            simp only [Option.some.injEq, Prod.mk.injEq] at H
            obtain ⟨rfl, rfl⟩ := H
            obtain ⟨Ao23, co23, eo23⟩ := Kd.R_slice HO_4.out
            subst eo23
            go_wp2_with (first | ((with_reducible refine gate_callee (f := 6) rfl ?_); refine goesL_ (some 46) rfl rfl Tryd.func6 (by kernel_rfl) rfl #[.slice Ao23 x4_1.length co23] rfl (by (try simp only [List.map_toArray, List.map_cons, List.map_nil]); first | done | rfl | (simp only [List.length_drop, List.length_take]; rfl)) ?_; (with_reducible refine (base64_Put.calls _ _ x4_1 t105 _ ?side1 ?side2 A21.out).mono ?_); (case side1 => repeat (first | exact (Kd.R_reads' HO_4.out).2.2 | (with_reducible refine Kd.C_alloc ?_ _) | (with_reducible refine Kd.C_drewN ?_ _) | (with_reducible refine Kd.C_drew ?_))); (case side2 => exact (Kd.R_reads' HO_4.out).2.1); rintro e w24 ⟨rfl, hb⟩; refine ⟨_, rfl, ?_⟩; have n0_ := Aside0.mk (Kd.R_below (by (with_reducible repeat (first | apply Kd.R_alloc | apply Kd.R_drewN | apply Kd.R_drew)); exact HO_4.out) hb); have n1_ := Aside0.mk (Kd.V_below (by (with_reducible repeat (first | apply Kd.V_alloc | apply Kd.V_drewN | apply Kd.V_drew)); exact HO_12.out) hb); have n2_ := Aside0.mk (below_step (by repeat (first | (with_reducible first | exact HB.out | apply below_alloc | apply pw_below_drewN | apply below_drew1) | exact HB.out)) hb); clear HO_4; clear HO_12; clear HB; have HO_4 := n0_; have HO_12 := n1_; have HB := n2_; clear n0_ n1_ n2_; (try clear hb); (try clear hb2); (try clear hk); (try clear hi)))
            go_ret2
            exact ⟨_, by first | rfl | (simp [errW_none, errW_some] <;> rfl) | (simp [*, errW_none, errW_some] <;> rfl), by (with_reducible repeat (first | apply Kd.R_alloc | apply Kd.R_drewN | apply Kd.R_drew)); exact HO_4.out, by repeat (first | (with_reducible first | exact HB.out | apply below_alloc | apply pw_below_drewN | apply below_drew1) | exact HB.out)⟩
          · rw [if_neg c22] at H
            have c22b0 : (t105.toList == a0.toList) = false := beq_eq_false_iff_ne.mpr c22
            have c22b1 : (t105.toList != a0.toList) = true := bne_iff_ne.mpr c22
            simp only [Option.some.injEq, Prod.mk.injEq] at H
            obtain ⟨rfl, rfl⟩ := H
            obtain ⟨Ao25, co25, eo25⟩ := Kd.R_slice HO_4.out
            subst eo25
            go_wp2_with (first | ((with_reducible refine gate_callee (f := 6) rfl ?_); refine goesL_ (some 46) rfl rfl Tryd.func6 (by kernel_rfl) rfl #[.slice Ao25 x4_1.length co25] rfl (by (try simp only [List.map_toArray, List.map_cons, List.map_nil]); first | done | rfl | (simp only [List.length_drop, List.length_take]; rfl)) ?_; (with_reducible refine (base64_Put.calls _ _ x4_1 t105 _ ?side1 ?side2 A21.out).mono ?_); (case side1 => repeat (first | exact (Kd.R_reads' HO_4.out).2.2 | (with_reducible refine Kd.C_alloc ?_ _) | (with_reducible refine Kd.C_drewN ?_ _) | (with_reducible refine Kd.C_drew ?_))); (case side2 => exact (Kd.R_reads' HO_4.out).2.1); rintro e w26 ⟨rfl, hb⟩; refine ⟨_, rfl, ?_⟩; have n0_ := Aside0.mk (Kd.R_below (by (with_reducible repeat (first | apply Kd.R_alloc | apply Kd.R_drewN | apply Kd.R_drew)); exact HO_4.out) hb); have n1_ := Aside0.mk (Kd.V_below (by (with_reducible repeat (first | apply Kd.V_alloc | apply Kd.V_drewN | apply Kd.V_drew)); exact HO_12.out) hb); have n2_ := Aside0.mk (below_step (by repeat (first | (with_reducible first | exact HB.out | apply below_alloc | apply pw_below_drewN | apply below_drew1) | exact HB.out)) hb); clear HO_4; clear HO_12; clear HB; have HO_4 := n0_; have HO_12 := n1_; have HB := n2_; clear n0_ n1_ n2_; (try clear hb); (try clear hb2); (try clear hk); (try clear hi)))
            go_ret2
            exact ⟨_, by first | rfl | (simp [errW_none, errW_some] <;> rfl) | (simp [*, errW_none, errW_some] <;> rfl), by first | exact Kd.R_nil _ _ _ _ _ | exact Kd.N_nil _ _ _ _ _ | exact Kd.V_nil _ _ _ _ _ | exact Kd.Q_nil _ _ _ _ _ | exact Kd.S_nil _ _ _ _ _, by repeat (first | (with_reducible first | exact HB.out | apply below_alloc | apply pw_below_drewN | apply below_drew1) | exact HB.out)⟩
  · rw [if_neg c3] at H
    exact absurd H (by simp)

/-! ### parallaxlaw22_known: function 5 -/
def parallaxlaw22_known.j0 : Nat → Bool → Option (Bool)
  | 0, _ => none
  | k + 1, x0 => some x0
def parallaxlaw22_known.f (k : Nat)  : Option (Bool) := (base64_Read.f k (⟨#[89, 87, 73, 61]⟩ : ByteArray)).bind fun bt111 => ((base64_Read.f k (⟨#[89, 87, 73]⟩ : ByteArray)).bind fun bt115 => ((base64_Put.f (([97] : List Int))).bind fun t122 => (if t122.toList = ([89, 81, 61, 61] : List UInt8) then (if bt111.2 = true then (if (strOfNums bt111.1).toList = ([97, 98] : List UInt8) then (parallaxlaw22_known.j0 k (!bt115.2)) else (parallaxlaw22_known.j0 k false)) else (parallaxlaw22_known.j0 k false)) else (parallaxlaw22_known.j0 k false))))
theorem parallaxlaw22_known.mono_l : ∀ k, (∀ y0, LeO (parallaxlaw22_known.j0 k y0) (parallaxlaw22_known.j0 (k + 1) y0))
  | 0 => fun _ r h => by simp [parallaxlaw22_known.j0] at h
  | k + 1 => by
    have ih0 := parallaxlaw22_known.mono_l k
    · intro y0
      unfold parallaxlaw22_known.j0
      repeat' first
      | (with_reducible exact ih0 _)
      | (with_reducible exact base64_Read.mono _ _)
      | (with_reducible exact LeO.refl _)
      | (with_reducible exact LeO.none _)
      | (with_reducible refine LeO.ite ?_ ?_)
      | (with_reducible refine LeO.bind ?_ (fun _ => ?_))
      | exact ih0 _
      | exact base64_Read.mono _ _
      | exact LeO.none _
      | refine LeO.ite ?_ ?_
      | refine LeO.bind ?_ (fun _ => ?_)
theorem parallaxlaw22_known.mono : ∀ k, LeO (parallaxlaw22_known.f k ) (parallaxlaw22_known.f (k + 1) ) := by
  intro  k
  have ih0 := parallaxlaw22_known.mono_l k
  unfold parallaxlaw22_known.f
  repeat' first
      | (with_reducible exact ih0 _)
      | (with_reducible exact base64_Read.mono _ _)
      | (with_reducible exact LeO.refl _)
      | (with_reducible exact LeO.none _)
      | (with_reducible refine LeO.ite ?_ ?_)
      | (with_reducible refine LeO.bind ?_ (fun _ => ?_))
      | exact ih0 _
      | exact base64_Read.mono _ _
      | exact LeO.none _
      | refine LeO.ite ?_ ?_
      | refine LeO.bind ?_ (fun _ => ?_)
set_option maxHeartbeats 8000000 in
set_option maxRecDepth 100000 in
theorem parallaxlaw22_known.calls (k : Nat)  (r : Bool) (w : World) (hT : r = true) (h : parallaxlaw22_known.f k  = some r) :
    Calls Tryd.prog 5 #[] w fun e w' => e = .returned (.bool r) ∧ Below w.heap.size w w' := by
  have HT := Aside0.mk hT
  clear hT
  have HB := Aside0.mk (Below.refl w.heap.size w)
  have H : ((base64_Read.f k (⟨#[89, 87, 73, 61]⟩ : ByteArray)).bind fun bt111 => ((base64_Read.f k (⟨#[89, 87, 73]⟩ : ByteArray)).bind fun bt115 => ((base64_Put.f (([97] : List Int))).bind fun t122 => (if t122.toList = ([89, 81, 61, 61] : List UInt8) then (if bt111.2 = true then (if (strOfNums bt111.1).toList = ([97, 98] : List UInt8) then (parallaxlaw22_known.j0 k (!bt115.2)) else (parallaxlaw22_known.j0 k false)) else (parallaxlaw22_known.j0 k false)) else (parallaxlaw22_known.j0 k false))))) = some r := h
  clear h
  replace H := Option.bind_eq_some_iff.mp H
  obtain ⟨⟨t111, t112⟩, A10, H⟩ := H
  (try dsimp only at H)
  have A1 := Aside0.mk A10
  clear A10
  replace H := Option.bind_eq_some_iff.mp H
  obtain ⟨⟨t115, t116⟩, A20, H⟩ := H
  (try dsimp only at H)
  have A2 := Aside0.mk A20
  clear A20
  have HC3 := Aside0.mk H
  clear H
  go_enter Tryd.func5, Tryd.ntmps5
  go_upto_region 3 with (first | ((with_reducible refine gate_callee (f := 7) rfl ?_); refine goesL_ (some 6) rfl rfl Tryd.func7 (by kernel_rfl) rfl #[.string (⟨#[89, 87, 73, 61]⟩ : ByteArray)] rfl (by (try simp only [List.map_toArray, List.map_cons, List.map_nil]); first | done | rfl | (simp only [List.length_drop, List.length_take]; rfl)) ?_; (with_reducible refine (base64_Read.calls k (⟨#[89, 87, 73, 61]⟩ : ByteArray) t111 t112 _ A1.out).mono ?_); rintro e w4 ⟨v113, rfl, ho0, hb⟩; refine ⟨_, rfl, ?_⟩; have n0_ := Aside0.mk (Kd.R_lower ho0 (below_size (by repeat (first | (with_reducible first | exact HB.out | apply below_alloc | apply pw_below_drewN | apply below_drew1) | exact HB.out)))); have n1_ := Aside0.mk (below_step (by repeat (first | (with_reducible first | exact HB.out | apply below_alloc | apply pw_below_drewN | apply below_drew1) | exact HB.out)) hb); clear HB; have HO114 := n0_; have HB := n1_; clear n0_ n1_; (try clear hb); (try clear hb2); (try clear hk); (try clear hi); (try clear ho0)) | ((with_reducible refine gate_callee (f := 7) rfl ?_); refine goesL_ (some 10) rfl rfl Tryd.func7 (by kernel_rfl) rfl #[.string (⟨#[89, 87, 73]⟩ : ByteArray)] rfl (by (try simp only [List.map_toArray, List.map_cons, List.map_nil]); first | done | rfl | (simp only [List.length_drop, List.length_take]; rfl)) ?_; (with_reducible refine (base64_Read.calls k (⟨#[89, 87, 73]⟩ : ByteArray) t115 t116 _ A2.out).mono ?_); rintro e w5 ⟨v117, rfl, ho0, hb⟩; refine ⟨_, rfl, ?_⟩; have n0_ := Aside0.mk (Kd.R_elder' (by (with_reducible repeat (first | apply Kd.R_alloc | apply Kd.R_drewN | apply Kd.R_drew)); exact HO114.out) (Kd.R_base ho0) hb); have n1_ := Aside0.mk (Kd.R_lower (Kd.R_new' ho0 (Kd.R_lt (by (with_reducible repeat (first | apply Kd.R_alloc | apply Kd.R_drewN | apply Kd.R_drew)); exact HO114.out))) (below_size (by repeat (first | (with_reducible first | exact HB.out | apply below_alloc | apply pw_below_drewN | apply below_drew1) | exact HB.out)))); have n2_ := Aside0.mk (below_step (by repeat (first | (with_reducible first | exact HB.out | apply below_alloc | apply pw_below_drewN | apply below_drew1) | exact HB.out)) hb); clear HO114; clear HB; have HO114 := n0_; have HO118 := n1_; have HB := n2_; clear n0_ n1_ n2_; (try clear hb); (try clear hb2); (try clear hk); (try clear hi); (try clear ho0)))
  (try simp only [Act.put, List.setIfInBounds_toArray, List.set_cons_zero, List.set_cons_succ])
  go_cut [0] (fun v0 wc => ∃ (kq : Nat) (x0_2 : Bool), v0 = .bool x0_2 ∧ Aside0 (parallaxlaw22_known.j0 kq x0_2 = some r) ∧ Aside0 (kq ≤ k) ∧ Aside0 (Below w.heap.size w wc))
  case first =>
    have H := HC3.out
    clear HC3
    obtain ⟨y119, hy119⟩ : ∃ y_ : List Int, y_ = (([97] : List Int)) := ⟨_, rfl⟩
    replace H : ((base64_Put.f y119).bind fun t122 => (if t122.toList = ([89, 81, 61, 61] : List UInt8) then (if t112 = true then (if (strOfNums t111).toList = ([97, 98] : List UInt8) then (parallaxlaw22_known.j0 k (!t116)) else (parallaxlaw22_known.j0 k false)) else (parallaxlaw22_known.j0 k false)) else (parallaxlaw22_known.j0 k false))) = some r := by first | (rw [hy119]; with_reducible exact H) | (have H2_ := (Option.bind_some _ _).symm.trans H; rw [hy119]; with_reducible exact H2_) | (have H2_ := (Option.bind_some _ _).symm.trans H; with_reducible exact H2_) | with_reducible exact H | (rw [hy119]; exact H) | exact H
    have Ny119 := Aside0.mk hy119
    clear hy119
    replace H := Option.bind_eq_some_iff.mp H
    obtain ⟨t122, A60, H⟩ := H
    (try dsimp only at H)
    have A6 := Aside0.mk A60
    clear A60
    by_cases c7 : t122.toList = ([89, 81, 61, 61] : List UInt8)
    · rw [if_pos c7] at H
      have c7b0 : (t122.toList == ([89, 81, 61, 61] : List UInt8)) = true := beq_iff_eq.mpr c7
      have c7b1 : (t122.toList != ([89, 81, 61, 61] : List UInt8)) = false := bne_eq_false_iff_eq.mpr c7
      clear c7
      (first | rw [c7b0] | (simp only [i64_w, i32_w]; rw [c7b0]) | skip)
      by_cases c8 : t112 = true
      · subst c8
        rw [if_pos rfl] at H
        by_cases c9 : (strOfNums t111).toList = ([97, 98] : List UInt8)
        · rw [if_pos c9] at H
          have c9b0 : ((strOfNums t111).toList == ([97, 98] : List UInt8)) = true := beq_iff_eq.mpr c9
          have c9b1 : ((strOfNums t111).toList != ([97, 98] : List UInt8)) = false := bne_eq_false_iff_eq.mpr c9
          clear c9
          have H' := Aside0.mk H
          clear H
          go_wp2_with (first | ((with_reducible refine gate_dst (N := 13) rfl ?_); refine Kd.R_lit (Kd.int .u8) _ 5 ?hg (N := 13) ?hd (xs := ([97] : List Int)) (inner := [.int .u8 97]) (ok := fun _ => True) (okp := fun _ => True) ?hr ?hp (fun _ hk => hk) trivial (Below.refl _ _) (Nat.le_refl _) (by simp) ?_; (case hd => rfl); (case hg => rfl); (case hr => first | (go_simp; done) | (go_simp; rfl)); (case hp => exact (Reps.one (show Kd.M (Kd.int .u8) _ _ _ 97 [.int .u8 97] from rfl) (Reps.none _ _))); intro v120 w10 ho11 hb hg_ hnew_; clear hg_ hnew_; (first | rw [← Ny119.out] at ho11 | (simp only [Int.reduceToNat] at ho11; rw [← Ny119.out] at ho11)); have n0_ := Aside0.mk (Kd.R_elder' (by (with_reducible repeat (first | apply Kd.R_alloc | apply Kd.R_drewN | apply Kd.R_drew)); exact HO114.out) (Kd.R_base ho11) hb); have n1_ := Aside0.mk (Kd.R_elder' (by (with_reducible repeat (first | apply Kd.R_alloc | apply Kd.R_drewN | apply Kd.R_drew)); exact HO118.out) (Kd.R_base ho11) hb); have n2_ := Aside0.mk (Kd.R_lower (Kd.R_new' (Kd.R_new' ho11 (Kd.R_lt (by (with_reducible repeat (first | apply Kd.R_alloc | apply Kd.R_drewN | apply Kd.R_drew)); exact HO114.out))) (Kd.R_lt (by (with_reducible repeat (first | apply Kd.R_alloc | apply Kd.R_drewN | apply Kd.R_drew)); exact HO118.out))) (below_size (by repeat (first | (with_reducible first | exact HB.out | apply below_alloc | apply pw_below_drewN | apply below_drew1) | exact HB.out)))); have n3_ := Aside0.mk (below_step (by repeat (first | (with_reducible first | exact HB.out | apply below_alloc | apply pw_below_drewN | apply below_drew1) | exact HB.out)) hb); clear HO114; clear HO118; clear HB; have HO114 := n0_; have HO118 := n1_; have HO121 := n2_; have HB := n3_; clear n0_ n1_ n2_ n3_; clear hb ho11; obtain ⟨Ao12, co12, eo12⟩ := Kd.R_slice HO121.out; subst eo12) | ((with_reducible refine gate_dst (N := 14) rfl ?_); (try (refine gate_guard (by rfl) ?_; dsimp only)); refine Mark.mark_lit (w0 := w) w.heap.size 5 22 ?hg (N := 14) ?hd (m := 13) rfl rfl Tryd.underlying22 Tryd.underlying5 HO121.out (by rw [Ny119.out]; simp) (by repeat (first | (with_reducible first | exact HB.out | apply below_alloc | apply pw_below_drewN | apply below_drew1) | exact HB.out)) ?_; (case hd => rfl); (case hg => rfl); intro wm_ hkm hbm hfm hlm; have HFM := Aside0.mk (Kd.F_mono (ok' := fun k_ => True) hfm (fun k_ hk_ => trivial)); have HLM := Aside0.mk hlm; have mb_ := Aside0.mk hbm; clear HO121; clear HB; have rHO114_ := Aside0.mk (Kd.R_step HO114.out (fun k_ ho_ _ => hkm k_ (fun ad he_ e_ => by subst he_; subst e_; simp [Value.ownBlock] at ho_))); clear HO114; have HO114 := rHO114_; clear rHO114_; have rHO118_ := Aside0.mk (Kd.R_step HO118.out (fun k_ ho_ _ => hkm k_ (fun ad he_ e_ => by subst he_; subst e_; simp [Value.ownBlock] at ho_))); clear HO118; have HO118 := rHO118_; clear rHO118_; have HB := mb_; clear mb_; clear hkm hbm hfm hlm) | ((with_reducible refine gate_callee (f := 6) rfl ?_); refine goesL_ (some 15) rfl rfl Tryd.func6 (by kernel_rfl) rfl #[.slice Ao12 y119.length co12] rfl (by (try simp only [List.map_toArray, List.map_cons, List.map_nil]); first | done | rfl | (simp only [List.length_drop, List.length_take]; rfl)) ?_; (with_reducible refine (base64_Put.calls _ _ y119 t122 _ ?side1 ?side2 A6.out).mono ?_); (case side1 => repeat (first | exact Kd.F_now HFM.out | (with_reducible refine Kd.C_alloc ?_ _) | (with_reducible refine Kd.C_drewN ?_ _) | (with_reducible refine Kd.C_drew ?_))); (case side2 => exact HLM.out); rintro e w13 ⟨rfl, hb⟩; refine ⟨_, rfl, ?_⟩; have n0_ := Aside0.mk (Kd.R_below (by (with_reducible repeat (first | apply Kd.R_alloc | apply Kd.R_drewN | apply Kd.R_drew)); exact HO114.out) hb); have n1_ := Aside0.mk (Kd.R_below (by (with_reducible repeat (first | apply Kd.R_alloc | apply Kd.R_drewN | apply Kd.R_drew)); exact HO118.out) hb); have n3_ := Aside0.mk (below_step (by repeat (first | (with_reducible first | exact HB.out | apply below_alloc | apply pw_below_drewN | apply below_drew1) | exact HB.out)) hb); clear HO114; clear HO118; clear HB; have HO114 := n0_; have HO118 := n1_; have HB := n3_; clear n0_ n1_ n3_; (try clear hb); (try clear hb2); (try clear hk); (try clear hi); have hcv14 := own_string (P := Tryd.prog) Tryd.underlying22 Tryd.underlying5 Tryd.underlying9 (Kd.own_of_R HO114.out)) | (go_at_call 6; (with_reducible refine (base64_Put.calls _ _ y119 t122 _ ?side1 ?side2 A6.out).mono ?_); (case side1 => repeat (first | exact Kd.F_now HFM.out | (with_reducible refine Kd.C_alloc ?_ _) | (with_reducible refine Kd.C_drewN ?_ _) | (with_reducible refine Kd.C_drew ?_))); (case side2 => exact HLM.out); rintro e w13 ⟨rfl, hb⟩; have n0_ := Aside0.mk (Kd.R_below (by (with_reducible repeat (first | apply Kd.R_alloc | apply Kd.R_drewN | apply Kd.R_drew)); exact HO114.out) hb); have n1_ := Aside0.mk (Kd.R_below (by (with_reducible repeat (first | apply Kd.R_alloc | apply Kd.R_drewN | apply Kd.R_drew)); exact HO118.out) hb); have n3_ := Aside0.mk (below_step (by repeat (first | (with_reducible first | exact HB.out | apply below_alloc | apply pw_below_drewN | apply below_drew1) | exact HB.out)) hb); clear HO114; clear HO118; clear HB; have HO114 := n0_; have HO118 := n1_; have HB := n3_; clear n0_ n1_ n3_; (try clear hb); (try clear hb2); (try clear hk); (try clear hi); have hcv14 := own_string (P := Tryd.prog) Tryd.underlying22 Tryd.underlying5 Tryd.underlying9 (Kd.own_of_R HO114.out)))
          (try any_goals (exfalso; have h_ := ‹some undef = some (Value.bool _)›; revert h_; simp [undef]; done))
          go_meet
          case rel => exact ⟨_, (!t116), (by first | rfl | (simp; done) | (simp [*]; done)), H', ⟨by first | omega | exact Nat.le_refl _⟩, ⟨by repeat (first | (with_reducible first | exact HB.out | apply below_alloc | apply pw_below_drewN | apply below_drew1) | exact HB.out)⟩⟩
        · rw [if_neg c9] at H
          have c9b0 : ((strOfNums t111).toList == ([97, 98] : List UInt8)) = false := beq_eq_false_iff_ne.mpr c9
          have c9b1 : ((strOfNums t111).toList != ([97, 98] : List UInt8)) = true := bne_iff_ne.mpr c9
          have H' := Aside0.mk H
          clear H
          go_wp2_with (first | ((with_reducible refine gate_dst (N := 13) rfl ?_); refine Kd.R_lit (Kd.int .u8) _ 5 ?hg (N := 13) ?hd (xs := ([97] : List Int)) (inner := [.int .u8 97]) (ok := fun _ => True) (okp := fun _ => True) ?hr ?hp (fun _ hk => hk) trivial (Below.refl _ _) (Nat.le_refl _) (by simp) ?_; (case hd => rfl); (case hg => rfl); (case hr => first | (go_simp; done) | (go_simp; rfl)); (case hp => exact (Reps.one (show Kd.M (Kd.int .u8) _ _ _ 97 [.int .u8 97] from rfl) (Reps.none _ _))); intro v120 w15 ho16 hb hg_ hnew_; clear hg_ hnew_; (first | rw [← Ny119.out] at ho16 | (simp only [Int.reduceToNat] at ho16; rw [← Ny119.out] at ho16)); have n0_ := Aside0.mk (Kd.R_elder' (by (with_reducible repeat (first | apply Kd.R_alloc | apply Kd.R_drewN | apply Kd.R_drew)); exact HO114.out) (Kd.R_base ho16) hb); have n1_ := Aside0.mk (Kd.R_elder' (by (with_reducible repeat (first | apply Kd.R_alloc | apply Kd.R_drewN | apply Kd.R_drew)); exact HO118.out) (Kd.R_base ho16) hb); have n2_ := Aside0.mk (Kd.R_lower (Kd.R_new' (Kd.R_new' ho16 (Kd.R_lt (by (with_reducible repeat (first | apply Kd.R_alloc | apply Kd.R_drewN | apply Kd.R_drew)); exact HO114.out))) (Kd.R_lt (by (with_reducible repeat (first | apply Kd.R_alloc | apply Kd.R_drewN | apply Kd.R_drew)); exact HO118.out))) (below_size (by repeat (first | (with_reducible first | exact HB.out | apply below_alloc | apply pw_below_drewN | apply below_drew1) | exact HB.out)))); have n3_ := Aside0.mk (below_step (by repeat (first | (with_reducible first | exact HB.out | apply below_alloc | apply pw_below_drewN | apply below_drew1) | exact HB.out)) hb); clear HO114; clear HO118; clear HB; have HO114 := n0_; have HO118 := n1_; have HO121 := n2_; have HB := n3_; clear n0_ n1_ n2_ n3_; clear hb ho16; obtain ⟨Ao17, co17, eo17⟩ := Kd.R_slice HO121.out; subst eo17) | ((with_reducible refine gate_dst (N := 14) rfl ?_); (try (refine gate_guard (by rfl) ?_; dsimp only)); refine Mark.mark_lit (w0 := w) w.heap.size 5 22 ?hg (N := 14) ?hd (m := 13) rfl rfl Tryd.underlying22 Tryd.underlying5 HO121.out (by rw [Ny119.out]; simp) (by repeat (first | (with_reducible first | exact HB.out | apply below_alloc | apply pw_below_drewN | apply below_drew1) | exact HB.out)) ?_; (case hd => rfl); (case hg => rfl); intro wm_ hkm hbm hfm hlm; have HFM := Aside0.mk (Kd.F_mono (ok' := fun k_ => True) hfm (fun k_ hk_ => trivial)); have HLM := Aside0.mk hlm; have mb_ := Aside0.mk hbm; clear HO121; clear HB; have rHO114_ := Aside0.mk (Kd.R_step HO114.out (fun k_ ho_ _ => hkm k_ (fun ad he_ e_ => by subst he_; subst e_; simp [Value.ownBlock] at ho_))); clear HO114; have HO114 := rHO114_; clear rHO114_; have rHO118_ := Aside0.mk (Kd.R_step HO118.out (fun k_ ho_ _ => hkm k_ (fun ad he_ e_ => by subst he_; subst e_; simp [Value.ownBlock] at ho_))); clear HO118; have HO118 := rHO118_; clear rHO118_; have HB := mb_; clear mb_; clear hkm hbm hfm hlm) | ((with_reducible refine gate_callee (f := 6) rfl ?_); refine goesL_ (some 15) rfl rfl Tryd.func6 (by kernel_rfl) rfl #[.slice Ao17 y119.length co17] rfl (by (try simp only [List.map_toArray, List.map_cons, List.map_nil]); first | done | rfl | (simp only [List.length_drop, List.length_take]; rfl)) ?_; (with_reducible refine (base64_Put.calls _ _ y119 t122 _ ?side1 ?side2 A6.out).mono ?_); (case side1 => repeat (first | exact Kd.F_now HFM.out | (with_reducible refine Kd.C_alloc ?_ _) | (with_reducible refine Kd.C_drewN ?_ _) | (with_reducible refine Kd.C_drew ?_))); (case side2 => exact HLM.out); rintro e w18 ⟨rfl, hb⟩; refine ⟨_, rfl, ?_⟩; have n0_ := Aside0.mk (Kd.R_below (by (with_reducible repeat (first | apply Kd.R_alloc | apply Kd.R_drewN | apply Kd.R_drew)); exact HO114.out) hb); have n1_ := Aside0.mk (Kd.R_below (by (with_reducible repeat (first | apply Kd.R_alloc | apply Kd.R_drewN | apply Kd.R_drew)); exact HO118.out) hb); have n3_ := Aside0.mk (below_step (by repeat (first | (with_reducible first | exact HB.out | apply below_alloc | apply pw_below_drewN | apply below_drew1) | exact HB.out)) hb); clear HO114; clear HO118; clear HB; have HO114 := n0_; have HO118 := n1_; have HB := n3_; clear n0_ n1_ n3_; (try clear hb); (try clear hb2); (try clear hk); (try clear hi); have hcv19 := own_string (P := Tryd.prog) Tryd.underlying22 Tryd.underlying5 Tryd.underlying9 (Kd.own_of_R HO114.out)) | (go_at_call 6; (with_reducible refine (base64_Put.calls _ _ y119 t122 _ ?side1 ?side2 A6.out).mono ?_); (case side1 => repeat (first | exact Kd.F_now HFM.out | (with_reducible refine Kd.C_alloc ?_ _) | (with_reducible refine Kd.C_drewN ?_ _) | (with_reducible refine Kd.C_drew ?_))); (case side2 => exact HLM.out); rintro e w18 ⟨rfl, hb⟩; have n0_ := Aside0.mk (Kd.R_below (by (with_reducible repeat (first | apply Kd.R_alloc | apply Kd.R_drewN | apply Kd.R_drew)); exact HO114.out) hb); have n1_ := Aside0.mk (Kd.R_below (by (with_reducible repeat (first | apply Kd.R_alloc | apply Kd.R_drewN | apply Kd.R_drew)); exact HO118.out) hb); have n3_ := Aside0.mk (below_step (by repeat (first | (with_reducible first | exact HB.out | apply below_alloc | apply pw_below_drewN | apply below_drew1) | exact HB.out)) hb); clear HO114; clear HO118; clear HB; have HO114 := n0_; have HO118 := n1_; have HB := n3_; clear n0_ n1_ n3_; (try clear hb); (try clear hb2); (try clear hk); (try clear hi); have hcv19 := own_string (P := Tryd.prog) Tryd.underlying22 Tryd.underlying5 Tryd.underlying9 (Kd.own_of_R HO114.out)))
          (try any_goals (exfalso; have h_ := ‹some undef = some (Value.bool _)›; revert h_; simp [undef]; done))
          go_meet
          case rel => exact ⟨_, (false), (by first | rfl | (simp; done) | (simp [*]; done)), H', ⟨by first | omega | exact Nat.le_refl _⟩, ⟨by repeat (first | (with_reducible first | exact HB.out | apply below_alloc | apply pw_below_drewN | apply below_drew1) | exact HB.out)⟩⟩
      · replace c8 := Bool.eq_false_iff.mpr c8
        subst c8
        rw [if_neg (show ¬ (false = true) by decide)] at H
        have H' := Aside0.mk H
        clear H
        go_wp2_with (first | ((with_reducible refine gate_dst (N := 13) rfl ?_); refine Kd.R_lit (Kd.int .u8) _ 5 ?hg (N := 13) ?hd (xs := ([97] : List Int)) (inner := [.int .u8 97]) (ok := fun _ => True) (okp := fun _ => True) ?hr ?hp (fun _ hk => hk) trivial (Below.refl _ _) (Nat.le_refl _) (by simp) ?_; (case hd => rfl); (case hg => rfl); (case hr => first | (go_simp; done) | (go_simp; rfl)); (case hp => exact (Reps.one (show Kd.M (Kd.int .u8) _ _ _ 97 [.int .u8 97] from rfl) (Reps.none _ _))); intro v120 w20 ho21 hb hg_ hnew_; clear hg_ hnew_; (first | rw [← Ny119.out] at ho21 | (simp only [Int.reduceToNat] at ho21; rw [← Ny119.out] at ho21)); have n0_ := Aside0.mk (Kd.R_elder' (by (with_reducible repeat (first | apply Kd.R_alloc | apply Kd.R_drewN | apply Kd.R_drew)); exact HO114.out) (Kd.R_base ho21) hb); have n1_ := Aside0.mk (Kd.R_elder' (by (with_reducible repeat (first | apply Kd.R_alloc | apply Kd.R_drewN | apply Kd.R_drew)); exact HO118.out) (Kd.R_base ho21) hb); have n2_ := Aside0.mk (Kd.R_lower (Kd.R_new' (Kd.R_new' ho21 (Kd.R_lt (by (with_reducible repeat (first | apply Kd.R_alloc | apply Kd.R_drewN | apply Kd.R_drew)); exact HO114.out))) (Kd.R_lt (by (with_reducible repeat (first | apply Kd.R_alloc | apply Kd.R_drewN | apply Kd.R_drew)); exact HO118.out))) (below_size (by repeat (first | (with_reducible first | exact HB.out | apply below_alloc | apply pw_below_drewN | apply below_drew1) | exact HB.out)))); have n3_ := Aside0.mk (below_step (by repeat (first | (with_reducible first | exact HB.out | apply below_alloc | apply pw_below_drewN | apply below_drew1) | exact HB.out)) hb); clear HO114; clear HO118; clear HB; have HO114 := n0_; have HO118 := n1_; have HO121 := n2_; have HB := n3_; clear n0_ n1_ n2_ n3_; clear hb ho21; obtain ⟨Ao22, co22, eo22⟩ := Kd.R_slice HO121.out; subst eo22) | ((with_reducible refine gate_dst (N := 14) rfl ?_); (try (refine gate_guard (by rfl) ?_; dsimp only)); refine Mark.mark_lit (w0 := w) w.heap.size 5 22 ?hg (N := 14) ?hd (m := 13) rfl rfl Tryd.underlying22 Tryd.underlying5 HO121.out (by rw [Ny119.out]; simp) (by repeat (first | (with_reducible first | exact HB.out | apply below_alloc | apply pw_below_drewN | apply below_drew1) | exact HB.out)) ?_; (case hd => rfl); (case hg => rfl); intro wm_ hkm hbm hfm hlm; have HFM := Aside0.mk (Kd.F_mono (ok' := fun k_ => True) hfm (fun k_ hk_ => trivial)); have HLM := Aside0.mk hlm; have mb_ := Aside0.mk hbm; clear HO121; clear HB; have rHO114_ := Aside0.mk (Kd.R_step HO114.out (fun k_ ho_ _ => hkm k_ (fun ad he_ e_ => by subst he_; subst e_; simp [Value.ownBlock] at ho_))); clear HO114; have HO114 := rHO114_; clear rHO114_; have rHO118_ := Aside0.mk (Kd.R_step HO118.out (fun k_ ho_ _ => hkm k_ (fun ad he_ e_ => by subst he_; subst e_; simp [Value.ownBlock] at ho_))); clear HO118; have HO118 := rHO118_; clear rHO118_; have HB := mb_; clear mb_; clear hkm hbm hfm hlm) | ((with_reducible refine gate_callee (f := 6) rfl ?_); refine goesL_ (some 15) rfl rfl Tryd.func6 (by kernel_rfl) rfl #[.slice Ao22 y119.length co22] rfl (by (try simp only [List.map_toArray, List.map_cons, List.map_nil]); first | done | rfl | (simp only [List.length_drop, List.length_take]; rfl)) ?_; (with_reducible refine (base64_Put.calls _ _ y119 t122 _ ?side1 ?side2 A6.out).mono ?_); (case side1 => repeat (first | exact Kd.F_now HFM.out | (with_reducible refine Kd.C_alloc ?_ _) | (with_reducible refine Kd.C_drewN ?_ _) | (with_reducible refine Kd.C_drew ?_))); (case side2 => exact HLM.out); rintro e w23 ⟨rfl, hb⟩; refine ⟨_, rfl, ?_⟩; have n0_ := Aside0.mk (Kd.R_below (by (with_reducible repeat (first | apply Kd.R_alloc | apply Kd.R_drewN | apply Kd.R_drew)); exact HO114.out) hb); have n1_ := Aside0.mk (Kd.R_below (by (with_reducible repeat (first | apply Kd.R_alloc | apply Kd.R_drewN | apply Kd.R_drew)); exact HO118.out) hb); have n3_ := Aside0.mk (below_step (by repeat (first | (with_reducible first | exact HB.out | apply below_alloc | apply pw_below_drewN | apply below_drew1) | exact HB.out)) hb); clear HO114; clear HO118; clear HB; have HO114 := n0_; have HO118 := n1_; have HB := n3_; clear n0_ n1_ n3_; (try clear hb); (try clear hb2); (try clear hk); (try clear hi)) | (go_at_call 6; (with_reducible refine (base64_Put.calls _ _ y119 t122 _ ?side1 ?side2 A6.out).mono ?_); (case side1 => repeat (first | exact Kd.F_now HFM.out | (with_reducible refine Kd.C_alloc ?_ _) | (with_reducible refine Kd.C_drewN ?_ _) | (with_reducible refine Kd.C_drew ?_))); (case side2 => exact HLM.out); rintro e w23 ⟨rfl, hb⟩; have n0_ := Aside0.mk (Kd.R_below (by (with_reducible repeat (first | apply Kd.R_alloc | apply Kd.R_drewN | apply Kd.R_drew)); exact HO114.out) hb); have n1_ := Aside0.mk (Kd.R_below (by (with_reducible repeat (first | apply Kd.R_alloc | apply Kd.R_drewN | apply Kd.R_drew)); exact HO118.out) hb); have n3_ := Aside0.mk (below_step (by repeat (first | (with_reducible first | exact HB.out | apply below_alloc | apply pw_below_drewN | apply below_drew1) | exact HB.out)) hb); clear HO114; clear HO118; clear HB; have HO114 := n0_; have HO118 := n1_; have HB := n3_; clear n0_ n1_ n3_; (try clear hb); (try clear hb2); (try clear hk); (try clear hi)))
        (try any_goals (exfalso; have h_ := ‹some undef = some (Value.bool _)›; revert h_; simp [undef]; done))
        go_meet
        case rel => exact ⟨_, (false), (by first | rfl | (simp; done) | (simp [*]; done)), H', ⟨by first | omega | exact Nat.le_refl _⟩, ⟨by repeat (first | (with_reducible first | exact HB.out | apply below_alloc | apply pw_below_drewN | apply below_drew1) | exact HB.out)⟩⟩
    · rw [if_neg c7] at H
      have c7b0 : (t122.toList == ([89, 81, 61, 61] : List UInt8)) = false := beq_eq_false_iff_ne.mpr c7
      have c7b1 : (t122.toList != ([89, 81, 61, 61] : List UInt8)) = true := bne_iff_ne.mpr c7
      (first | rw [c7b0] | (simp only [i64_w, i32_w]; rw [c7b0]) | skip)
      have H' := Aside0.mk H
      clear H
      go_wp2_with (first | ((with_reducible refine gate_dst (N := 13) rfl ?_); refine Kd.R_lit (Kd.int .u8) _ 5 ?hg (N := 13) ?hd (xs := ([97] : List Int)) (inner := [.int .u8 97]) (ok := fun _ => True) (okp := fun _ => True) ?hr ?hp (fun _ hk => hk) trivial (Below.refl _ _) (Nat.le_refl _) (by simp) ?_; (case hd => rfl); (case hg => rfl); (case hr => first | (go_simp; done) | (go_simp; rfl)); (case hp => exact (Reps.one (show Kd.M (Kd.int .u8) _ _ _ 97 [.int .u8 97] from rfl) (Reps.none _ _))); intro v120 w24 ho25 hb hg_ hnew_; clear hg_ hnew_; (first | rw [← Ny119.out] at ho25 | (simp only [Int.reduceToNat] at ho25; rw [← Ny119.out] at ho25)); have n0_ := Aside0.mk (Kd.R_elder' (by (with_reducible repeat (first | apply Kd.R_alloc | apply Kd.R_drewN | apply Kd.R_drew)); exact HO114.out) (Kd.R_base ho25) hb); have n1_ := Aside0.mk (Kd.R_elder' (by (with_reducible repeat (first | apply Kd.R_alloc | apply Kd.R_drewN | apply Kd.R_drew)); exact HO118.out) (Kd.R_base ho25) hb); have n2_ := Aside0.mk (Kd.R_lower (Kd.R_new' (Kd.R_new' ho25 (Kd.R_lt (by (with_reducible repeat (first | apply Kd.R_alloc | apply Kd.R_drewN | apply Kd.R_drew)); exact HO114.out))) (Kd.R_lt (by (with_reducible repeat (first | apply Kd.R_alloc | apply Kd.R_drewN | apply Kd.R_drew)); exact HO118.out))) (below_size (by repeat (first | (with_reducible first | exact HB.out | apply below_alloc | apply pw_below_drewN | apply below_drew1) | exact HB.out)))); have n3_ := Aside0.mk (below_step (by repeat (first | (with_reducible first | exact HB.out | apply below_alloc | apply pw_below_drewN | apply below_drew1) | exact HB.out)) hb); clear HO114; clear HO118; clear HB; have HO114 := n0_; have HO118 := n1_; have HO121 := n2_; have HB := n3_; clear n0_ n1_ n2_ n3_; clear hb ho25; obtain ⟨Ao26, co26, eo26⟩ := Kd.R_slice HO121.out; subst eo26) | ((with_reducible refine gate_dst (N := 14) rfl ?_); (try (refine gate_guard (by rfl) ?_; dsimp only)); refine Mark.mark_lit (w0 := w) w.heap.size 5 22 ?hg (N := 14) ?hd (m := 13) rfl rfl Tryd.underlying22 Tryd.underlying5 HO121.out (by rw [Ny119.out]; simp) (by repeat (first | (with_reducible first | exact HB.out | apply below_alloc | apply pw_below_drewN | apply below_drew1) | exact HB.out)) ?_; (case hd => rfl); (case hg => rfl); intro wm_ hkm hbm hfm hlm; have HFM := Aside0.mk (Kd.F_mono (ok' := fun k_ => True) hfm (fun k_ hk_ => trivial)); have HLM := Aside0.mk hlm; have mb_ := Aside0.mk hbm; clear HO121; clear HB; have rHO114_ := Aside0.mk (Kd.R_step HO114.out (fun k_ ho_ _ => hkm k_ (fun ad he_ e_ => by subst he_; subst e_; simp [Value.ownBlock] at ho_))); clear HO114; have HO114 := rHO114_; clear rHO114_; have rHO118_ := Aside0.mk (Kd.R_step HO118.out (fun k_ ho_ _ => hkm k_ (fun ad he_ e_ => by subst he_; subst e_; simp [Value.ownBlock] at ho_))); clear HO118; have HO118 := rHO118_; clear rHO118_; have HB := mb_; clear mb_; clear hkm hbm hfm hlm) | ((with_reducible refine gate_callee (f := 6) rfl ?_); refine goesL_ (some 15) rfl rfl Tryd.func6 (by kernel_rfl) rfl #[.slice Ao26 y119.length co26] rfl (by (try simp only [List.map_toArray, List.map_cons, List.map_nil]); first | done | rfl | (simp only [List.length_drop, List.length_take]; rfl)) ?_; (with_reducible refine (base64_Put.calls _ _ y119 t122 _ ?side1 ?side2 A6.out).mono ?_); (case side1 => repeat (first | exact Kd.F_now HFM.out | (with_reducible refine Kd.C_alloc ?_ _) | (with_reducible refine Kd.C_drewN ?_ _) | (with_reducible refine Kd.C_drew ?_))); (case side2 => exact HLM.out); rintro e w27 ⟨rfl, hb⟩; refine ⟨_, rfl, ?_⟩; have n0_ := Aside0.mk (Kd.R_below (by (with_reducible repeat (first | apply Kd.R_alloc | apply Kd.R_drewN | apply Kd.R_drew)); exact HO114.out) hb); have n1_ := Aside0.mk (Kd.R_below (by (with_reducible repeat (first | apply Kd.R_alloc | apply Kd.R_drewN | apply Kd.R_drew)); exact HO118.out) hb); have n3_ := Aside0.mk (below_step (by repeat (first | (with_reducible first | exact HB.out | apply below_alloc | apply pw_below_drewN | apply below_drew1) | exact HB.out)) hb); clear HO114; clear HO118; clear HB; have HO114 := n0_; have HO118 := n1_; have HB := n3_; clear n0_ n1_ n3_; (try clear hb); (try clear hb2); (try clear hk); (try clear hi)) | (go_at_call 6; (with_reducible refine (base64_Put.calls _ _ y119 t122 _ ?side1 ?side2 A6.out).mono ?_); (case side1 => repeat (first | exact Kd.F_now HFM.out | (with_reducible refine Kd.C_alloc ?_ _) | (with_reducible refine Kd.C_drewN ?_ _) | (with_reducible refine Kd.C_drew ?_))); (case side2 => exact HLM.out); rintro e w27 ⟨rfl, hb⟩; have n0_ := Aside0.mk (Kd.R_below (by (with_reducible repeat (first | apply Kd.R_alloc | apply Kd.R_drewN | apply Kd.R_drew)); exact HO114.out) hb); have n1_ := Aside0.mk (Kd.R_below (by (with_reducible repeat (first | apply Kd.R_alloc | apply Kd.R_drewN | apply Kd.R_drew)); exact HO118.out) hb); have n3_ := Aside0.mk (below_step (by repeat (first | (with_reducible first | exact HB.out | apply below_alloc | apply pw_below_drewN | apply below_drew1) | exact HB.out)) hb); clear HO114; clear HO118; clear HB; have HO114 := n0_; have HO118 := n1_; have HB := n3_; clear n0_ n1_ n3_; (try clear hb); (try clear hb2); (try clear hk); (try clear hi)))
      (try any_goals (exfalso; have h_ := ‹some undef = some (Value.bool _)›; revert h_; simp [undef]; done))
      go_meet
      case rel => exact ⟨_, (false), (by first | rfl | (simp; done) | (simp [*]; done)), H', ⟨by first | omega | exact Nat.le_refl _⟩, ⟨by repeat (first | (with_reducible first | exact HB.out | apply below_alloc | apply pw_below_drewN | apply below_drew1) | exact HB.out)⟩⟩
  case rest =>
    clear HC3
    try clear hcv1
    try clear p2
    try clear c5
    try clear c6
    try clear c7
    try clear c7b0
    try clear c7b1
    try clear c8
    try clear c9
    try clear c9b0
    try clear c9b1
    try clear hcv14
    try clear hcv19
    obtain ⟨kq, x0_2, rfl, HA, HJ2, HB⟩ := hcut
    cases kq with
    | zero => exact absurd HA.out (by simp [parallaxlaw22_known.j0])
    | succ kj2 =>
      have H := HA.out
      clear HA
      simp only [parallaxlaw22_known.j0] at H
      obtain rfl := Option.some.inj H
      go_wp2
      (try any_goals (exfalso; have h_ := ‹some undef = some (Value.bool _)›; revert h_; simp [undef]; done))
      go_ret
      exact ⟨by first | rfl | (simp [errW_none, errW_some] <;> rfl) | (simp [*, errW_none, errW_some] <;> rfl), by repeat (first | (with_reducible first | exact HB.out | apply below_alloc | apply pw_below_drewN | apply below_drew1) | exact HB.out)⟩

end Go.Proofs.YtpdkflpkcabhpaaDoor.PBase64Tells
