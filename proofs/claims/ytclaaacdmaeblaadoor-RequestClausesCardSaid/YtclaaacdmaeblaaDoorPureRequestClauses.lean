/- It is proved that RequestClauses answers true at every input: each clause of a first line takes what no profile without it takes. -/
import Derived.Test.YtclaaacdmaeblaaDoorPRequestClausesx9
import Derived.Test.YtclaaacdmaeblaaDoorTxtRequestClauses
namespace Go.Proofs.YtclaaacdmaeblaaDoor.Pure
open Go.RowKit Go.Proofs.YtclaaacdmaeblaaDoor.PRequestClauses Go.Proofs.YtclaaacdmaeblaaDoorW.PrintWords Go.Proofs.YtclaaacdmaeblaaDoorW.PrintLast Go.Proofs.YtclaaacdmaeblaaDoorW.PrintMore Go.Proofs.YtclaaacdmaeblaaDoor.Aid Go.Proofs.YtclaaacdmaeblaaDoor.Parts

/-- alike in all that a first line's reading asks of a profile -/
structure Same (x y : Int) : Prop where
  h3 : quirks_Has.f x 3 = quirks_Has.f y 3
  h4 : quirks_Has.f x 4 = quirks_Has.f y 4
  h5 : quirks_Has.f x 5 = quirks_Has.f y 5
  h6 : quirks_Has.f x 6 = quirks_Has.f y 6
  h7 : quirks_Has.f x 7 = quirks_Has.f y 7
  h8 : quirks_Has.f x 8 = quirks_Has.f y 8
theorem same_parted {x y : Int} (h : Same x y) (k : Nat) (s : ByteArray) : request_parted.f k s x = request_parted.f k s y := by
  have j1 : ∀ k s l n b, request_parted.j1 k s x l n b = request_parted.j1 k s y l n b := by
    intro k s l n b
    cases k with
    | zero => rfl
    | succ k => simp only [request_parted.j1, h.h3, h.h6]
  have j0 : ∀ k s l, request_parted.j0 k s x l = request_parted.j0 k s y l := by
    intro k s l
    cases k with
    | zero => rfl
    | succ k => simp only [request_parted.j0, h.h7, j1]
  simp only [request_parted.f, h.h3, j0]
theorem same_goes {x y : Int} (h : Same x y) (k : Nat) (m s : ByteArray) : request_goes.f k m s x = request_goes.f k m s y := by
  simp only [request_goes.f, h.h7, h.h8]
theorem same_minor {x y : Int} (h : Same x y) (k : Nat) (s : ByteArray) (old : Bool) : request_minor.f k s x old = request_minor.f k s y old := by
  have j0 : ∀ k s old n b, request_minor.j0 k s x old n b = request_minor.j0 k s y old n b := by
    intro k s old n b
    cases k with
    | zero => rfl
    | succ k => simp only [request_minor.j0, h.h4]
  simp only [request_minor.f, h.h5, j0]
theorem same_parse {x y : Int} (h : Same x y) (k : Nat) (s : ByteArray) (b0 b1 b2 b3 b4 b5 b6 b7 : Int) (c old : Bool) : request_Parse.f k s x b0 b1 b2 b3 b4 b5 b6 b7 c old = request_Parse.f k s y b0 b1 b2 b3 b4 b5 b6 b7 c old := by
  have j0 : ∀ k m g v b b0 b1 b2 b3 b4 b5 b6 b7 c old, request_Parse.j0 k x m g v b b0 b1 b2 b3 b4 b5 b6 b7 c old = request_Parse.j0 k y m g v b b0 b1 b2 b3 b4 b5 b6 b7 c old := by
    intro k m g v b b0 b1 b2 b3 b4 b5 b6 b7 c old
    cases k with
    | zero => rfl
    | succ k => simp only [request_Parse.j0, same_minor h]
  simp only [request_Parse.f, same_parted h, same_goes h, j0]
def texts : List ByteArray := [(⟨#[71, 69, 84, 32, 9, 47, 97, 32, 32, 72, 84, 84, 80, 47, 49, 46, 49]⟩ : ByteArray), (⟨#[71, 69, 84, 32, 47, 97, 32, 72, 84, 84, 80, 47, 49, 46, 55]⟩ : ByteArray), (⟨#[71, 69, 84, 32, 47, 97, 32, 72, 116, 84, 112, 47, 49, 46, 49]⟩ : ByteArray), (⟨#[71, 69, 84, 32, 47, 97]⟩ : ByteArray), (⟨#[71, 69, 84, 32, 47, 97, 32, 98, 32, 72, 84, 84, 80, 47, 49, 46, 49]⟩ : ByteArray), (⟨#[71, 69, 84, 32, 47, 97, 1, 32, 72, 84, 84, 80, 47, 49, 46, 49]⟩ : ByteArray)]
/-- what the law asks, of a profile without a clause and with it -/
def tail (k : Nat) (u : Int) (c : Int) (old : Bool) (r p : Int) : Option Bool :=
  (request_Parse.f k (rdOf ByteArray.empty texts u) r 1024 32 8192 65536 32 8 4 20 true old).bind fun bt295 => ((request_Parse.f k (rdOf ByteArray.empty texts u) p 1024 32 8192 65536 32 8 4 20 true old).bind fun bt299 => (if c = 6 then (parallaxlaw8_RequestClauses.j0 k u c bt295.2.2.2 bt299.1 bt299.2.1 bt299.2.2.1 bt299.2.2.2 (!old)) else (parallaxlaw8_RequestClauses.j0 k u c bt295.2.2.2 bt299.1 bt299.2.1 bt299.2.2.1 bt299.2.2.2 false)))
theorem tail_same {r r' p p' : Int} (h : Same r r') (h' : Same p p') (k : Nat) (u c : Int) (old : Bool) : tail k u c old r p = tail k u c old r' p' := by
  unfold tail
  rw [same_parse h, same_parse h']
theorem has_bit (n c : Nat) (hn : n < 4294967296) (hc : c < 30) : quirks_Has.f (n : Int) (c : Int) = some (n.testBit c) := by
  rw [qhas_some n hn, hasB_nat n c hc]
theorem same_of {n n' : Nat} (hn : n < 4294967296) (hn' : n' < 4294967296) (h : ∀ c, 3 ≤ c → c ≤ 8 → n.testBit c = n'.testBit c) : Same (n : Int) (n' : Int) := by
  have go : ∀ c : Nat, 3 ≤ c → c ≤ 8 → quirks_Has.f (n : Int) (c : Int) = quirks_Has.f (n' : Int) (c : Int) := fun c h1 h2 => by
    rw [has_bit n c hn (by omega), has_bit n' c hn' (by omega), h c h1 h2]
  exact ⟨go 3 (by decide) (by decide), go 4 (by decide) (by decide), go 5 (by decide) (by decide), go 6 (by decide) (by decide), go 7 (by decide) (by decide), go 8 (by decide) (by decide)⟩
/-- a profile's bits 3 to 8 alone -/
theorem few_bits (n c : Nat) (h1 : 3 ≤ c) (h2 : c ≤ 8) : n.testBit c = (8 * (n / 8 % 64)).testBit c := by
  rw [Nat.testBit_eq_decide_div_mod_eq, Nat.testBit_eq_decide_div_mod_eq]
  congr 1
  rcases (by omega : c = 3 ∨ c = 4 ∨ c = 5 ∨ c = 6 ∨ c = 7 ∨ c = 8) with rfl | rfl | rfl | rfl | rfl | rfl <;> (apply propext; constructor <;> intro h <;> omega)
theorem tab0 : ∀ (m : Fin 64) (old : Bool), (8 * m.val).testBit 3 = false → tail 60 0 3 old ((8 * m.val : Nat) : Int) ((8 * m.val ||| 2 ^ 3 : Nat) : Int) = some true := by decide +kernel
theorem tab1 : ∀ (m : Fin 64) (old : Bool), (8 * m.val).testBit 4 = false → tail 60 1 4 old ((8 * m.val : Nat) : Int) ((8 * m.val ||| 2 ^ 4 : Nat) : Int) = some true := by decide +kernel
theorem tab2 : ∀ (m : Fin 64) (old : Bool), (8 * m.val).testBit 5 = false → tail 60 2 5 old ((8 * m.val : Nat) : Int) ((8 * m.val ||| 2 ^ 5 : Nat) : Int) = some true := by decide +kernel
theorem tab3 : ∀ (m : Fin 64) (old : Bool), (8 * m.val).testBit 6 = false → tail 60 3 6 old ((8 * m.val : Nat) : Int) ((8 * m.val ||| 2 ^ 6 : Nat) : Int) = some true := by decide +kernel
theorem tab4 : ∀ (m : Fin 64) (old : Bool), (8 * m.val).testBit 7 = false → tail 60 4 7 old ((8 * m.val : Nat) : Int) ((8 * m.val ||| 2 ^ 7 : Nat) : Int) = some true := by decide +kernel
theorem tab5 : ∀ (m : Fin 64) (old : Bool), (8 * m.val).testBit 8 = false → tail 60 5 8 old ((8 * m.val : Nat) : Int) ((8 * m.val ||| 2 ^ 8 : Nat) : Int) = some true := by decide +kernel
theorem tail_ok (u : Nat) (hu : u < 6) (a : Nat) (ha : a < 4294967296) (old : Bool) : tail 60 (u : Int) ((3 + u : Nat) : Int) old (Go.bits .andNot .u32 (Go.bits .and .u32 (a : Int) 1073741823) (shl .u32 1 ((3 + u : Nat) : Int))) (Go.bits .or .u32 (Go.bits .andNot .u32 (Go.bits .and .u32 (a : Int) 1073741823) (shl .u32 1 ((3 + u : Nat) : Int))) (shl .u32 1 ((3 + u : Nat) : Int))) = some true := by
  obtain ⟨r, h1, h2, h3, h4, h5, _, _⟩ := clause_off a (3 + u) ha (by omega)
  rw [h2, h3]
  rw [hasB_nat _ _ (by omega)] at h5
  have hm : r / 8 % 64 < 64 := Nat.mod_lt _ (by decide)
  have hk : 3 + u < 30 := by omega
  have hp : 2 ^ (3 + u) < 1073741824 := Nat.pow_lt_pow_right (by decide) hk
  have hor : 8 * (r / 8 % 64) ||| 2 ^ (3 + u) < 1073741824 := Nat.or_lt_two_pow (n := 30) (show _ < 2 ^ 30 by omega) hp
  have s1 : Same (r : Int) ((8 * (r / 8 % 64) : Nat) : Int) := same_of (by omega) (by omega) (fun c q1 q2 => few_bits r c q1 q2)
  have s2 : Same ((r ||| 2 ^ (3 + u) : Nat) : Int) ((8 * (r / 8 % 64) ||| 2 ^ (3 + u) : Nat) : Int) := same_of (by omega) (by omega) (fun c q1 q2 => by
    rw [Nat.testBit_or, Nat.testBit_or, few_bits r c q1 q2])
  rw [tail_same s1 s2]
  rw [few_bits r (3 + u) (by omega) (by omega)] at h5
  generalize r / 8 % 64 = m at h5 hm
  rcases (by omega : u = 0 ∨ u = 1 ∨ u = 2 ∨ u = 3 ∨ u = 4 ∨ u = 5) with rfl | rfl | rfl | rfl | rfl | rfl
  · exact tab0 ⟨m, hm⟩ old h5
  · exact tab1 ⟨m, hm⟩ old h5
  · exact tab2 ⟨m, hm⟩ old h5
  · exact tab3 ⟨m, hm⟩ old h5
  · exact tab4 ⟨m, hm⟩ old h5
  · exact tab5 ⟨m, hm⟩ old h5
theorem j0_mod (k : Nat) {x y : Int} (h : Int.tmod x 6 = Int.tmod y 6) (c e : Int) (m g : ByteArray) (n f : Int) (b : Bool) : parallaxlaw8_RequestClauses.j0 k x c e m g n f b = parallaxlaw8_RequestClauses.j0 k y c e m g n f b := by
  cases k with
  | zero => rfl
  | succ k => simp only [parallaxlaw8_RequestClauses.j0, h]
theorem known60 : parallaxlaw8_known.f 60 = some true := by decide +kernel
theorem RequestClauses : parallaxlaw8_RequestClauses.Pure := by
  intro a0 a1 old h0 h1
  have r0 := u8_wf h0
  have r1 := u32_wf h1
  obtain ⟨v, rfl⟩ : ∃ n : Nat, a0 = (n : Int) := ⟨a0.toNat, by omega⟩
  obtain ⟨a, rfl⟩ : ∃ n : Nat, a1 = (n : Int) := ⟨a1.toNat, by omega⟩
  have mv : Int.tmod (v : Int) 6 = ((v % 6 : Nat) : Int) := by rw [Int.tmod_eq_emod_of_nonneg (by omega)]; exact (Int.natCast_emod v 6).symm
  have hu : v % 6 < 6 := Nat.mod_lt _ (by decide)
  refine ⟨60, ?_⟩
  unfold parallaxlaw8_RequestClauses.f
  rw [known60, Option.bind_some, if_pos rfl, show parallaxref4_Usual.f = some (1024, 32, 8192, 65536, 32, 8, 4, 20, true, true) from rfl, Option.bind_some, Option.bind_some, mv]
  have mu : Int.tmod ((v % 6 : Nat) : Int) 6 = ((v % 6 : Nat) : Int) := by rw [Int.tmod_eq_emod_of_nonneg (by omega)]; omega
  simp only [j0_mod 60 (mv.trans mu.symm)]
  have t := tail_ok (v % 6) hu a (by omega) old
  generalize v % 6 = u at hu t
  rw [if_pos (by omega), if_pos (by show (u : Int) < 6; omega), Option.bind_some, if_pos (by show (u : Int) < 6; omega)]
  rcases (by omega : u = 0 ∨ u = 1 ∨ u = 2 ∨ u = 3 ∨ u = 4 ∨ u = 5) with rfl | rfl | rfl | rfl | rfl | rfl
  all_goals (rw [if_pos (by decide)]; exact t)
end Go.Proofs.YtclaaacdmaeblaaDoor.Pure
